/- Walks: the search for a route, of the program. -/
import Derived.Test.YtekikmdjldincaaQ9
import Derived.Test.YtekikmdjldincaaQ6
import Derived.Test.YtekikmdjldincaaProg
import Derived.Test.YtekikmdjldincaaQ5
set_option linter.unusedSimpArgs false
set_option linter.unusedVariables false
namespace Go.Proofs.Ytekikmdjldincaa
open Go Go.RowKit
namespace LspT
theorem Tagg_35 : aggOf Try.prog 35 = some 2 := by kernel_rfl
theorem Tagg_39 : aggOf Try.prog 39 = some 2 := by kernel_rfl
theorem Tagg_48 : aggOf Try.prog 48 = some 2 := by kernel_rfl
theorem Tagg_77 : aggOf Try.prog 77 = some 2 := by kernel_rfl
theorem Tagg_90 : aggOf Try.prog 90 = some 7 := by kernel_rfl
theorem Tcall_44 : callable Try.prog 44 = true := by kernel_rfl
theorem Tcall_49 : callable Try.prog 49 = true := by kernel_rfl
theorem Tcall_50 : callable Try.prog 50 = true := by kernel_rfl
theorem Tcall_51 : callable Try.prog 51 = true := by kernel_rfl
theorem Tcall_52 : callable Try.prog 52 = true := by kernel_rfl
theorem Tcall_53 : callable Try.prog 53 = true := by kernel_rfl
theorem Tcall_54 : callable Try.prog 54 = true := by kernel_rfl
theorem Tcall_55 : callable Try.prog 55 = true := by kernel_rfl
theorem Tfo_35_1 : fieldOff Try.prog 35 1 = some 1 := by kernel_rfl
theorem Tfo_39_0 : fieldOff Try.prog 39 0 = some 0 := by kernel_rfl
theorem Tfo_87_3 : fieldOff Try.prog 87 3 = some 5 := by kernel_rfl
theorem Tfo_90_0 : fieldOff Try.prog 90 0 = some 0 := by kernel_rfl
theorem Tfo_90_1 : fieldOff Try.prog 90 1 = some 6 := by kernel_rfl
theorem Tmapof_96 : mapOfT Try.prog 96 = some (94, 4) := by kernel_rfl
theorem Tone_3 : oneOf Try.prog 3 = true := by kernel_rfl
theorem Tone_33 : oneOf Try.prog 33 = true := by kernel_rfl
theorem Tone_46 : oneOf Try.prog 46 = true := by kernel_rfl
theorem Tone_85 : oneOf Try.prog 85 = true := by kernel_rfl
theorem Tsize_48 : (Try.prog.info? 48).map (·.size) = some 2 := by kernel_rfl
theorem Tsize_77 : (Try.prog.info? 77).map (·.size) = some 2 := by kernel_rfl
theorem Tsize_90 : (Try.prog.info? 90).map (·.size) = some 7 := by kernel_rfl
theorem Tsl_33 : sliceOf Try.prog 33 = some (77, 2, 16, [.int .i64 0, .int .i64 0]) := by kernel_rfl
theorem Tsl_97 : sliceOf Try.prog 97 = some (90, 7, 136, [.int .i64 0, .slice none 0 0, .int .i64 0, .slice none 0 0, .slice none 0 0, .slice none 0 0, .slice none 0 0]) := by kernel_rfl
theorem Tzero_48 : zeroOf Try.prog 48 = some [.slice none 0 0, .slice none 0 0] := by kernel_rfl
theorem Tzero_77 : zeroOf Try.prog 77 = some [.int .i64 0, .int .i64 0] := by kernel_rfl
theorem Tzero_90 : zeroOf Try.prog 90 = some [.int .i64 0, .slice none 0 0, .int .i64 0, .slice none 0 0, .slice none 0 0, .slice none 0 0, .slice none 0 0] := by kernel_rfl
end LspT
open LspT
def rkq (q : List (RK × List Nat)) (n : Nat) : List Value := q.map fun y => keyP y.1.1 y.1.2 n
theorem rkq_can {N Q : Int} {xs : List Int} {pn n : Nat} (h5 : N ≤ 5) (h40 : n ≤ 40) {q : List (RK × List Nat)} (h : ∀ y ∈ q, KOk N Q pn n xs y.1) : ∀ u ∈ rkq q n, Keyable Try.prog 94 u := by
  intro u hu
  obtain ⟨y, hy, rfl⟩ := List.mem_map.1 hu
  exact keyP_can (h y hy).pl h40 (pl_range h5 (h y hy).po)
theorem rkq_mem {N Q : Int} {xs : List Int} {pn n : Nat} (h5 : pn ≤ 5) {q : List (RK × List Nat)} (h : ∀ y ∈ q, KOk N Q pn n xs y.1) {k : RK} (hk : KOk N Q pn n xs k) : keyP k.1 k.2 n ∈ rkq q n ↔ k ∈ q.map (·.1) := by
  constructor
  · intro hm
    obtain ⟨y, hy, he⟩ := List.mem_map.1 hm
    obtain ⟨e1, e2⟩ := keyP_inj (h y hy).pl hk.pl h5 (h y hy).dl hk.dl he
    exact List.mem_map.2 ⟨y, hy, Prod.ext e1 e2⟩
  · intro hm
    obtain ⟨y, hy, rfl⟩ := List.mem_map.1 hm
    exact List.mem_map.2 ⟨y, hy, rfl⟩
section
variable {K : Type} [DecidableEq K] {step : K → Nat → K} {ok : Nat → Bool} {E : Nat} {s : K}
theorem bfs_succ {i : Nat} {x : K × List Nat} (h : (bfs step ok E s i)[i]? = some x) : bfs step ok E s (i + 1) = brow step ok x (bfs step ok E s i) E := by
  rw [bfs, h]
theorem brow_le (x : K × List Nat) (q : List (K × List Nat)) (e : Nat) : ∀ d, ∃ t, brow step ok x q (e + d) = brow step ok x q e ++ t
  | 0 => ⟨[], by simp⟩
  | d + 1 => by
    obtain ⟨t, ht⟩ := brow_le x q e d
    obtain ⟨u, hu⟩ := bvis_pre (step := step) (ok := ok) x (brow step ok x q (e + d)) (e + d)
    exact ⟨t ++ u, by rw [← Nat.add_assoc, brow, hu, ht, List.append_assoc]⟩
theorem brow_in {i : Nat} {x : K × List Nat} (h : (bfs step ok E s i)[i]? = some x) {e : Nat} (he : e ≤ E) : ∃ t, bfs step ok E s (i + 1) = brow step ok x (bfs step ok E s i) e ++ t := by
  rw [bfs_succ h]
  obtain ⟨t, ht⟩ := brow_le (step := step) (ok := ok) x (bfs step ok E s i) e (E - e)
  rw [show e + (E - e) = E by omega] at ht
  exact ⟨t, ht⟩
/-- A path is not longer than its place. -/
theorem bfs_plen (i : Nat) : ∀ (j : Nat) (y : K × List Nat), (bfs step ok E s i)[j]? = some y → y.2.length ≤ j := by
  have h := bfs_inv (step := step) (ok := ok) (E := E) (s := s) i
  intro j
  induction j using Nat.strongRecOn with
  | _ j ih =>
    intro y hy
    rcases h.form y (List.mem_of_getElem? hy) with h1 | ⟨m, e', z, hz, h1, _⟩
    · rw [h1]; simp
    · have hlt : m < j := by
        refine Nat.lt_of_not_le fun hle => ?_
        have hlt2 : slt z.2 y.2 := by rw [h1]; exact .inl (by simp)
        rcases Nat.lt_or_eq_of_le hle with h2 | h2
        · exact slt_irrefl _ (slt_trans hlt2 (pw_get (R := fun a b : K × List Nat => slt a.2 b.2) h.srt h2 hy hz))
        · subst h2; rw [hy] at hz; cases hz; exact slt_irrefl _ hlt2
      have := ih m hlt z hz
      rw [h1]; simp; omega
end
def rtS (M : Nat) (N : Int) (es : List Int) (m : Nat) (Q : Int) (xs : List Int) (n : Nat) (ps : List Int) (pn : Nat) : List Int := if rtB M N es m Q xs n ps pn then ps else []
theorem rt_no {M : Nat} {N Q : Int} {es xs ps : List Int} {m n pn : Nat} (h : rtO N es m Q xs n ps pn = false ∨ rtP M es m xs n (rS es m xs n ps) = none) : rtB M N es m Q xs n ps pn = false ∧ rtS M N es m Q xs n ps pn = [] ∧ rtL M N es m Q xs n ps pn = [] := by
  have hb : rtB M N es m Q xs n ps pn = false := by
    rcases h with h | h <;> simp [rtB, h]
  refine ⟨hb, by rw [rtS, hb]; rfl, ?_⟩
  rcases h with h | h
  · simp [rtL, h]
  · rw [rtL]; split
    · rw [h]
    · rfl
theorem rt_yes {M : Nat} {N Q : Int} {es xs ps : List Int} {m n pn : Nat} {p : List Nat} (ho : rtO N es m Q xs n ps pn = true) (h : rtP M es m xs n (rS es m xs n ps) = some p) : rtB M N es m Q xs n ps pn = true ∧ rtS M N es m Q xs n ps pn = ps ∧ rtL M N es m Q xs n ps pn = stp es m xs n (rS es m xs n ps) (rL es m xs n ps) p := by
  have hb : rtB M N es m Q xs n ps pn = true := by simp [rtB, ho, h]
  exact ⟨hb, by rw [rtS, hb]; rfl, by rw [rtL, if_pos ho, h]⟩

set_option maxHeartbeats 4000000 in
set_option maxRecDepth 20000 in
theorem leastRoute_spec {M : Nat} {N Q : Int} {vg vc vp : Value} {m n pn : Nat} {es xs ps : List Int} {w : World} (hM : 12800000 < M) (hg : Sl w vg 2 m (ints es)) (hc : Sl w vc 3 n (ints xs)) (hp : Sl w vp 1 pn (ints ps)) : Calls Try.prog 30 #[.agg #[.int .i64 N, vg], .agg #[.int .i64 Q, vc], vp] w (Post No w fun v H => ∃ v1 v2, v = .tuple #[.agg #[v1, v2], .bool (rtB M N es m Q xs n ps pn)] ∧ H = [.own v1 3 1 (rtS M N es m Q xs n ps pn).length (ints (rtS M N es m Q xs n ps pn)), .own v2 101 3 (rtL M N es m Q xs n ps pn).length (ints (fl3 (rtL M N es m Q xs n ps pn)))]) := by
  have hpl : ps.length = pn := by have := hp.len; omega
  have hel := hg.len
  have hml := hg.le
  obtain ⟨Ag, cg, rfl, _, _⟩ := hg.form0
  obtain ⟨Ac, cc, rfl, _, _⟩ := hc.form0
  obtain ⟨Av, cv, rfl, _, _⟩ := hp.form0
  refine enter (n := 85) (args := [.agg #[.int .i64 N, .slice Ag m cg], .agg #[.int .i64 Q, .slice Ac n cc], .slice Av pn cv]) Try.func30 rfl rfl (St.empty _ _) ?_
  refine Run.seq ?_
  refine Run.region ?_
  refine Run.step rfl (OpStep.box (us := [.int .i64 N, .slice Ag m cg]) rfl fun b1 => ?_)
  refine Run.step rfl (OpStep.box (us := [.int .i64 Q, .slice Ac n cc]) rfl fun b2 => ?_)
  refine Run.step rfl (OpStep.alloc (zs := [.slice none 0 0, .slice none 0 0]) Tzero_48 fun b3 => ?_)
  refine Run.q (v := .bool false) rfl (OpQ.y (OpY.pure rfl)) ?_
  refine Run.done ?_
  refine Run.seq ?_
  refine Run.seq ?_
  refine Run.region ?_
  refine Run.q (v := .agg #[.int .i64 N, .slice Ag m cg]) rfl (OpQ.y (OpY.loadN (cs := [.int .i64 N, .slice Ag m cg]) Tagg_35 rfl (Cells.blk (.tail _ (.tail _ (List.Mem.head _))) ⟨rfl, rfl, trivial⟩))) ?_
  refine Run.q (v := .agg #[.int .i64 Q, .slice Ac n cc]) rfl (OpQ.y (OpY.loadN (cs := [.int .i64 Q, .slice Ac n cc]) Tagg_39 rfl (Cells.blk (.tail _ (List.Mem.head _)) ⟨rfl, rfl, trivial⟩))) ?_
  refine Run.q (v := .bool (smB N es m Q xs n)) rfl (OpQ.call (vs := [.agg #[.int .i64 N, .slice Ag m cg], .agg #[.int .i64 Q, .slice Ac n cc]]) (caps := []) Tcall_44 rfl rfl (fun w hs => canSearch_spec (hs.sl hg) (hs.sl hc))) ?_
  refine Run.q (v := .bool (!(smB N es m Q xs n))) rfl (OpQ.y (OpY.pure rfl)) ?_
  rcases Bool.eq_false_or_eq_true (!(smB N es m Q xs n)) with h20 | h20
  · refine Run.q (v := .bool true) rfl (OpQ.y (OpY.moveB rfl h20)) ?_
    have p20 := h20; try simp only [bs] at p20
    have hno := rt_no (M := M) (N := N) (es := es) (m := m) (Q := Q) (xs := xs) (n := n) (ps := ps) (pn := pn) (.inl (by rw [rtO, show smB N es m Q xs n = false by simpa using p20]; rfl))
    refine Run.pass rfl ?_
    refine Run.pass rfl ?_
    refine Run.pass rfl ?_
    refine Run.pass rfl ?_
    refine Run.pass rfl ?_
    refine Run.pass rfl ?_
    refine Run.q (v := .bool true) rfl (OpQ.y (OpY.pure rfl)) ?_
    refine Run.done ?_
    refine Run.cond (b := true) rfl (fun _ => ?_) (fun h => nomatch h)
    refine Run.seq ?_
    refine Run.region ?_
    refine Run.q (v := .agg #[.slice none 0 0, .slice none 0 0]) rfl (OpQ.y (OpY.build (cs := [.slice none 0 0, .slice none 0 0]) (by kernel_rfl))) ?_
    refine Run.step rfl (OpStep.storeAll (us := [.slice none 0 0, .slice none 0 0]) Tsize_48 rfl rfl rfl (.here _) rfl ?_)
    refine Run.q (v := .bool false) rfl (OpQ.y (OpY.pure rfl)) ?_
    refine Run.done ?_
    refine Run.ret ?_
    refine ⟨.tuple #[.agg #[.slice none 0 0, .slice none 0 0], .bool false], [.own (.slice none 0 0) 3 1 0 ([]), .own (.slice none 0 0) 101 3 0 ([])], Out.cell2 (cs := [.slice none 0 0, .slice none 0 0]) rfl Tagg_48 rfl (Cells.blk (.head _) ⟨rfl, rfl, trivial⟩) rfl, ((Weak.nilOwn 101 3).trans ((Weak.nilOwn 3 1).trans (Some'.weak (.take (.take (.nil _)))))), ?_⟩
    exact ⟨_, _, by rw [hno.1], by rw [hno.2.1, hno.2.2]; rfl⟩
  · refine Run.q (v := .bool false) rfl (OpQ.y (OpY.moveB rfl h20)) ?_
    have p20 := h20; try simp only [bs] at p20
    have hsm : smB N es m Q xs n = true := by simpa using p20
    have hcN0 : 1 ≤ N ∧ N ≤ 8 := by
      simp only [smB, fitOk, Bool.and_eq_true] at hsm
      exact cgOk_N hsm.1.1.1.1.1
    refine Run.q (v := .agg #[.int .i64 N, .slice Ag m cg]) rfl (OpQ.y (OpY.loadN (cs := [.int .i64 N, .slice Ag m cg]) Tagg_35 rfl (Cells.blk (.tail _ (.tail _ (List.Mem.head _))) ⟨rfl, rfl, trivial⟩))) ?_
    refine Run.q (v := .pointer (some ⟨b2, 0, none⟩)) rfl (OpQ.y (OpY.fieldAddr Tfo_39_0 rfl rfl)) ?_
    refine Run.q (v := .int .i64 Q) rfl (OpQ.y (OpY.load1 Tone_3 rfl (Cells.blk (.tail _ (List.Mem.head _)) ⟨rfl, trivial⟩))) ?_
    refine Run.q (v := .slice Av pn cv) rfl (OpQ.y (OpY.pure rfl)) ?_
    refine Run.q (v := .bool (plOk N Q ps pn)) rfl (OpQ.call (vs := [.agg #[.int .i64 N, .slice Ag m cg], .int .i64 Q, .slice Av pn cv]) (caps := []) Tcall_49 rfl rfl (fun w hs => isPlacement_spec hcN0 (hs.sl hp))) ?_
    refine Run.q (v := .bool (!(plOk N Q ps pn))) rfl (OpQ.y (OpY.pure rfl)) ?_
    refine Run.q (v := .bool (!(plOk N Q ps pn))) rfl (OpQ.y (OpY.pure rfl)) ?_
    refine Run.done ?_
    refine Run.cond (b := !(plOk N Q ps pn)) rfl (fun h27 => ?_) (fun h27 => ?_)
    · have p27 := h27; try simp only [bs] at p27
      have hno := rt_no (M := M) (N := N) (es := es) (m := m) (Q := Q) (xs := xs) (n := n) (ps := ps) (pn := pn) (.inl (by rw [rtO, show plOk N Q ps pn = false by simpa using p27, Bool.and_false]))
      refine Run.seq ?_
      refine Run.region ?_
      refine Run.q (v := .agg #[.slice none 0 0, .slice none 0 0]) rfl (OpQ.y (OpY.build (cs := [.slice none 0 0, .slice none 0 0]) (by kernel_rfl))) ?_
      refine Run.step rfl (OpStep.storeAll (us := [.slice none 0 0, .slice none 0 0]) Tsize_48 rfl rfl rfl (.here _) rfl ?_)
      refine Run.q (v := .bool false) rfl (OpQ.y (OpY.pure rfl)) ?_
      refine Run.done ?_
      refine Run.ret ?_
      refine ⟨.tuple #[.agg #[.slice none 0 0, .slice none 0 0], .bool false], [.own (.slice none 0 0) 3 1 0 ([]), .own (.slice none 0 0) 101 3 0 ([])], Out.cell2 (cs := [.slice none 0 0, .slice none 0 0]) rfl Tagg_48 rfl (Cells.blk (.head _) ⟨rfl, rfl, trivial⟩) rfl, ((Weak.nilOwn 101 3).trans ((Weak.nilOwn 3 1).trans (Some'.weak (.take (.take (.nil _)))))), ?_⟩
      exact ⟨_, _, by rw [hno.1], by rw [hno.2.1, hno.2.2]; rfl⟩
    · have p27 := h27; try simp only [bs] at p27
      have hO : rtO N es m Q xs n ps pn = true := by
        have h : plOk N Q ps pn = true := by simpa using p27
        rw [rtO, hsm, h]; rfl
      have hF := rtF_of hO
      have hn40 := hF.hn
      have hpn5 := hF.hpn
      have hin0 : HIN n pn xs ps := hin_of hF.hci hF.hpl
      have hdl0 : (List.replicate n false).length = n := List.length_replicate
      obtain ⟨D0, hD0⟩ : ∃ d, (advS (goB es m xs ps) n (List.replicate n false) []).1 = d := ⟨_, rfl⟩
      obtain ⟨L0, hL0⟩ : ∃ d, (advS (goB es m xs ps) n (List.replicate n false) []).2 = d := ⟨_, rfl⟩
      have hS0 : rS es m xs n ps = (ps, D0) := by rw [rS, hD0]
      have hLL0 : rL es m xs n ps = L0 := hL0
      have hK0 : KOk N Q pn n xs (ps, D0) := by have h := rS_ok hF hpl; rwa [hS0] at h
      have hL0l : L0.length + und D0 = und (List.replicate n false) := by
        have h := advS_len (es := es) (m := m) (xs := xs) (ps := ps) (n := n) _ (List.replicate n false) [] rfl hdl0
        rw [hD0, hL0] at h; simpa using h
      have hu40 : und (List.replicate n false) ≤ 40 := by
        refine Nat.le_trans (List.count_le_length) ?_
        rw [hdl0]; exact hn40
      refine Run.skip ?_
      refine Run.seq ?_
      refine Run.region ?_
      refine Run.q (v := .agg #[.int .i64 N, .slice Ag m cg]) rfl (OpQ.y (OpY.loadN (cs := [.int .i64 N, .slice Ag m cg]) Tagg_35 rfl (Cells.blk (.tail _ (.tail _ (List.Mem.head _))) ⟨rfl, rfl, trivial⟩))) ?_
      refine Run.q (v := .agg #[.int .i64 Q, .slice Ac n cc]) rfl (OpQ.y (OpY.loadN (cs := [.int .i64 Q, .slice Ac n cc]) Tagg_39 rfl (Cells.blk (.tail _ (List.Mem.head _)) ⟨rfl, rfl, trivial⟩))) ?_
      refine Run.q (v := .slice Av pn cv) rfl (OpQ.y (OpY.pure rfl)) ?_
      refine Run.step rfl (OpStep.call (vs := [.agg #[.int .i64 N, .slice Ag m cg], .agg #[.int .i64 Q, .slice Ac n cc], .slice Av pn cv]) (caps := []) Tcall_50 rfl rfl (fun w hs => newRouting_spec (by omega) (by omega) (by omega) (hs.sl hg) (hs.sl hc) (hs.sl hp)) ?_)
      rintro _ _ ⟨up0, ud0, rfl, rfl⟩
      show Run _ _ (putF _ _ _ (.agg #[.int .i64 N, .slice Ag m cg, .int .i64 Q, .slice Ac n cc, up0, ud0])) [.own up0 3 1 pn (ints ps), .own ud0 4 1 n ((List.replicate n ([.bool false] : List Value)).flatten), .blk b3 48 [.slice none 0 0, .slice none 0 0], .blk b2 39 [.int .i64 Q, .slice Ac n cc], .blk b1 35 [.int .i64 N, .slice Ag m cg]]
      refine Run.formOwn (.head _) (fun A_up01 c_up01 hv hcapc_up01 hmaxc_up01 => ?_) (fun _ _ _ => ⟨nofun, nofun, nofun⟩)
      subst hv
      refine Run.formOwn (.tail _ (List.Mem.head _)) (fun A_ud01 c_ud01 hv hcapc_ud01 hmaxc_ud01 => ?_) (fun _ _ _ => ⟨nofun, nofun, nofun⟩)
      subst hv
      refine Run.q (v := .agg #[.int .i64 N, .slice Ag m cg, .int .i64 Q, .slice Ac n cc, .slice A_up01 pn c_up01, .slice A_ud01 n c_ud01, .slice none 0 0]) rfl (OpQ.y (OpY.build (cs := [.int .i64 N, .slice Ag m cg, .int .i64 Q, .slice Ac n cc, .slice A_up01 pn c_up01, .slice A_ud01 n c_ud01, .slice none 0 0]) (by kernel_rfl))) ?_
      refine Run.step rfl (OpStep.alloc (zs := [.int .i64 0, .slice none 0 0, .int .i64 0, .slice none 0 0, .slice none 0 0, .slice none 0 0, .slice none 0 0]) Tzero_90 fun b4 => ?_)
      refine Run.step rfl (OpStep.storeAll (us := [.int .i64 N, .slice Ag m cg, .int .i64 Q, .slice Ac n cc, .slice A_up01 pn c_up01, .slice A_ud01 n c_ud01, .slice none 0 0]) Tsize_90 rfl rfl rfl (.here _) rfl ?_)
      refine Run.done ?_
      rw [bls_rep]
      show Run _ _ _ [.blk b4 90 [.int .i64 N, .slice Ag m cg, .int .i64 Q, .slice Ac n cc, .slice A_up01 pn c_up01, .slice A_ud01 n c_ud01, .slice none 0 0], .own (.slice A_up01 pn c_up01) 3 1 pn (ints ps), .own (.slice A_ud01 n c_ud01) 4 1 n (bls (List.replicate n false)), .blk b3 48 [.slice none 0 0, .slice none 0 0], .blk b2 39 [.int .i64 Q, .slice Ac n cc], .blk b1 35 [.int .i64 N, .slice Ag m cg]]
      refine Run.seq ?_
      refine Run.weak (H' := [.own (.slice none 0 0) 101 3 0 (ints (fl3 [])), .blk b4 90 [.int .i64 N, .slice Ag m cg, .int .i64 Q, .slice Ac n cc, .slice A_up01 pn c_up01, .slice A_ud01 n c_ud01, .slice none 0 0], .own (.slice A_up01 pn c_up01) 3 1 pn (ints ps), .own (.slice A_ud01 n c_ud01) 4 1 n (bls (List.replicate n false)), .blk b3 48 [.slice none 0 0, .slice none 0 0], .blk b2 39 [.int .i64 Q, .slice Ac n cc], .blk b1 35 [.int .i64 N, .slice Ag m cg]]) (Weak.nilOwn _ _) ?_ ⟨_, _, rfl, fun _ => nofun, fun _ => nofun⟩
      refine Run.region ?_
      refine Run.step rfl (OpStep.callM (H1 := [.blk b4 90 [.int .i64 N, .slice Ag m cg, .int .i64 Q, .slice Ac n cc, .slice A_up01 pn c_up01, .slice A_ud01 n c_ud01, .slice none 0 0], .own (.slice A_ud01 n c_ud01) 4 1 n (bls (List.replicate n false)), .own (.slice none 0 0) 101 3 0 (ints (fl3 []))]) (H2 := [.own (.slice A_up01 pn c_up01) 3 1 pn (ints ps), .blk b3 48 [.slice none 0 0, .slice none 0 0], .blk b2 39 [.int .i64 Q, .slice Ac n cc], .blk b1 35 [.int .i64 N, .slice Ag m cg]]) (vs := [.pointer (some ⟨b4, 0, none⟩)]) (caps := []) Tcall_51 rfl rfl (Weak.selF [1, 2, 0]) (fun w hs => advance_spec (L0 := []) (by omega) hdl0 hF.he hin0 (by show 0 ≤ _; omega) (Ap.arg hg hs) (Ap.arg hc hs) (Ap.own (.head _) hs) (hs.sub (List.sublist_append_left _ _)).self) ?_)
      rintro _ _ ⟨vd2, vs2, rfl, rfl⟩
      show Run _ _ (putF _ _ _ (.tuple #[])) [.blk b4 90 [.int .i64 N, .slice Ag m cg, .int .i64 Q, .slice Ac n cc, .slice A_up01 pn c_up01, vd2, vs2], .own vd2 4 1 n (bls (advS (goB es m xs ps) n (List.replicate n false) []).1), .own vs2 101 3 ((advS (goB es m xs ps) n (List.replicate n false) []).2.length) (ints (fl3 (advS (goB es m xs ps) n (List.replicate n false) []).2)), .own (.slice A_up01 pn c_up01) 3 1 pn (ints ps), .blk b3 48 [.slice none 0 0, .slice none 0 0], .blk b2 39 [.int .i64 Q, .slice Ac n cc], .blk b1 35 [.int .i64 N, .slice Ag m cg]]
      refine Run.done ?_
      rw [hD0, hL0]
      show Run _ _ _ [.blk b4 90 [.int .i64 N, .slice Ag m cg, .int .i64 Q, .slice Ac n cc, .slice A_up01 pn c_up01, vd2, vs2], .own vd2 4 1 n (bls D0), .own vs2 101 3 (L0.length) (ints (fl3 L0)), .own (.slice A_up01 pn c_up01) 3 1 pn (ints ps), .blk b3 48 [.slice none 0 0, .slice none 0 0], .blk b2 39 [.int .i64 Q, .slice Ac n cc], .blk b1 35 [.int .i64 N, .slice Ag m cg]]
      refine Run.weak (H' := [.grp 101 3 ([]), .blk b4 90 [.int .i64 N, .slice Ag m cg, .int .i64 Q, .slice Ac n cc, .slice A_up01 pn c_up01, vd2, vs2], .own vd2 4 1 n (bls D0), .own vs2 101 3 (L0.length) (ints (fl3 L0)), .own (.slice A_up01 pn c_up01) 3 1 pn (ints ps), .blk b3 48 [.slice none 0 0, .slice none 0 0], .blk b2 39 [.int .i64 Q, .slice Ac n cc], .blk b1 35 [.int .i64 N, .slice Ag m cg]]) (Weak.grpNil _ _) ?_ ⟨_, _, rfl, fun _ => nofun, fun _ => nofun⟩
      refine Run.weak (H' := [.grp 4 1 ([]), .grp 101 3 ([]), .blk b4 90 [.int .i64 N, .slice Ag m cg, .int .i64 Q, .slice Ac n cc, .slice A_up01 pn c_up01, vd2, vs2], .own vd2 4 1 n (bls D0), .own vs2 101 3 (L0.length) (ints (fl3 L0)), .own (.slice A_up01 pn c_up01) 3 1 pn (ints ps), .blk b3 48 [.slice none 0 0, .slice none 0 0], .blk b2 39 [.int .i64 Q, .slice Ac n cc], .blk b1 35 [.int .i64 N, .slice Ag m cg]]) (Weak.grpNil _ _) ?_ ⟨_, _, rfl, fun _ => nofun, fun _ => nofun⟩
      refine Run.weak (H' := [.grp 3 1 ([]), .grp 4 1 ([]), .grp 101 3 ([]), .blk b4 90 [.int .i64 N, .slice Ag m cg, .int .i64 Q, .slice Ac n cc, .slice A_up01 pn c_up01, vd2, vs2], .own vd2 4 1 n (bls D0), .own vs2 101 3 (L0.length) (ints (fl3 L0)), .own (.slice A_up01 pn c_up01) 3 1 pn (ints ps), .blk b3 48 [.slice none 0 0, .slice none 0 0], .blk b2 39 [.int .i64 Q, .slice Ac n cc], .blk b1 35 [.int .i64 N, .slice Ag m cg]]) (Weak.grpNil _ _) ?_ ⟨_, _, rfl, fun _ => nofun, fun _ => nofun⟩
      refine Run.weak (H' := [.grp 3 1 (pgp pn [((.slice A_up01 pn c_up01 : Value), vd2, vs2, ((ps, D0) : RK), ([] : List Nat))]), .grp 4 1 ([]), .grp 101 3 ([]), .blk b4 90 [.int .i64 N, .slice Ag m cg, .int .i64 Q, .slice Ac n cc, .slice A_up01 pn c_up01, vd2, vs2], .own vd2 4 1 n (bls D0), .own vs2 101 3 (L0.length) (ints (fl3 L0)), .blk b3 48 [.slice none 0 0, .slice none 0 0], .blk b2 39 [.int .i64 Q, .slice Ac n cc], .blk b1 35 [.int .i64 N, .slice Ag m cg]]) ((Weak.selF [6, 0]).trans (Weak.pgSnoc (zs := []) (z := ((.slice A_up01 pn c_up01 : Value), vd2, vs2, ((ps, D0) : RK), ([] : List Nat))))) ?_ ⟨_, _, rfl, fun _ => nofun, fun _ => nofun⟩
      refine Run.weak (H' := [.grp 4 1 (dgp n [((.slice A_up01 pn c_up01 : Value), vd2, vs2, ((ps, D0) : RK), ([] : List Nat))]), .grp 3 1 (pgp pn [((.slice A_up01 pn c_up01 : Value), vd2, vs2, ((ps, D0) : RK), ([] : List Nat))]), .grp 101 3 ([]), .blk b4 90 [.int .i64 N, .slice Ag m cg, .int .i64 Q, .slice Ac n cc, .slice A_up01 pn c_up01, vd2, vs2], .own vs2 101 3 (L0.length) (ints (fl3 L0)), .blk b3 48 [.slice none 0 0, .slice none 0 0], .blk b2 39 [.int .i64 Q, .slice Ac n cc], .blk b1 35 [.int .i64 N, .slice Ag m cg]]) ((Weak.selF [4, 1]).trans (Weak.dgSnoc (zs := []) (z := ((.slice A_up01 pn c_up01 : Value), vd2, vs2, ((ps, D0) : RK), ([] : List Nat))))) ?_ ⟨_, _, rfl, fun _ => nofun, fun _ => nofun⟩
      refine Run.weak (H' := [.grp 101 3 (sgp (stp es m xs n (ps, D0) L0) [((.slice A_up01 pn c_up01 : Value), vd2, vs2, ((ps, D0) : RK), ([] : List Nat))]), .grp 4 1 (dgp n [((.slice A_up01 pn c_up01 : Value), vd2, vs2, ((ps, D0) : RK), ([] : List Nat))]), .grp 3 1 (pgp pn [((.slice A_up01 pn c_up01 : Value), vd2, vs2, ((ps, D0) : RK), ([] : List Nat))]), .blk b4 90 [.int .i64 N, .slice Ag m cg, .int .i64 Q, .slice Ac n cc, .slice A_up01 pn c_up01, vd2, vs2], .blk b3 48 [.slice none 0 0, .slice none 0 0], .blk b2 39 [.int .i64 Q, .slice Ac n cc], .blk b1 35 [.int .i64 N, .slice Ag m cg]]) ((Weak.selF [4, 2]).trans (Weak.sgSnoc (S := (stp es m xs n (ps, D0) L0)) (zs := []) (z := ((.slice A_up01 pn c_up01 : Value), vd2, vs2, ((ps, D0) : RK), ([] : List Nat))))) ?_ ⟨_, _, rfl, fun _ => nofun, fun _ => nofun⟩
      refine Run.seq ?_
      refine Run.cut (ι := Nat × Value) [9, 10, 35, 36, 37, 38, 39, 40] (fun ⟨bm, vq⟩ => [(9, .map (some bm)), (10, vq)]) (fun ⟨bm, vq⟩ => [.own vq 90 7 (([((.slice A_up01 pn c_up01 : Value), vd2, vs2, ((ps, D0) : RK), ([] : List Nat))]).length) (rcells N (.slice Ag m cg) Q (.slice Ac n cc) ([((.slice A_up01 pn c_up01 : Value), vd2, vs2, ((ps, D0) : RK), ([] : List Nat))])), .grp 3 1 (pgp pn ([((.slice A_up01 pn c_up01 : Value), vd2, vs2, ((ps, D0) : RK), ([] : List Nat))])), .grp 4 1 (dgp n ([((.slice A_up01 pn c_up01 : Value), vd2, vs2, ((ps, D0) : RK), ([] : List Nat))])), .grp 101 3 (sgp (stp es m xs n (ps, D0) L0) ([((.slice A_up01 pn c_up01 : Value), vd2, vs2, ((ps, D0) : RK), ([] : List Nat))])), .mp bm (setKv (rkq (rk ([((.slice A_up01 pn c_up01 : Value), vd2, vs2, ((ps, D0) : RK), ([] : List Nat))])) n)), .blk b4 90 [.int .i64 N, .slice Ag m cg, .int .i64 Q, .slice Ac n cc, .slice A_up01 pn c_up01, vd2, vs2], .blk b3 48 [.slice none 0 0, .slice none 0 0], .blk b2 39 [.int .i64 Q, .slice Ac n cc], .blk b1 35 [.int .i64 N, .slice Ag m cg]]) (fun ⟨bm, vq⟩ => True) ?_ ?_
      · refine Run.held (by kernel_rfl) ?_
        refine DW.take (i := 1) (v := .agg #[.int .i64 N, .slice Ag m cg, .int .i64 Q, .slice Ac n cc, .slice A_up01 pn c_up01, vd2, vs2]) rfl (by kernel_rfl) (by kernel_rfl) (by kernel_rfl) (fun _ _ _ h => h) (Weak.refl _) rfl (OpY.loadN (cs := [.int .i64 N, .slice Ag m cg, .int .i64 Q, .slice Ac n cc, .slice A_up01 pn c_up01, vd2, vs2]) Tagg_90 rfl (Cells.blk (.tail _ (.tail _ (.tail _ (List.Mem.head _)))) ⟨rfl, rfl, rfl, rfl, rfl, rfl, rfl, trivial⟩)) ?_
        refine DW.take (i := 5) (v := .agg #[.int .i64 N, .slice Ag m cg, .int .i64 Q, .slice Ac n cc, .slice A_up01 pn c_up01, vd2, vs2]) rfl (by kernel_rfl) (by kernel_rfl) (by kernel_rfl) (fun _ _ _ h => h) (Weak.refl _) rfl (OpY.loadN (cs := [.int .i64 N, .slice Ag m cg, .int .i64 Q, .slice Ac n cc, .slice A_up01 pn c_up01, vd2, vs2]) Tagg_90 rfl (Cells.blk (.tail _ (.tail _ (.tail _ (List.Mem.head _)))) ⟨rfl, rfl, rfl, rfl, rfl, rfl, rfl, trivial⟩)) ?_
        refine DW.three (i := 0) (j := 2) (l := 6) (by kernel_rfl) rfl rfl rfl rfl rfl rfl ?_ ?_ ?_
        · refine OpStep.makeMap fun b5 => ?_
          refine ⟨(Some'.weak (.skip (.take (.take (.take (.take (.take (.take (.take (.nil _)))))))))), ?_⟩
          refine DW.two (i := 2) (j := 6) (by kernel_rfl) rfl rfl rfl rfl ?_ ?_
          · refine OpStep.q (v := keyP ps D0 n) (OpQ.call (vs := [.agg #[.int .i64 N, .slice Ag m cg, .int .i64 Q, .slice Ac n cc, .slice A_up01 pn c_up01, vd2, vs2]]) (caps := []) Tcall_52 rfl rfl (fun w hs => routeKey_spec (by omega) hF.hpn.1 hF.hpn.2 (hs.slGrpR (p := pm pn ((.slice A_up01 pn c_up01 : Value), vd2, vs2, ((ps, D0) : RK), ([] : List Nat))) (.tail _ (.tail _ (.tail _ (List.Mem.head _)))) (pg_mem (.head _))) (hs.slGrpR (p := dm n ((.slice A_up01 pn c_up01 : Value), vd2, vs2, ((ps, D0) : RK), ([] : List Nat))) (.tail _ (.tail _ (List.Mem.head _))) (dg_mem (.head _))))) ?_
            refine ⟨(Some'.weak (.skip (.take (.take (.take (.take (.take (.take (.take (.nil _)))))))))), ?_⟩
            refine DW.two (i := 3) (j := 6) (by kernel_rfl) rfl rfl rfl rfl ?_ ?_
            · refine OpStep.insertLit (ks := []) (key := keyP ps D0 n) Tmapof_96 rk_law rfl rfl rfl (by rw [show ([]) ++ [keyP ps D0 n] = rkq (rk [((.slice A_up01 pn c_up01 : Value), vd2, vs2, ((ps, D0) : RK), ([] : List Nat))]) n from by rfl]; exact (.here _)) (by simp) (keyP_can hK0.pl hF.hn (pl_range hF.hN.2 hK0.po)) (by simp) ?_
              refine ⟨(Some'.weak (.skip (.take (.take (.take (.take (.take (.take (.take (.nil _)))))))))), ?_⟩
              refine DW.take (i := 4) (v := .map (some b5)) rfl (by kernel_rfl) (by kernel_rfl) (by kernel_rfl) (fun _ _ _ h => h) (Some'.weak (.skip (.take (.take (.take (.take (.take (.take (.take (.nil _)))))))))) rfl (OpY.pure rfl) ?_
              refine DW.take (i := 7) (v := .map (some b5)) rfl (by kernel_rfl) (by kernel_rfl) (by kernel_rfl) (fun _ _ _ h => h) (Some'.weak (.skip (.take (.take (.take (.take (.take (.take (.take (.nil _)))))))))) rfl (OpY.pure rfl) ?_
              refine DW.step (i := 6) (by kernel_rfl) rfl rfl (OpStep.buildSlice (us := [.int .i64 N, .slice Ag m cg, .int .i64 Q, .slice Ac n cc, .slice A_up01 pn c_up01, vd2, vs2]) Tsl_97 (by decide) (by decide) ⟨rfl, [.int .i64 N, .slice Ag m cg, .int .i64 Q, .slice Ac n cc, .slice A_up01 pn c_up01, vd2, vs2], _, rfl, rfl, rfl, rfl⟩ rfl fun b6 => ?_)
              refine ⟨(Some'.weak (.skip (.skip (.take (.take (.take (.take (.take (.take (.take (.nil _))))))))))), ?_⟩
              refine DW.take (i := 8) (v := .slice (some ⟨b6, 0, none⟩) 1 1) rfl (by kernel_rfl) (by kernel_rfl) (by kernel_rfl) (fun _ _ _ h => h) (Some'.weak (.skip (.skip (.take (.take (.take (.take (.take (.take (.take (.nil _))))))))))) rfl (OpY.pure rfl) ?_
              refine DW.done (by kernel_rfl) ?_
              refine Run.goal ⟨(by repeat (first | exact Same.refl _ _ | refine Same.put rfl ?_ | refine Same.over rfl rfl ?_)), (b5, .slice (some ⟨b6, 0, none⟩) 1 1), ?_, ?_, ?_⟩
              · trivial
              · exact ⟨(by first | rfl | (congr 1; omega) | simp [*]), (by first | rfl | (congr 1; omega) | simp [*]), trivial⟩
              · exact ((Weak.selF [0, 3, 2, 1, 0, 0, 0, 0, 0]).trans (Some'.weak (.takeEq (by first | rfl | simp) (.takeEq (by first | rfl | simp) (.takeEq (by first | rfl | simp) (.takeEq (by first | rfl | simp) (.takeEq (by first | rfl | simp) (.take (.take (.take (.take (.nil _))))))))))))
            · refine OpStep.buildSlice (us := [.int .i64 N, .slice Ag m cg, .int .i64 Q, .slice Ac n cc, .slice A_up01 pn c_up01, vd2, vs2]) Tsl_97 (by decide) (by decide) ⟨rfl, [.int .i64 N, .slice Ag m cg, .int .i64 Q, .slice Ac n cc, .slice A_up01 pn c_up01, vd2, vs2], _, rfl, rfl, rfl, rfl⟩ rfl fun b7 => ?_
              refine ⟨(Some'.weak (.skip (.skip (.take (.take (.take (.take (.take (.take (.take (.nil _))))))))))), ?_⟩
              refine DW.step (i := 3) (by kernel_rfl) rfl rfl (OpStep.insertLit (ks := []) (key := keyP ps D0 n) Tmapof_96 rk_law rfl rfl rfl (by rw [show ([]) ++ [keyP ps D0 n] = rkq (rk [((.slice A_up01 pn c_up01 : Value), vd2, vs2, ((ps, D0) : RK), ([] : List Nat))]) n from by rfl]; exact (.there _ (.here _))) (by simp) (keyP_can hK0.pl hF.hn (pl_range hF.hN.2 hK0.po)) (by simp) ?_)
              refine ⟨(Some'.weak (.skip (.skip (.take (.take (.take (.take (.take (.take (.take (.nil _))))))))))), ?_⟩
              refine DW.take (i := 4) (v := .map (some b5)) rfl (by kernel_rfl) (by kernel_rfl) (by kernel_rfl) (fun _ _ _ h => h) (Some'.weak (.skip (.skip (.take (.take (.take (.take (.take (.take (.take (.nil _))))))))))) rfl (OpY.pure rfl) ?_
              refine DW.take (i := 7) (v := .map (some b5)) rfl (by kernel_rfl) (by kernel_rfl) (by kernel_rfl) (fun _ _ _ h => h) (Some'.weak (.skip (.skip (.take (.take (.take (.take (.take (.take (.take (.nil _))))))))))) rfl (OpY.pure rfl) ?_
              refine DW.take (i := 8) (v := .slice (some ⟨b7, 0, none⟩) 1 1) rfl (by kernel_rfl) (by kernel_rfl) (by kernel_rfl) (fun _ _ _ h => h) (Some'.weak (.skip (.skip (.take (.take (.take (.take (.take (.take (.take (.nil _))))))))))) rfl (OpY.pure rfl) ?_
              refine DW.done (by kernel_rfl) ?_
              refine Run.goal ⟨(by repeat (first | exact Same.refl _ _ | refine Same.put rfl ?_ | refine Same.over rfl rfl ?_)), (b5, .slice (some ⟨b7, 0, none⟩) 1 1), ?_, ?_, ?_⟩
              · trivial
              · exact ⟨(by first | rfl | (congr 1; omega) | simp [*]), (by first | rfl | (congr 1; omega) | simp [*]), trivial⟩
              · exact ((Weak.selF [0, 3, 2, 1, 0, 0, 0, 0, 0]).trans (Some'.weak (.takeEq (by first | rfl | simp) (.takeEq (by first | rfl | simp) (.takeEq (by first | rfl | simp) (.takeEq (by first | rfl | simp) (.takeEq (by first | rfl | simp) (.take (.take (.take (.take (.nil _))))))))))))
          · refine OpStep.buildSlice (us := [.int .i64 N, .slice Ag m cg, .int .i64 Q, .slice Ac n cc, .slice A_up01 pn c_up01, vd2, vs2]) Tsl_97 (by decide) (by decide) ⟨rfl, [.int .i64 N, .slice Ag m cg, .int .i64 Q, .slice Ac n cc, .slice A_up01 pn c_up01, vd2, vs2], _, rfl, rfl, rfl, rfl⟩ rfl fun b8 => ?_
            refine ⟨(Some'.weak (.skip (.skip (.take (.take (.take (.take (.take (.take (.take (.nil _))))))))))), ?_⟩
            refine DW.step (i := 2) (by kernel_rfl) rfl rfl (OpStep.q (v := keyP ps D0 n) (OpQ.call (vs := [.agg #[.int .i64 N, .slice Ag m cg, .int .i64 Q, .slice Ac n cc, .slice A_up01 pn c_up01, vd2, vs2]]) (caps := []) Tcall_52 rfl rfl (fun w hs => routeKey_spec (by omega) hF.hpn.1 hF.hpn.2 (hs.slGrpR (p := pm pn ((.slice A_up01 pn c_up01 : Value), vd2, vs2, ((ps, D0) : RK), ([] : List Nat))) (.tail _ (.tail _ (.tail _ (.tail _ (List.Mem.head _))))) (pg_mem (.head _))) (hs.slGrpR (p := dm n ((.slice A_up01 pn c_up01 : Value), vd2, vs2, ((ps, D0) : RK), ([] : List Nat))) (.tail _ (.tail _ (.tail _ (List.Mem.head _)))) (dg_mem (.head _))))) ?_)
            refine ⟨(Some'.weak (.skip (.skip (.take (.take (.take (.take (.take (.take (.take (.nil _))))))))))), ?_⟩
            refine DW.step (i := 3) (by kernel_rfl) rfl rfl (OpStep.insertLit (ks := []) (key := keyP ps D0 n) Tmapof_96 rk_law rfl rfl rfl (by rw [show ([]) ++ [keyP ps D0 n] = rkq (rk [((.slice A_up01 pn c_up01 : Value), vd2, vs2, ((ps, D0) : RK), ([] : List Nat))]) n from by rfl]; exact (.there _ (.here _))) (by simp) (keyP_can hK0.pl hF.hn (pl_range hF.hN.2 hK0.po)) (by simp) ?_)
            refine ⟨(Some'.weak (.skip (.skip (.take (.take (.take (.take (.take (.take (.take (.nil _))))))))))), ?_⟩
            refine DW.take (i := 4) (v := .map (some b5)) rfl (by kernel_rfl) (by kernel_rfl) (by kernel_rfl) (fun _ _ _ h => h) (Some'.weak (.skip (.skip (.take (.take (.take (.take (.take (.take (.take (.nil _))))))))))) rfl (OpY.pure rfl) ?_
            refine DW.take (i := 7) (v := .map (some b5)) rfl (by kernel_rfl) (by kernel_rfl) (by kernel_rfl) (fun _ _ _ h => h) (Some'.weak (.skip (.skip (.take (.take (.take (.take (.take (.take (.take (.nil _))))))))))) rfl (OpY.pure rfl) ?_
            refine DW.take (i := 8) (v := .slice (some ⟨b8, 0, none⟩) 1 1) rfl (by kernel_rfl) (by kernel_rfl) (by kernel_rfl) (fun _ _ _ h => h) (Some'.weak (.skip (.skip (.take (.take (.take (.take (.take (.take (.take (.nil _))))))))))) rfl (OpY.pure rfl) ?_
            refine DW.done (by kernel_rfl) ?_
            refine Run.goal ⟨(by repeat (first | exact Same.refl _ _ | refine Same.put rfl ?_ | refine Same.over rfl rfl ?_)), (b5, .slice (some ⟨b8, 0, none⟩) 1 1), ?_, ?_, ?_⟩
            · trivial
            · exact ⟨(by first | rfl | (congr 1; omega) | simp [*]), (by first | rfl | (congr 1; omega) | simp [*]), trivial⟩
            · exact ((Weak.selF [0, 3, 2, 1, 0, 0, 0, 0, 0]).trans (Some'.weak (.takeEq (by first | rfl | simp) (.takeEq (by first | rfl | simp) (.takeEq (by first | rfl | simp) (.takeEq (by first | rfl | simp) (.takeEq (by first | rfl | simp) (.take (.take (.take (.take (.nil _))))))))))))
        · refine OpStep.q (v := keyP ps D0 n) (OpQ.call (vs := [.agg #[.int .i64 N, .slice Ag m cg, .int .i64 Q, .slice Ac n cc, .slice A_up01 pn c_up01, vd2, vs2]]) (caps := []) Tcall_52 rfl rfl (fun w hs => routeKey_spec (by omega) hF.hpn.1 hF.hpn.2 (hs.slGrpR (p := pm pn ((.slice A_up01 pn c_up01 : Value), vd2, vs2, ((ps, D0) : RK), ([] : List Nat))) (.tail _ (.tail _ (List.Mem.head _))) (pg_mem (.head _))) (hs.slGrpR (p := dm n ((.slice A_up01 pn c_up01 : Value), vd2, vs2, ((ps, D0) : RK), ([] : List Nat))) (.tail _ (List.Mem.head _)) (dg_mem (.head _))))) ?_
          refine ⟨(Some'.weak (.take (.take (.take (.take (.take (.take (.take (.nil _))))))))), ?_⟩
          refine DW.two (i := 0) (j := 6) (by kernel_rfl) rfl rfl rfl rfl ?_ ?_
          · refine OpStep.makeMap fun b9 => ?_
            refine ⟨(Some'.weak (.skip (.take (.take (.take (.take (.take (.take (.take (.nil _)))))))))), ?_⟩
            refine DW.two (i := 3) (j := 6) (by kernel_rfl) rfl rfl rfl rfl ?_ ?_
            · refine OpStep.insertLit (ks := []) (key := keyP ps D0 n) Tmapof_96 rk_law rfl rfl rfl (by rw [show ([]) ++ [keyP ps D0 n] = rkq (rk [((.slice A_up01 pn c_up01 : Value), vd2, vs2, ((ps, D0) : RK), ([] : List Nat))]) n from by rfl]; exact (.here _)) (by simp) (keyP_can hK0.pl hF.hn (pl_range hF.hN.2 hK0.po)) (by simp) ?_
              refine ⟨(Some'.weak (.skip (.take (.take (.take (.take (.take (.take (.take (.nil _)))))))))), ?_⟩
              refine DW.take (i := 4) (v := .map (some b9)) rfl (by kernel_rfl) (by kernel_rfl) (by kernel_rfl) (fun _ _ _ h => h) (Some'.weak (.skip (.take (.take (.take (.take (.take (.take (.take (.nil _)))))))))) rfl (OpY.pure rfl) ?_
              refine DW.take (i := 7) (v := .map (some b9)) rfl (by kernel_rfl) (by kernel_rfl) (by kernel_rfl) (fun _ _ _ h => h) (Some'.weak (.skip (.take (.take (.take (.take (.take (.take (.take (.nil _)))))))))) rfl (OpY.pure rfl) ?_
              refine DW.step (i := 6) (by kernel_rfl) rfl rfl (OpStep.buildSlice (us := [.int .i64 N, .slice Ag m cg, .int .i64 Q, .slice Ac n cc, .slice A_up01 pn c_up01, vd2, vs2]) Tsl_97 (by decide) (by decide) ⟨rfl, [.int .i64 N, .slice Ag m cg, .int .i64 Q, .slice Ac n cc, .slice A_up01 pn c_up01, vd2, vs2], _, rfl, rfl, rfl, rfl⟩ rfl fun b10 => ?_)
              refine ⟨(Some'.weak (.skip (.skip (.take (.take (.take (.take (.take (.take (.take (.nil _))))))))))), ?_⟩
              refine DW.take (i := 8) (v := .slice (some ⟨b10, 0, none⟩) 1 1) rfl (by kernel_rfl) (by kernel_rfl) (by kernel_rfl) (fun _ _ _ h => h) (Some'.weak (.skip (.skip (.take (.take (.take (.take (.take (.take (.take (.nil _))))))))))) rfl (OpY.pure rfl) ?_
              refine DW.done (by kernel_rfl) ?_
              refine Run.goal ⟨(by repeat (first | exact Same.refl _ _ | refine Same.put rfl ?_ | refine Same.over rfl rfl ?_)), (b9, .slice (some ⟨b10, 0, none⟩) 1 1), ?_, ?_, ?_⟩
              · trivial
              · exact ⟨(by first | rfl | (congr 1; omega) | simp [*]), (by first | rfl | (congr 1; omega) | simp [*]), trivial⟩
              · exact ((Weak.selF [0, 3, 2, 1, 0, 0, 0, 0, 0]).trans (Some'.weak (.takeEq (by first | rfl | simp) (.takeEq (by first | rfl | simp) (.takeEq (by first | rfl | simp) (.takeEq (by first | rfl | simp) (.takeEq (by first | rfl | simp) (.take (.take (.take (.take (.nil _))))))))))))
            · refine OpStep.buildSlice (us := [.int .i64 N, .slice Ag m cg, .int .i64 Q, .slice Ac n cc, .slice A_up01 pn c_up01, vd2, vs2]) Tsl_97 (by decide) (by decide) ⟨rfl, [.int .i64 N, .slice Ag m cg, .int .i64 Q, .slice Ac n cc, .slice A_up01 pn c_up01, vd2, vs2], _, rfl, rfl, rfl, rfl⟩ rfl fun b11 => ?_
              refine ⟨(Some'.weak (.skip (.skip (.take (.take (.take (.take (.take (.take (.take (.nil _))))))))))), ?_⟩
              refine DW.step (i := 3) (by kernel_rfl) rfl rfl (OpStep.insertLit (ks := []) (key := keyP ps D0 n) Tmapof_96 rk_law rfl rfl rfl (by rw [show ([]) ++ [keyP ps D0 n] = rkq (rk [((.slice A_up01 pn c_up01 : Value), vd2, vs2, ((ps, D0) : RK), ([] : List Nat))]) n from by rfl]; exact (.there _ (.here _))) (by simp) (keyP_can hK0.pl hF.hn (pl_range hF.hN.2 hK0.po)) (by simp) ?_)
              refine ⟨(Some'.weak (.skip (.skip (.take (.take (.take (.take (.take (.take (.take (.nil _))))))))))), ?_⟩
              refine DW.take (i := 4) (v := .map (some b9)) rfl (by kernel_rfl) (by kernel_rfl) (by kernel_rfl) (fun _ _ _ h => h) (Some'.weak (.skip (.skip (.take (.take (.take (.take (.take (.take (.take (.nil _))))))))))) rfl (OpY.pure rfl) ?_
              refine DW.take (i := 7) (v := .map (some b9)) rfl (by kernel_rfl) (by kernel_rfl) (by kernel_rfl) (fun _ _ _ h => h) (Some'.weak (.skip (.skip (.take (.take (.take (.take (.take (.take (.take (.nil _))))))))))) rfl (OpY.pure rfl) ?_
              refine DW.take (i := 8) (v := .slice (some ⟨b11, 0, none⟩) 1 1) rfl (by kernel_rfl) (by kernel_rfl) (by kernel_rfl) (fun _ _ _ h => h) (Some'.weak (.skip (.skip (.take (.take (.take (.take (.take (.take (.take (.nil _))))))))))) rfl (OpY.pure rfl) ?_
              refine DW.done (by kernel_rfl) ?_
              refine Run.goal ⟨(by repeat (first | exact Same.refl _ _ | refine Same.put rfl ?_ | refine Same.over rfl rfl ?_)), (b9, .slice (some ⟨b11, 0, none⟩) 1 1), ?_, ?_, ?_⟩
              · trivial
              · exact ⟨(by first | rfl | (congr 1; omega) | simp [*]), (by first | rfl | (congr 1; omega) | simp [*]), trivial⟩
              · exact ((Weak.selF [0, 3, 2, 1, 0, 0, 0, 0, 0]).trans (Some'.weak (.takeEq (by first | rfl | simp) (.takeEq (by first | rfl | simp) (.takeEq (by first | rfl | simp) (.takeEq (by first | rfl | simp) (.takeEq (by first | rfl | simp) (.take (.take (.take (.take (.nil _))))))))))))
          · refine OpStep.buildSlice (us := [.int .i64 N, .slice Ag m cg, .int .i64 Q, .slice Ac n cc, .slice A_up01 pn c_up01, vd2, vs2]) Tsl_97 (by decide) (by decide) ⟨rfl, [.int .i64 N, .slice Ag m cg, .int .i64 Q, .slice Ac n cc, .slice A_up01 pn c_up01, vd2, vs2], _, rfl, rfl, rfl, rfl⟩ rfl fun b12 => ?_
            refine ⟨(Some'.weak (.skip (.take (.take (.take (.take (.take (.take (.take (.nil _)))))))))), ?_⟩
            refine DW.step (i := 0) (by kernel_rfl) rfl rfl (OpStep.makeMap fun b13 => ?_)
            refine ⟨(Some'.weak (.skip (.skip (.take (.take (.take (.take (.take (.take (.take (.nil _))))))))))), ?_⟩
            refine DW.step (i := 3) (by kernel_rfl) rfl rfl (OpStep.insertLit (ks := []) (key := keyP ps D0 n) Tmapof_96 rk_law rfl rfl rfl (by rw [show ([]) ++ [keyP ps D0 n] = rkq (rk [((.slice A_up01 pn c_up01 : Value), vd2, vs2, ((ps, D0) : RK), ([] : List Nat))]) n from by rfl]; exact (.here _)) (by simp) (keyP_can hK0.pl hF.hn (pl_range hF.hN.2 hK0.po)) (by simp) ?_)
            refine ⟨(Some'.weak (.skip (.skip (.take (.take (.take (.take (.take (.take (.take (.nil _))))))))))), ?_⟩
            refine DW.take (i := 4) (v := .map (some b13)) rfl (by kernel_rfl) (by kernel_rfl) (by kernel_rfl) (fun _ _ _ h => h) (Some'.weak (.skip (.skip (.take (.take (.take (.take (.take (.take (.take (.nil _))))))))))) rfl (OpY.pure rfl) ?_
            refine DW.take (i := 7) (v := .map (some b13)) rfl (by kernel_rfl) (by kernel_rfl) (by kernel_rfl) (fun _ _ _ h => h) (Some'.weak (.skip (.skip (.take (.take (.take (.take (.take (.take (.take (.nil _))))))))))) rfl (OpY.pure rfl) ?_
            refine DW.take (i := 8) (v := .slice (some ⟨b12, 0, none⟩) 1 1) rfl (by kernel_rfl) (by kernel_rfl) (by kernel_rfl) (fun _ _ _ h => h) (Some'.weak (.skip (.skip (.take (.take (.take (.take (.take (.take (.take (.nil _))))))))))) rfl (OpY.pure rfl) ?_
            refine DW.done (by kernel_rfl) ?_
            refine Run.goal ⟨(by repeat (first | exact Same.refl _ _ | refine Same.put rfl ?_ | refine Same.over rfl rfl ?_)), (b13, .slice (some ⟨b12, 0, none⟩) 1 1), ?_, ?_, ?_⟩
            · trivial
            · exact ⟨(by first | rfl | (congr 1; omega) | simp [*]), (by first | rfl | (congr 1; omega) | simp [*]), trivial⟩
            · exact ((Weak.selF [1, 3, 2, 1, 0, 0, 0, 0, 0]).trans (Some'.weak (.takeEq (by first | rfl | simp) (.takeEq (by first | rfl | simp) (.takeEq (by first | rfl | simp) (.takeEq (by first | rfl | simp) (.takeEq (by first | rfl | simp) (.take (.take (.take (.take (.nil _))))))))))))
        · refine OpStep.buildSlice (us := [.int .i64 N, .slice Ag m cg, .int .i64 Q, .slice Ac n cc, .slice A_up01 pn c_up01, vd2, vs2]) Tsl_97 (by decide) (by decide) ⟨rfl, [.int .i64 N, .slice Ag m cg, .int .i64 Q, .slice Ac n cc, .slice A_up01 pn c_up01, vd2, vs2], _, rfl, rfl, rfl, rfl⟩ rfl fun b14 => ?_
          refine ⟨(Some'.weak (.skip (.take (.take (.take (.take (.take (.take (.take (.nil _)))))))))), ?_⟩
          refine DW.two (i := 0) (j := 2) (by kernel_rfl) rfl rfl rfl rfl ?_ ?_
          · refine OpStep.makeMap fun b15 => ?_
            refine ⟨(Some'.weak (.skip (.skip (.take (.take (.take (.take (.take (.take (.take (.nil _))))))))))), ?_⟩
            refine DW.step (i := 2) (by kernel_rfl) rfl rfl (OpStep.q (v := keyP ps D0 n) (OpQ.call (vs := [.agg #[.int .i64 N, .slice Ag m cg, .int .i64 Q, .slice Ac n cc, .slice A_up01 pn c_up01, vd2, vs2]]) (caps := []) Tcall_52 rfl rfl (fun w hs => routeKey_spec (by omega) hF.hpn.1 hF.hpn.2 (hs.slGrpR (p := pm pn ((.slice A_up01 pn c_up01 : Value), vd2, vs2, ((ps, D0) : RK), ([] : List Nat))) (.tail _ (.tail _ (.tail _ (.tail _ (List.Mem.head _))))) (pg_mem (.head _))) (hs.slGrpR (p := dm n ((.slice A_up01 pn c_up01 : Value), vd2, vs2, ((ps, D0) : RK), ([] : List Nat))) (.tail _ (.tail _ (.tail _ (List.Mem.head _)))) (dg_mem (.head _))))) ?_)
            refine ⟨(Some'.weak (.skip (.skip (.take (.take (.take (.take (.take (.take (.take (.nil _))))))))))), ?_⟩
            refine DW.step (i := 3) (by kernel_rfl) rfl rfl (OpStep.insertLit (ks := []) (key := keyP ps D0 n) Tmapof_96 rk_law rfl rfl rfl (by rw [show ([]) ++ [keyP ps D0 n] = rkq (rk [((.slice A_up01 pn c_up01 : Value), vd2, vs2, ((ps, D0) : RK), ([] : List Nat))]) n from by rfl]; exact (.here _)) (by simp) (keyP_can hK0.pl hF.hn (pl_range hF.hN.2 hK0.po)) (by simp) ?_)
            refine ⟨(Some'.weak (.skip (.skip (.take (.take (.take (.take (.take (.take (.take (.nil _))))))))))), ?_⟩
            refine DW.take (i := 4) (v := .map (some b15)) rfl (by kernel_rfl) (by kernel_rfl) (by kernel_rfl) (fun _ _ _ h => h) (Some'.weak (.skip (.skip (.take (.take (.take (.take (.take (.take (.take (.nil _))))))))))) rfl (OpY.pure rfl) ?_
            refine DW.take (i := 7) (v := .map (some b15)) rfl (by kernel_rfl) (by kernel_rfl) (by kernel_rfl) (fun _ _ _ h => h) (Some'.weak (.skip (.skip (.take (.take (.take (.take (.take (.take (.take (.nil _))))))))))) rfl (OpY.pure rfl) ?_
            refine DW.take (i := 8) (v := .slice (some ⟨b14, 0, none⟩) 1 1) rfl (by kernel_rfl) (by kernel_rfl) (by kernel_rfl) (fun _ _ _ h => h) (Some'.weak (.skip (.skip (.take (.take (.take (.take (.take (.take (.take (.nil _))))))))))) rfl (OpY.pure rfl) ?_
            refine DW.done (by kernel_rfl) ?_
            refine Run.goal ⟨(by repeat (first | exact Same.refl _ _ | refine Same.put rfl ?_ | refine Same.over rfl rfl ?_)), (b15, .slice (some ⟨b14, 0, none⟩) 1 1), ?_, ?_, ?_⟩
            · trivial
            · exact ⟨(by first | rfl | (congr 1; omega) | simp [*]), (by first | rfl | (congr 1; omega) | simp [*]), trivial⟩
            · exact ((Weak.selF [1, 3, 2, 1, 0, 0, 0, 0, 0]).trans (Some'.weak (.takeEq (by first | rfl | simp) (.takeEq (by first | rfl | simp) (.takeEq (by first | rfl | simp) (.takeEq (by first | rfl | simp) (.takeEq (by first | rfl | simp) (.take (.take (.take (.take (.nil _))))))))))))
          · refine OpStep.q (v := keyP ps D0 n) (OpQ.call (vs := [.agg #[.int .i64 N, .slice Ag m cg, .int .i64 Q, .slice Ac n cc, .slice A_up01 pn c_up01, vd2, vs2]]) (caps := []) Tcall_52 rfl rfl (fun w hs => routeKey_spec (by omega) hF.hpn.1 hF.hpn.2 (hs.slGrpR (p := pm pn ((.slice A_up01 pn c_up01 : Value), vd2, vs2, ((ps, D0) : RK), ([] : List Nat))) (.tail _ (.tail _ (.tail _ (List.Mem.head _)))) (pg_mem (.head _))) (hs.slGrpR (p := dm n ((.slice A_up01 pn c_up01 : Value), vd2, vs2, ((ps, D0) : RK), ([] : List Nat))) (.tail _ (.tail _ (List.Mem.head _))) (dg_mem (.head _))))) ?_
            refine ⟨(Some'.weak (.skip (.take (.take (.take (.take (.take (.take (.take (.nil _)))))))))), ?_⟩
            refine DW.step (i := 0) (by kernel_rfl) rfl rfl (OpStep.makeMap fun b16 => ?_)
            refine ⟨(Some'.weak (.skip (.skip (.take (.take (.take (.take (.take (.take (.take (.nil _))))))))))), ?_⟩
            refine DW.step (i := 3) (by kernel_rfl) rfl rfl (OpStep.insertLit (ks := []) (key := keyP ps D0 n) Tmapof_96 rk_law rfl rfl rfl (by rw [show ([]) ++ [keyP ps D0 n] = rkq (rk [((.slice A_up01 pn c_up01 : Value), vd2, vs2, ((ps, D0) : RK), ([] : List Nat))]) n from by rfl]; exact (.here _)) (by simp) (keyP_can hK0.pl hF.hn (pl_range hF.hN.2 hK0.po)) (by simp) ?_)
            refine ⟨(Some'.weak (.skip (.skip (.take (.take (.take (.take (.take (.take (.take (.nil _))))))))))), ?_⟩
            refine DW.take (i := 4) (v := .map (some b16)) rfl (by kernel_rfl) (by kernel_rfl) (by kernel_rfl) (fun _ _ _ h => h) (Some'.weak (.skip (.skip (.take (.take (.take (.take (.take (.take (.take (.nil _))))))))))) rfl (OpY.pure rfl) ?_
            refine DW.take (i := 7) (v := .map (some b16)) rfl (by kernel_rfl) (by kernel_rfl) (by kernel_rfl) (fun _ _ _ h => h) (Some'.weak (.skip (.skip (.take (.take (.take (.take (.take (.take (.take (.nil _))))))))))) rfl (OpY.pure rfl) ?_
            refine DW.take (i := 8) (v := .slice (some ⟨b14, 0, none⟩) 1 1) rfl (by kernel_rfl) (by kernel_rfl) (by kernel_rfl) (fun _ _ _ h => h) (Some'.weak (.skip (.skip (.take (.take (.take (.take (.take (.take (.take (.nil _))))))))))) rfl (OpY.pure rfl) ?_
            refine DW.done (by kernel_rfl) ?_
            refine Run.goal ⟨(by repeat (first | exact Same.refl _ _ | refine Same.put rfl ?_ | refine Same.over rfl rfl ?_)), (b16, .slice (some ⟨b14, 0, none⟩) 1 1), ?_, ?_, ?_⟩
            · trivial
            · exact ⟨(by first | rfl | (congr 1; omega) | simp [*]), (by first | rfl | (congr 1; omega) | simp [*]), trivial⟩
            · exact ((Weak.selF [1, 3, 2, 1, 0, 0, 0, 0, 0]).trans (Some'.weak (.takeEq (by first | rfl | simp) (.takeEq (by first | rfl | simp) (.takeEq (by first | rfl | simp) (.takeEq (by first | rfl | simp) (.takeEq (by first | rfl | simp) (.take (.take (.take (.take (.nil _))))))))))))
      · rintro ⟨bm, vq⟩ fr hcut
        show Run _ _ (over _ _ [(9, .map (some bm)), (10, vq)] fr) [.own vq 90 7 (([((.slice A_up01 pn c_up01 : Value), vd2, vs2, ((ps, D0) : RK), ([] : List Nat))]).length) (rcells N (.slice Ag m cg) Q (.slice Ac n cc) ([((.slice A_up01 pn c_up01 : Value), vd2, vs2, ((ps, D0) : RK), ([] : List Nat))])), .grp 3 1 (pgp pn ([((.slice A_up01 pn c_up01 : Value), vd2, vs2, ((ps, D0) : RK), ([] : List Nat))])), .grp 4 1 (dgp n ([((.slice A_up01 pn c_up01 : Value), vd2, vs2, ((ps, D0) : RK), ([] : List Nat))])), .grp 101 3 (sgp (stp es m xs n (ps, D0) L0) ([((.slice A_up01 pn c_up01 : Value), vd2, vs2, ((ps, D0) : RK), ([] : List Nat))])), .mp bm (setKv (rkq (rk ([((.slice A_up01 pn c_up01 : Value), vd2, vs2, ((ps, D0) : RK), ([] : List Nat))])) n)), .blk b4 90 [.int .i64 N, .slice Ag m cg, .int .i64 Q, .slice Ac n cc, .slice A_up01 pn c_up01, vd2, vs2], .blk b3 48 [.slice none 0 0, .slice none 0 0], .blk b2 39 [.int .i64 Q, .slice Ac n cc], .blk b1 35 [.int .i64 N, .slice Ag m cg]]
        refine Run.seq ?_
        refine Run.seq ?_
        refine Run.region ?_
        refine Run.q (v := .int .i64 0) rfl (OpQ.y (OpY.pure rfl)) ?_
        refine Run.done ?_
        refine Run.block ?_
        refine Run.loop (ι := Nat × Value × List RZ) [7, 10, 11, 12, 14, 15, 41, 42, 43, 44, 45, 46, 47, 48, 49, 50, 51, 52, 53, 54, 55, 56, 57, 58, 59, 60, 61, 62, 63, 64, 65, 66, 67, 68, 69, 70, 71, 72, 73, 74, 75, 76, 77, 78, 79, 80, 81, 82, 83] (fun ⟨ai, vq, zs⟩ => [(10, vq), (11, .int .i64 (((ai : Nat) : Int)))]) (fun ⟨ai, vq, zs⟩ => [.own vq 90 7 (zs.length) (rcells N (.slice Ag m cg) Q (.slice Ac n cc) zs), .grp 3 1 (pgp pn zs), .grp 4 1 (dgp n zs), .grp 101 3 (sgp (stp es m xs n (ps, D0) L0) zs), .mp bm (setKv (rkq (rk zs) n)), .blk b4 90 [.int .i64 N, .slice Ag m cg, .int .i64 Q, .slice Ac n cc, .slice A_up01 pn c_up01, vd2, vs2], .blk b3 48 [.slice none 0 0, .slice none 0 0], .blk b2 39 [.int .i64 Q, .slice Ac n cc], .blk b1 35 [.int .i64 N, .slice Ag m cg]]) (fun ⟨ai, vq, zs⟩ => ai ≤ 12800000 ∧ rk zs = rQ es m xs n (ps, D0) ai ∧ ∀ j, j < ai → ∀ z, zs[j]? = some z → allD z.2.2.2.1.2 n = false) (fun ⟨ai, vq, zs⟩ => 12800001 - ai) (0, vq, [((.slice A_up01 pn c_up01 : Value), vd2, vs2, ((ps, D0) : RK), ([] : List Nat))]) ?_ ?_ ?_ ?_
        · exact ⟨Nat.zero_le _, rfl, fun j hj => absurd hj (by omega)⟩
        · exact ⟨rfl, rfl, trivial⟩
        · exact ((Weak.refl _).trans (Some'.weak (.takeEq (by first | rfl | simp) (.takeEq (by first | rfl | simp) (.takeEq (by first | rfl | simp) (.takeEq (by first | rfl | simp) (.takeEq (by first | rfl | simp) (.take (.take (.take (.take (.nil _))))))))))))
        · rintro ⟨ai, vq, zs⟩ fr hinv
          show Run _ _ (over _ _ [(10, vq), (11, .int .i64 (((ai : Nat) : Int)))] fr) [.own vq 90 7 (zs.length) (rcells N (.slice Ag m cg) Q (.slice Ac n cc) zs), .grp 3 1 (pgp pn zs), .grp 4 1 (dgp n zs), .grp 101 3 (sgp (stp es m xs n (ps, D0) L0) zs), .mp bm (setKv (rkq (rk zs) n)), .blk b4 90 [.int .i64 N, .slice Ag m cg, .int .i64 Q, .slice Ac n cc, .slice A_up01 pn c_up01, vd2, vs2], .blk b3 48 [.slice none 0 0, .slice none 0 0], .blk b2 39 [.int .i64 Q, .slice Ac n cc], .blk b1 35 [.int .i64 N, .slice Ag m cg]]
          try dsimp only at hinv
          obtain ⟨hai0, hinv⟩ := hinv
          refine Run.seq ?_
          refine Run.seq ?_
          refine Run.region ?_
          refine Run.q (v := .int .i64 (((ai : Nat) : Int))) rfl (OpQ.y (OpY.pure rfl)) ?_
          refine Run.q (v := vq) rfl (OpQ.y (OpY.pure rfl)) ?_
          refine Run.formOwn (.head _) (fun A_vq1 c_vq1 hv hcapc_vq1 hmaxc_vq1 => ?_) (fun _ _ _ => ⟨nofun, nofun, nofun⟩)
          subst hv
          refine Run.q (v := .int .i64 (((zs.length : Nat) : Int))) rfl (OpQ.y (OpY.len Tsl_97 rfl)) ?_
          refine Run.q (v := .bool (decide ((((ai : Nat) : Int)) < (((zs.length : Nat) : Int))))) rfl (OpQ.y (OpY.pure rfl)) ?_
          refine Run.done ?_
          refine Run.cond (b := decide ((((ai : Nat) : Int)) < (((zs.length : Nat) : Int)))) rfl (fun h44 => ?_) (fun h44 => ?_)
          · have p44 := h44; try simp only [bs] at p44
            have hai : ai < zs.length := by omega
            obtain ⟨⟨gvp, gvd, gvs, ⟨gk, gd⟩, gp⟩, hz⟩ : ∃ z, zs[ai]? = some z := ⟨_, List.getElem?_eq_getElem hai⟩
            obtain ⟨hzq, hzn⟩ := hinv
            have hzx : (rQ es m xs n (ps, D0) ai)[ai]? = some ((gk, gd), gp) := by rw [← hzq, rk, List.getElem?_map, hz]; rfl
            have hzM : zs.length ≤ 12800000 := by have h := rQ_small hF.hN.2 hF.hpn.2 hF.hc hF.he hK0 ai; rw [← hzq, rk, List.length_map] at h; exact h
            have hkz : KOk N Q pn n xs (gk, gd) := rQ_key hF.he hK0 ai _ (List.mem_of_getElem? hzx)
            have hpl2 : gp.length ≤ ai := bfs_plen ai ai _ hzx
            have hev : bev (kstep es m xs n) (ps, D0) gp = (gk, gd) := (bfs_inv ai).ev _ (List.mem_of_getElem? hzx)
            have hbw : ∀ e ∈ gp, e < m := fun e he => ((bfs_inv ai).okw _ (List.mem_of_getElem? hzx) e he).1
            have hstl : ((stp es m xs n (ps, D0) L0) gp).length ≤ 13000000 := by
              have h := stp_len hF.he gp (ps, D0) L0 hK0 hbw
              simp only at h; omega
            refine Run.formMem (.tail _ (List.Mem.head _)) (pg_mem (pn := pn) (List.mem_of_getElem? hz)) (fun gA1 gc1 hgv => ?_) (fun _ _ _ => ⟨nofun, nofun, nofun⟩)
            simp only [pm] at hgv
            subst hgv
            refine Run.formMem (.tail _ (.tail _ (List.Mem.head _))) (dg_mem (n := n) (List.mem_of_getElem? hz)) (fun gA2 gc2 hgv => ?_) (fun _ _ _ => ⟨nofun, nofun, nofun⟩)
            simp only [dm] at hgv
            subst hgv
            refine Run.formMem (.tail _ (.tail _ (.tail _ (List.Mem.head _)))) (sg_mem (S := (stp es m xs n (ps, D0) L0)) (List.mem_of_getElem? hz)) (fun gA3 gc3 hgv => ?_) (fun _ _ _ => ⟨nofun, nofun, nofun⟩)
            simp only [sm] at hgv
            subst hgv
            refine Run.openOwn (.head _) (by omega) (fun gz cz hvgz hcapgz _ => ?_) (fun _ _ _ => ⟨nofun, nofun, nofun⟩)
            injection hvgz with hAgz _ hcgz; subst hAgz; subst hcgz
            refine Run.skip ?_
            refine Run.seq ?_
            refine Run.block ?_
            refine Run.seq ?_
            refine Run.region ?_
            refine Run.q (v := .slice (some ⟨gz, 0, none⟩) (zs.length) c_vq1) rfl (OpQ.y (OpY.pure rfl)) ?_
            refine Run.q (v := .int .i64 (((ai : Nat) : Int))) rfl (OpQ.y (OpY.pure rfl)) ?_
            refine Run.q (v := .pointer (some ⟨gz, ai * 7, none⟩)) rfl (OpQ.y (OpY.index (kk := ai) Tsl_97 rfl rfl (by omega) (by omega) (by first | rfl | omega))) ?_
            refine Run.q (v := .agg #[.int .i64 N, .slice Ag m cg, .int .i64 Q, .slice Ac n cc, .slice gA1 pn gc1, .slice gA2 n gc2, .slice gA3 (((stp es m xs n (ps, D0) L0) gp).length) gc3]) rfl (OpQ.y (OpY.loadN (cs := [.int .i64 N, .slice Ag m cg, .int .i64 Q, .slice Ac n cc, .slice gA1 pn gc1, .slice gA2 n gc2, .slice gA3 (((stp es m xs n (ps, D0) L0) gp).length) gc3]) Tagg_90 rfl (Cells.own0 (.head _) (preR hz)))) ?_
            refine Run.step rfl (OpStep.alloc (zs := [.int .i64 0, .slice none 0 0, .int .i64 0, .slice none 0 0, .slice none 0 0, .slice none 0 0, .slice none 0 0]) Tzero_90 fun b17 => ?_)
            refine Run.step rfl (OpStep.storeAll (us := [.int .i64 N, .slice Ag m cg, .int .i64 Q, .slice Ac n cc, .slice gA1 pn gc1, .slice gA2 n gc2, .slice gA3 (((stp es m xs n (ps, D0) L0) gp).length) gc3]) Tsize_90 rfl rfl rfl (.here _) rfl ?_)
            refine Run.done ?_
            refine Run.seq ?_
            refine Run.seq ?_
            refine Run.region ?_
            refine Run.q (v := .pointer (some ⟨b17, 0, none⟩)) rfl (OpQ.y (OpY.fieldAddr Tfo_90_0 rfl rfl)) ?_
            refine Run.q (v := .pointer (some ⟨b17, 5, none⟩)) rfl (OpQ.y (OpY.fieldAddr Tfo_87_3 rfl rfl)) ?_
            refine Run.q (v := .slice gA2 n gc2) rfl (OpQ.y (OpY.load1 Tone_85 rfl (Cells.blk (.head _) ⟨rfl, trivial⟩))) ?_
            refine Run.q (v := .bool (!allD gd n)) rfl (OpQ.call (vs := [.slice gA2 n gc2, .bool false]) (caps := []) Tcall_53 rfl rfl (fun w hs => ContainsNot_spec (hs.slGrpR (p := dm n ((.slice gA1 pn gc1 : Value), (.slice gA2 n gc2 : Value), (.slice gA3 (((stp es m xs n (ps, D0) L0) gp).length) gc3 : Value), ((gk, gd) : RK), gp)) (.tail _ (.tail _ (.tail _ (List.Mem.head _)))) (dg_mem (List.mem_of_getElem? hz))))) ?_
            refine Run.q (v := .bool (!(!allD gd n))) rfl (OpQ.y (OpY.pure rfl)) ?_
            refine Run.done ?_
            refine Run.cond (b := !(!allD gd n)) rfl (fun h55 => ?_) (fun h55 => ?_)
            · have p55 := h55; try simp only [bs] at p55
              refine Run.seq ?_
              have hall : allD gd n = true := by simpa using p55
              have hyes := rt_yes (M := M) hO (show rtP M es m xs n (rS es m xs n ps) = some gp by
                rw [hS0]
                exact rtP_some (i := ai) (by omega) hzx hall fun j hj y hy => by
                  rw [← hzq, rk, List.getElem?_map] at hy
                  cases hzj : zs[j]? with
                  | none => rw [hzj] at hy; cases hy
                  | some z => rw [hzj] at hy; cases hy; exact hzn j hj z hzj)
              rw [hS0, hLL0] at hyes
              obtain ⟨A1, B1, hAB⟩ := List.append_of_mem (sg_mem (S := (stp es m xs n (ps, D0) L0)) (List.mem_of_getElem? hz))
              refine Run.weak (H' := [.own (.slice gA3 (((stp es m xs n (ps, D0) L0) gp).length) gc3) 101 3 (((stp es m xs n (ps, D0) L0) gp).length) (ints (fl3 ((stp es m xs n (ps, D0) L0) gp))), .grp 101 3 (A1 ++ B1), .blk b17 90 [.int .i64 N, .slice Ag m cg, .int .i64 Q, .slice Ac n cc, .slice gA1 pn gc1, .slice gA2 n gc2, .slice gA3 (((stp es m xs n (ps, D0) L0) gp).length) gc3], .own (.slice (some ⟨gz, 0, none⟩) (zs.length) c_vq1) 90 7 (zs.length) (rcells N (.slice Ag m cg) Q (.slice Ac n cc) zs), .grp 3 1 (pgp pn zs), .grp 4 1 (dgp n zs), .mp bm (setKv (rkq (rk zs) n)), .blk b4 90 [.int .i64 N, .slice Ag m cg, .int .i64 Q, .slice Ac n cc, .slice A_up01 pn c_up01, vd2, vs2], .blk b3 48 [.slice none 0 0, .slice none 0 0], .blk b2 39 [.int .i64 Q, .slice Ac n cc], .blk b1 35 [.int .i64 N, .slice Ag m cg]]) ((Weak.selF [4]).trans (by rw [hAB]; exact Weak.grpTakeR)) ?_ ⟨_, _, rfl, fun _ => nofun, fun _ => nofun⟩
              refine Run.heldB (base := [.blk b17 90 [.int .i64 N, .slice Ag m cg, .int .i64 Q, .slice Ac n cc, .slice gA1 pn gc1, .slice gA2 n gc2, .slice gA3 (((stp es m xs n (ps, D0) L0) gp).length) gc3]]) (by kernel_rfl) ?_
              refine DW.take (i := 0) (v := .slice Av pn cv) rfl (by kernel_rfl) (by kernel_rfl) (by kernel_rfl) (fun _ _ _ h => h) (Some'.weak (.skip (.skip (.take (.nil _))))) rfl (OpY.pure rfl) ?_
              refine DW.take (i := 2) (v := .pointer (some ⟨b17, 6, none⟩)) rfl (by kernel_rfl) (by kernel_rfl) (by kernel_rfl) (fun _ _ _ h => h) (Some'.weak (.skip (.skip (.take (.nil _))))) rfl (OpY.fieldAddr Tfo_90_1 rfl rfl) ?_
              refine DW.take (i := 3) (v := .slice gA3 (((stp es m xs n (ps, D0) L0) gp).length) gc3) rfl (by kernel_rfl) (by kernel_rfl) (by kernel_rfl) (fun _ _ _ h => h) (Some'.weak (.skip (.skip (.take (.nil _))))) rfl (OpY.load1 Tone_46 rfl (Cells.blk (.head _) ⟨rfl, trivial⟩)) ?_
              refine DW.step (i := 1) (by kernel_rfl) rfl rfl (OpStep.call (vs := [.slice Av pn cv]) (caps := []) Tcall_54 rfl rfl (fun w hs => CloneInt_spec (by omega) hF.hpn.1 (hs.sl hp)) ?_)
              rintro uk _ rfl
              refine ⟨(Some'.weak (.skip (.skip (.skip (.take (.nil _)))))), ?_⟩
              refine DW.formOwn (.head _) (fun A_uk1 c_uk1 hv hcapc_uk1 hmaxc_uk1 => ?_)
              subst hv
              refine DW.take (i := 4) (v := .agg #[.slice A_uk1 pn c_uk1, .slice gA3 (((stp es m xs n (ps, D0) L0) gp).length) gc3]) rfl (by kernel_rfl) (by kernel_rfl) (by kernel_rfl) (fun _ _ _ h => h) (Some'.weak (.skip (.skip (.skip (.take (.nil _)))))) rfl (OpY.build (cs := [.slice A_uk1 pn c_uk1, .slice gA3 (((stp es m xs n (ps, D0) L0) gp).length) gc3]) (by kernel_rfl)) ?_
              refine DW.step (i := 5) (by kernel_rfl) rfl rfl (OpStep.storeAll (us := [.slice A_uk1 pn c_uk1, .slice gA3 (((stp es m xs n (ps, D0) L0) gp).length) gc3]) Tsize_48 rfl rfl rfl (.there _ (.there _ (.there _ (.there _ (.there _ (.there _ (.there _ (.there _ (.there _ (.here _)))))))))) rfl ?_)
              refine ⟨(Some'.weak (.skip (.skip (.skip (.take (.nil _)))))), ?_⟩
              refine DW.take (i := 6) (v := .bool true) rfl (by kernel_rfl) (by kernel_rfl) (by kernel_rfl) (fun _ _ _ h => h) (Some'.weak (.skip (.skip (.skip (.take (.nil _)))))) rfl (OpY.pure rfl) ?_
              refine DW.done (by kernel_rfl) ?_
              refine Run.ret ?_
              refine ⟨.tuple #[.agg #[.slice A_uk1 pn c_uk1, .slice gA3 (((stp es m xs n (ps, D0) L0) gp).length) gc3], .bool true], [.own (.slice A_uk1 pn c_uk1) 3 1 pn (ints ps), .own (.slice gA3 (((stp es m xs n (ps, D0) L0) gp).length) gc3) 101 3 (((stp es m xs n (ps, D0) L0) gp).length) (ints (fl3 ((stp es m xs n (ps, D0) L0) gp)))], Out.cell2 (cs := [.slice A_uk1 pn c_uk1, .slice gA3 (((stp es m xs n (ps, D0) L0) gp).length) gc3]) rfl Tagg_48 rfl (Cells.blk (.tail _ (.tail _ (.tail _ (.tail _ (.tail _ (.tail _ (.tail _ (.tail _ (.tail _ (List.Mem.head _)))))))))) ⟨rfl, rfl, trivial⟩) rfl, (Some'.weak (.take (.take (.nil _)))), ?_⟩
              exact ⟨_, _, by rw [hyes.1], by rw [hyes.2.1, hyes.2.2, hpl]⟩
            · have p55 := h55; try simp only [bs] at p55
              have hnall : allD gd n = false := by simpa using p55
              refine Run.skip ?_
              refine Run.seq ?_
              refine Run.region ?_
              refine Run.q (v := .pointer (some ⟨b1, 1, none⟩)) rfl (OpQ.y (OpY.fieldAddr Tfo_35_1 rfl rfl)) ?_
              refine Run.q (v := .slice Ag m cg) rfl (OpQ.y (OpY.load1 Tone_33 rfl (Cells.blk (.tail _ (.tail _ (.tail _ (.tail _ (.tail _ (.tail _ (.tail _ (.tail _ (.tail _ (List.Mem.head _)))))))))) ⟨rfl, trivial⟩))) ?_
              refine Run.q (v := .int .i64 (((m : Nat) : Int))) rfl (OpQ.y (OpY.len Tsl_33 rfl)) ?_
              refine Run.q (v := .int .i64 0) rfl (OpQ.y (OpY.pure rfl)) ?_
              refine Run.done ?_
              refine Run.block ?_
              refine Run.loop (ι := Nat × Value × List RZ) [10, 14, 15, 64, 65, 66, 67, 68, 69, 70, 71, 72, 73, 74, 75, 76, 77, 78, 79, 80, 81, 82, 83] (fun ⟨ki, vq2, zs2⟩ => [(10, vq2), (64, .int .i64 (((ki : Nat) : Int)))]) (fun ⟨ki, vq2, zs2⟩ => [.own vq2 90 7 (zs2.length) (rcells N (.slice Ag m cg) Q (.slice Ac n cc) zs2), .grp 3 1 (pgp pn zs2), .grp 4 1 (dgp n zs2), .grp 101 3 (sgp (stp es m xs n (ps, D0) L0) zs2), .mp bm (setKv (rkq (rk zs2) n)), .blk b17 90 [.int .i64 N, .slice Ag m cg, .int .i64 Q, .slice Ac n cc, .slice gA1 pn gc1, .slice gA2 n gc2, .slice gA3 (((stp es m xs n (ps, D0) L0) gp).length) gc3], .blk b4 90 [.int .i64 N, .slice Ag m cg, .int .i64 Q, .slice Ac n cc, .slice A_up01 pn c_up01, vd2, vs2], .blk b3 48 [.slice none 0 0, .slice none 0 0], .blk b2 39 [.int .i64 Q, .slice Ac n cc], .blk b1 35 [.int .i64 N, .slice Ag m cg]]) (fun ⟨ki, vq2, zs2⟩ => ki ≤ m ∧ rk zs2 = brow (kstep es m xs n) (fun _ => true) ((gk, gd), gp) (rQ es m xs n (ps, D0) ai) ki ∧ ∃ t, zs2 = zs ++ t) (fun ⟨ki, vq2, zs2⟩ => m - ki) (0, .slice (some ⟨gz, 0, none⟩) (zs.length) c_vq1, zs) ?_ ?_ ?_ ?_
              · exact ⟨Nat.zero_le _, hzq, [], by simp⟩
              · exact ⟨rfl, rfl, trivial⟩
              · exact ((Weak.selF [1, 1, 1, 1, 1, 0, 0, 0, 0, 0]).trans (Some'.weak (.takeEq (by first | rfl | simp [rk]) (.takeEq (by first | rfl | simp [rk]) (.takeEq (by first | rfl | simp [rk]) (.takeEq (by first | rfl | simp [rk]) (.takeEq (by first | rfl | simp [rk]) (.take (.take (.take (.take (.take (.nil _)))))))))))))
              · rintro ⟨ki, vq2, zs2⟩ fr hinv
                show Run _ _ (over _ _ [(10, vq2), (64, .int .i64 (((ki : Nat) : Int)))] fr) [.own vq2 90 7 (zs2.length) (rcells N (.slice Ag m cg) Q (.slice Ac n cc) zs2), .grp 3 1 (pgp pn zs2), .grp 4 1 (dgp n zs2), .grp 101 3 (sgp (stp es m xs n (ps, D0) L0) zs2), .mp bm (setKv (rkq (rk zs2) n)), .blk b17 90 [.int .i64 N, .slice Ag m cg, .int .i64 Q, .slice Ac n cc, .slice gA1 pn gc1, .slice gA2 n gc2, .slice gA3 (((stp es m xs n (ps, D0) L0) gp).length) gc3], .blk b4 90 [.int .i64 N, .slice Ag m cg, .int .i64 Q, .slice Ac n cc, .slice A_up01 pn c_up01, vd2, vs2], .blk b3 48 [.slice none 0 0, .slice none 0 0], .blk b2 39 [.int .i64 Q, .slice Ac n cc], .blk b1 35 [.int .i64 N, .slice Ag m cg]]
                try dsimp only at hinv
                refine Run.seq ?_
                refine Run.region ?_
                refine Run.q (v := .bool (decide ((((ki : Nat) : Int)) < (((m : Nat) : Int))))) rfl (OpQ.y (OpY.pure rfl)) ?_
                refine Run.done ?_
                refine Run.seq ?_
                refine Run.cond (b := decide ((((ki : Nat) : Int)) < (((m : Nat) : Int)))) rfl (fun h65 => ?_) (fun h65 => ?_)
                · have p65 := h65; try simp only [bs] at p65
                  have hki : ki < m := by omega
                  obtain ⟨_, hzq2, ⟨tz, htz⟩⟩ := hinv
                  obtain ⟨tq, htq⟩ := brow_in hzx (show ki ≤ m by omega)
                  have hkall : ∀ y ∈ rk zs2, KOk N Q pn n xs y.1 := fun y hy => rQ_key hF.he hK0 (ai + 1) y (by rw [rQ, htq]; rw [hzq2] at hy; exact List.mem_append.2 (.inl hy))
                  have hzM2 : zs2.length ≤ 12800000 := by
                    have h := rQ_small hF.hN.2 hF.hpn.2 hF.hc hF.he hK0 (ai + 1)
                    have h2 : (rk zs2).length ≤ (rQ es m xs n (ps, D0) (ai + 1)).length := by
                      have e : rQ es m xs n (ps, D0) (ai + 1) = brow (kstep es m xs n) (fun _ => true) ((gk, gd), gp) (rQ es m xs n (ps, D0) ai) ki ++ tq := htq
                      rw [hzq2, e, List.length_append]; exact Nat.le_add_right _ _
                    rw [rk, List.length_map] at h2; omega
                  have hzm2 : ((.slice gA1 pn gc1 : Value), (.slice gA2 n gc2 : Value), (.slice gA3 (((stp es m xs n (ps, D0) L0) gp).length) gc3 : Value), ((gk, gd) : RK), gp) ∈ zs2 := by rw [htz]; exact List.mem_append.2 (.inl (List.mem_of_getElem? hz))
                  have hedge := (of_decide_eq_true hF.he) ki hki
                  have hknk0 := kstep_ok hF.he hki hkz
                  obtain ⟨⟨ky, kd⟩, hkk⟩ : ∃ k, kstep es m xs n (gk, gd) ki = k := ⟨_, rfl⟩
                  have hknk : KOk N Q pn n xs (ky, kd) := by rw [hkk] at hknk0; exact hknk0
                  have hky : swL (ix es (ki * 2)) (ix es (ki * 2 + 1)) gk = ky := congrArg Prod.fst hkk
                  have hkd : (advS (goB es m xs (swL (ix es (ki * 2)) (ix es (ki * 2 + 1)) gk)) n gd ((stp es m xs n (ps, D0) L0) gp ++ [((-1, ix es (ki * 2), ix es (ki * 2 + 1)) : T3)])).1 = kd := by rw [adv_same _ _ []]; exact congrArg Prod.snd hkk
                  have hks : (advS (goB es m xs (swL (ix es (ki * 2)) (ix es (ki * 2 + 1)) gk)) n gd ((stp es m xs n (ps, D0) L0) gp ++ [((-1, ix es (ki * 2), ix es (ki * 2 + 1)) : T3)])).2 = ((stp es m xs n (ps, D0) L0) (gp ++ [ki])) := by
                    have h := stp_snoc es m xs n gp (ps, D0) L0 ki
                    rw [hev] at h; exact h.symm
                  have hink : HIN n pn xs (swL (ix es (ki * 2)) (ix es (ki * 2 + 1)) gk) := by rw [hky]; exact hin_of hF.hci hknk.po
                  have hrow : brow (kstep es m xs n) (fun _ => true) ((gk, gd), gp) (rQ es m xs n (ps, D0) ai) (ki + 1) = bvis (kstep es m xs n) (fun _ => true) ((gk, gd), gp) (brow (kstep es m xs n) (fun _ => true) ((gk, gd), gp) (rQ es m xs n (ps, D0) ai) ki) ki := rfl
                  obtain ⟨bg, og, rfl⟩ := hg.opn (by omega)
                  refine Run.skip ?_
                  refine Run.seq ?_
                  refine Run.block ?_
                  refine Run.seq ?_
                  refine Run.region ?_
                  refine Run.q (v := .pointer (some ⟨bg, og + ki * 2, none⟩)) rfl (OpQ.y (OpY.index (kk := ki) Tsl_33 rfl rfl (by omega) (by omega) (by first | rfl | omega))) ?_
                  refine Run.q (v := .agg #[.int .i64 (ix es (ki * 2)), .int .i64 (ix es (ki * 2 + 1))]) rfl (OpQ.y (OpY.loadN (cs := [.int .i64 (ix es (ki * 2)), .int .i64 (ix es (ki * 2 + 1))]) Tagg_77 rfl (Cells.arg (k := ki * 2) hg rfl (by omega) (pre2 (by omega))))) ?_
                  refine Run.step rfl (OpStep.alloc (zs := [.int .i64 0, .int .i64 0]) Tzero_77 fun b18 => ?_)
                  refine Run.step rfl (OpStep.storeAll (us := [.int .i64 (ix es (ki * 2)), .int .i64 (ix es (ki * 2 + 1))]) Tsize_77 rfl rfl rfl (.here _) rfl ?_)
                  refine Run.done ?_
                  refine Run.seq ?_
                  refine Run.region ?_
                  refine Run.q (v := .agg #[.int .i64 N, .slice (some ⟨bg, og, none⟩) m cg, .int .i64 Q, .slice Ac n cc, .slice gA1 pn gc1, .slice gA2 n gc2, .slice gA3 (((stp es m xs n (ps, D0) L0) gp).length) gc3]) rfl (OpQ.y (OpY.loadN (cs := [.int .i64 N, .slice (some ⟨bg, og, none⟩) m cg, .int .i64 Q, .slice Ac n cc, .slice gA1 pn gc1, .slice gA2 n gc2, .slice gA3 (((stp es m xs n (ps, D0) L0) gp).length) gc3]) Tagg_90 rfl (Cells.blk (.tail _ (.tail _ (.tail _ (.tail _ (.tail _ (.tail _ (List.Mem.head _))))))) ⟨rfl, rfl, rfl, rfl, rfl, rfl, rfl, trivial⟩))) ?_
                  refine Run.q (v := .agg #[.int .i64 (ix es (ki * 2)), .int .i64 (ix es (ki * 2 + 1))]) rfl (OpQ.y (OpY.loadN (cs := [.int .i64 (ix es (ki * 2)), .int .i64 (ix es (ki * 2 + 1))]) Tagg_77 rfl (Cells.blk (.head _) ⟨rfl, rfl, trivial⟩))) ?_
                  refine Run.step rfl (OpStep.call (vs := [.agg #[.int .i64 N, .slice (some ⟨bg, og, none⟩) m cg, .int .i64 Q, .slice Ac n cc, .slice gA1 pn gc1, .slice gA2 n gc2, .slice gA3 (((stp es m xs n (ps, D0) L0) gp).length) gc3], .agg #[.int .i64 (ix es (ki * 2)), .int .i64 (ix es (ki * 2 + 1))]]) (caps := []) Tcall_55 rfl rfl (fun w hs => (by have h := swapped_spec (N := N) (Q := Q) (L := (stp es m xs n (ps, D0) L0) gp) (by omega) hF.hpn.1 (by omega) hkz.dl hF.he hink (by omega) (hs.sl hg) (hs.sl hc) (hs.slGrpR (p := pm pn ((.slice gA1 pn gc1 : Value), (.slice gA2 n gc2 : Value), (.slice gA3 (((stp es m xs n (ps, D0) L0) gp).length) gc3 : Value), ((gk, gd) : RK), gp)) (.tail _ (.tail _ (List.Mem.head _))) (pg_mem hzm2)) (hs.slGrpR (p := dm n ((.slice gA1 pn gc1 : Value), (.slice gA2 n gc2 : Value), (.slice gA3 (((stp es m xs n (ps, D0) L0) gp).length) gc3 : Value), ((gk, gd) : RK), gp)) (.tail _ (.tail _ (.tail _ (List.Mem.head _)))) (dg_mem hzm2)) (hs.slGrpR (p := sm (stp es m xs n (ps, D0) L0) ((.slice gA1 pn gc1 : Value), (.slice gA2 n gc2 : Value), (.slice gA3 (((stp es m xs n (ps, D0) L0) gp).length) gc3 : Value), ((gk, gd) : RK), gp)) (.tail _ (.tail _ (.tail _ (.tail _ (List.Mem.head _))))) (sg_mem hzm2)); rw [hks, hkd, hky] at h; exact h)) ?_)
                  rintro _ _ ⟨xvp, xvd, xvs, rfl, rfl⟩
                  show Run _ _ (putF _ _ _ (.agg #[.int .i64 N, .slice (some ⟨bg, og, none⟩) m cg, .int .i64 Q, .slice Ac n cc, xvp, xvd, xvs])) [.own xvp 3 1 pn (ints ky), .own xvd 4 1 n (bls kd), .own xvs 101 3 (((stp es m xs n (ps, D0) L0) (gp ++ [ki])).length) (ints (fl3 ((stp es m xs n (ps, D0) L0) (gp ++ [ki])))), .blk b18 77 [.int .i64 (ix es (ki * 2)), .int .i64 (ix es (ki * 2 + 1))], .own vq2 90 7 (zs2.length) (rcells N (.slice (some ⟨bg, og, none⟩) m cg) Q (.slice Ac n cc) zs2), .grp 3 1 (pgp pn zs2), .grp 4 1 (dgp n zs2), .grp 101 3 (sgp (stp es m xs n (ps, D0) L0) zs2), .mp bm (setKv (rkq (rk zs2) n)), .blk b17 90 [.int .i64 N, .slice (some ⟨bg, og, none⟩) m cg, .int .i64 Q, .slice Ac n cc, .slice gA1 pn gc1, .slice gA2 n gc2, .slice gA3 (((stp es m xs n (ps, D0) L0) gp).length) gc3], .blk b4 90 [.int .i64 N, .slice (some ⟨bg, og, none⟩) m cg, .int .i64 Q, .slice Ac n cc, .slice A_up01 pn c_up01, vd2, vs2], .blk b3 48 [.slice none 0 0, .slice none 0 0], .blk b2 39 [.int .i64 Q, .slice Ac n cc], .blk b1 35 [.int .i64 N, .slice (some ⟨bg, og, none⟩) m cg]]
                  refine Run.step rfl (OpStep.alloc (zs := [.int .i64 0, .slice none 0 0, .int .i64 0, .slice none 0 0, .slice none 0 0, .slice none 0 0, .slice none 0 0]) Tzero_90 fun b19 => ?_)
                  refine Run.formOwn (.tail _ (List.Mem.head _)) (fun A_xvp1 c_xvp1 hv hcapc_xvp1 hmaxc_xvp1 => ?_) (fun _ _ _ => ⟨nofun, nofun, nofun⟩)
                  subst hv
                  refine Run.formOwn (.tail _ (.tail _ (List.Mem.head _))) (fun A_xvd1 c_xvd1 hv hcapc_xvd1 hmaxc_xvd1 => ?_) (fun _ _ _ => ⟨nofun, nofun, nofun⟩)
                  subst hv
                  refine Run.formOwn (.tail _ (.tail _ (.tail _ (List.Mem.head _)))) (fun A_xvs1 c_xvs1 hv hcapc_xvs1 hmaxc_xvs1 => ?_) (fun _ _ _ => ⟨nofun, nofun, nofun⟩)
                  subst hv
                  refine Run.step rfl (OpStep.storeAll (us := [.int .i64 N, .slice (some ⟨bg, og, none⟩) m cg, .int .i64 Q, .slice Ac n cc, .slice A_xvp1 pn c_xvp1, .slice A_xvd1 n c_xvd1, .slice A_xvs1 (((stp es m xs n (ps, D0) L0) (gp ++ [ki])).length) c_xvs1]) Tsize_90 rfl rfl rfl (.here _) rfl ?_)
                  refine Run.done ?_
                  refine Run.seq ?_
                  refine Run.region ?_
                  refine Run.q (v := .map (some bm)) rfl (OpQ.y (OpY.pure rfl)) ?_
                  refine Run.q (v := .agg #[.int .i64 N, .slice (some ⟨bg, og, none⟩) m cg, .int .i64 Q, .slice Ac n cc, .slice A_xvp1 pn c_xvp1, .slice A_xvd1 n c_xvd1, .slice A_xvs1 (((stp es m xs n (ps, D0) L0) (gp ++ [ki])).length) c_xvs1]) rfl (OpQ.y (OpY.loadN (cs := [.int .i64 N, .slice (some ⟨bg, og, none⟩) m cg, .int .i64 Q, .slice Ac n cc, .slice A_xvp1 pn c_xvp1, .slice A_xvd1 n c_xvd1, .slice A_xvs1 (((stp es m xs n (ps, D0) L0) (gp ++ [ki])).length) c_xvs1]) Tagg_90 rfl (Cells.blk (.head _) ⟨rfl, rfl, rfl, rfl, rfl, rfl, rfl, trivial⟩))) ?_
                  refine Run.q (v := keyP ky kd n) rfl (OpQ.call (vs := [.agg #[.int .i64 N, .slice (some ⟨bg, og, none⟩) m cg, .int .i64 Q, .slice Ac n cc, .slice A_xvp1 pn c_xvp1, .slice A_xvd1 n c_xvd1, .slice A_xvs1 (((stp es m xs n (ps, D0) L0) (gp ++ [ki])).length) c_xvs1]]) (caps := []) Tcall_52 rfl rfl (fun w hs => routeKey_spec (by omega) hF.hpn.1 hF.hpn.2 (hs.slOwn (.tail _ (List.Mem.head _))) (hs.slOwn (.tail _ (.tail _ (List.Mem.head _)))))) ?_
                  refine Run.q (v := .bool (decide ((ky, kd) ∈ (rk zs2).map (·.1)))) rfl (OpQ.y (OpY.lookupSet (key := keyP ky kd n) Tmapof_96 (by kernel_rfl) rk_law rfl rfl (.tail _ (.tail _ (.tail _ (.tail _ (.tail _ (.tail _ (.tail _ (.tail _ (.tail _ (List.Mem.head _)))))))))) (rkq_can hF.hN.2 hF.hn hkall) (keyP_can hknk.pl hF.hn (pl_range hF.hN.2 hknk.po)) (by rw [decide_eq_true_eq]; exact (rkq_mem hF.hpn.2 hkall hknk).symm) (by kernel_rfl))) ?_
                  refine Run.q (v := .bool (!(decide ((ky, kd) ∈ (rk zs2).map (·.1))))) rfl (OpQ.y (OpY.pure rfl)) ?_
                  refine Run.done ?_
                  refine Run.cond (b := !(decide ((ky, kd) ∈ (rk zs2).map (·.1)))) rfl (fun h75 => ?_) (fun h75 => ?_)
                  · have p75 := h75; try simp only [bs] at p75
                    have hnin : (ky, kd) ∉ (rk zs2).map (·.1) := by simpa using p75
                    have hbv : brow (kstep es m xs n) (fun _ => true) ((gk, gd), gp) (rQ es m xs n (ps, D0) ai) (ki + 1) = rk zs2 ++ [((ky, kd), (gp ++ [ki]))] := by
                      rw [hrow, ← hzq2, bvis, if_pos ⟨rfl, by rw [hkk]; exact hnin⟩, hkk]
                    refine Run.weak (H' := [.grp 3 1 (pgp pn (zs2 ++ [((.slice A_xvp1 pn c_xvp1 : Value), (.slice A_xvd1 n c_xvd1 : Value), (.slice A_xvs1 (((stp es m xs n (ps, D0) L0) (gp ++ [ki])).length) c_xvs1 : Value), ((ky, kd) : RK), (gp ++ [ki]))])), .blk b19 90 [.int .i64 N, .slice (some ⟨bg, og, none⟩) m cg, .int .i64 Q, .slice Ac n cc, .slice A_xvp1 pn c_xvp1, .slice A_xvd1 n c_xvd1, .slice A_xvs1 (((stp es m xs n (ps, D0) L0) (gp ++ [ki])).length) c_xvs1], .own (.slice A_xvd1 n c_xvd1) 4 1 n (bls kd), .own (.slice A_xvs1 (((stp es m xs n (ps, D0) L0) (gp ++ [ki])).length) c_xvs1) 101 3 (((stp es m xs n (ps, D0) L0) (gp ++ [ki])).length) (ints (fl3 ((stp es m xs n (ps, D0) L0) (gp ++ [ki])))), .blk b18 77 [.int .i64 (ix es (ki * 2)), .int .i64 (ix es (ki * 2 + 1))], .own vq2 90 7 (zs2.length) (rcells N (.slice (some ⟨bg, og, none⟩) m cg) Q (.slice Ac n cc) zs2), .grp 4 1 (dgp n zs2), .grp 101 3 (sgp (stp es m xs n (ps, D0) L0) zs2), .mp bm (setKv (rkq (rk zs2) n)), .blk b17 90 [.int .i64 N, .slice (some ⟨bg, og, none⟩) m cg, .int .i64 Q, .slice Ac n cc, .slice gA1 pn gc1, .slice gA2 n gc2, .slice gA3 (((stp es m xs n (ps, D0) L0) gp).length) gc3], .blk b4 90 [.int .i64 N, .slice (some ⟨bg, og, none⟩) m cg, .int .i64 Q, .slice Ac n cc, .slice A_up01 pn c_up01, vd2, vs2], .blk b3 48 [.slice none 0 0, .slice none 0 0], .blk b2 39 [.int .i64 Q, .slice Ac n cc], .blk b1 35 [.int .i64 N, .slice (some ⟨bg, og, none⟩) m cg]]) ((Weak.selF [1, 5]).trans (Weak.pgSnoc (zs := zs2) (z := ((.slice A_xvp1 pn c_xvp1 : Value), (.slice A_xvd1 n c_xvd1 : Value), (.slice A_xvs1 (((stp es m xs n (ps, D0) L0) (gp ++ [ki])).length) c_xvs1 : Value), ((ky, kd) : RK), (gp ++ [ki]))))) ?_ ⟨_, _, rfl, fun _ => nofun, fun _ => nofun⟩
                    refine Run.weak (H' := [.grp 4 1 (dgp n (zs2 ++ [((.slice A_xvp1 pn c_xvp1 : Value), (.slice A_xvd1 n c_xvd1 : Value), (.slice A_xvs1 (((stp es m xs n (ps, D0) L0) (gp ++ [ki])).length) c_xvs1 : Value), ((ky, kd) : RK), (gp ++ [ki]))])), .grp 3 1 (pgp pn (zs2 ++ [((.slice A_xvp1 pn c_xvp1 : Value), (.slice A_xvd1 n c_xvd1 : Value), (.slice A_xvs1 (((stp es m xs n (ps, D0) L0) (gp ++ [ki])).length) c_xvs1 : Value), ((ky, kd) : RK), (gp ++ [ki]))])), .blk b19 90 [.int .i64 N, .slice (some ⟨bg, og, none⟩) m cg, .int .i64 Q, .slice Ac n cc, .slice A_xvp1 pn c_xvp1, .slice A_xvd1 n c_xvd1, .slice A_xvs1 (((stp es m xs n (ps, D0) L0) (gp ++ [ki])).length) c_xvs1], .own (.slice A_xvs1 (((stp es m xs n (ps, D0) L0) (gp ++ [ki])).length) c_xvs1) 101 3 (((stp es m xs n (ps, D0) L0) (gp ++ [ki])).length) (ints (fl3 ((stp es m xs n (ps, D0) L0) (gp ++ [ki])))), .blk b18 77 [.int .i64 (ix es (ki * 2)), .int .i64 (ix es (ki * 2 + 1))], .own vq2 90 7 (zs2.length) (rcells N (.slice (some ⟨bg, og, none⟩) m cg) Q (.slice Ac n cc) zs2), .grp 101 3 (sgp (stp es m xs n (ps, D0) L0) zs2), .mp bm (setKv (rkq (rk zs2) n)), .blk b17 90 [.int .i64 N, .slice (some ⟨bg, og, none⟩) m cg, .int .i64 Q, .slice Ac n cc, .slice gA1 pn gc1, .slice gA2 n gc2, .slice gA3 (((stp es m xs n (ps, D0) L0) gp).length) gc3], .blk b4 90 [.int .i64 N, .slice (some ⟨bg, og, none⟩) m cg, .int .i64 Q, .slice Ac n cc, .slice A_up01 pn c_up01, vd2, vs2], .blk b3 48 [.slice none 0 0, .slice none 0 0], .blk b2 39 [.int .i64 Q, .slice Ac n cc], .blk b1 35 [.int .i64 N, .slice (some ⟨bg, og, none⟩) m cg]]) ((Weak.selF [2, 5]).trans (Weak.dgSnoc (zs := zs2) (z := ((.slice A_xvp1 pn c_xvp1 : Value), (.slice A_xvd1 n c_xvd1 : Value), (.slice A_xvs1 (((stp es m xs n (ps, D0) L0) (gp ++ [ki])).length) c_xvs1 : Value), ((ky, kd) : RK), (gp ++ [ki]))))) ?_ ⟨_, _, rfl, fun _ => nofun, fun _ => nofun⟩
                    refine Run.weak (H' := [.grp 101 3 (sgp (stp es m xs n (ps, D0) L0) (zs2 ++ [((.slice A_xvp1 pn c_xvp1 : Value), (.slice A_xvd1 n c_xvd1 : Value), (.slice A_xvs1 (((stp es m xs n (ps, D0) L0) (gp ++ [ki])).length) c_xvs1 : Value), ((ky, kd) : RK), (gp ++ [ki]))])), .grp 4 1 (dgp n (zs2 ++ [((.slice A_xvp1 pn c_xvp1 : Value), (.slice A_xvd1 n c_xvd1 : Value), (.slice A_xvs1 (((stp es m xs n (ps, D0) L0) (gp ++ [ki])).length) c_xvs1 : Value), ((ky, kd) : RK), (gp ++ [ki]))])), .grp 3 1 (pgp pn (zs2 ++ [((.slice A_xvp1 pn c_xvp1 : Value), (.slice A_xvd1 n c_xvd1 : Value), (.slice A_xvs1 (((stp es m xs n (ps, D0) L0) (gp ++ [ki])).length) c_xvs1 : Value), ((ky, kd) : RK), (gp ++ [ki]))])), .blk b19 90 [.int .i64 N, .slice (some ⟨bg, og, none⟩) m cg, .int .i64 Q, .slice Ac n cc, .slice A_xvp1 pn c_xvp1, .slice A_xvd1 n c_xvd1, .slice A_xvs1 (((stp es m xs n (ps, D0) L0) (gp ++ [ki])).length) c_xvs1], .blk b18 77 [.int .i64 (ix es (ki * 2)), .int .i64 (ix es (ki * 2 + 1))], .own vq2 90 7 (zs2.length) (rcells N (.slice (some ⟨bg, og, none⟩) m cg) Q (.slice Ac n cc) zs2), .mp bm (setKv (rkq (rk zs2) n)), .blk b17 90 [.int .i64 N, .slice (some ⟨bg, og, none⟩) m cg, .int .i64 Q, .slice Ac n cc, .slice gA1 pn gc1, .slice gA2 n gc2, .slice gA3 (((stp es m xs n (ps, D0) L0) gp).length) gc3], .blk b4 90 [.int .i64 N, .slice (some ⟨bg, og, none⟩) m cg, .int .i64 Q, .slice Ac n cc, .slice A_up01 pn c_up01, vd2, vs2], .blk b3 48 [.slice none 0 0, .slice none 0 0], .blk b2 39 [.int .i64 Q, .slice Ac n cc], .blk b1 35 [.int .i64 N, .slice (some ⟨bg, og, none⟩) m cg]]) ((Weak.selF [3, 5]).trans (Weak.sgSnoc (S := (stp es m xs n (ps, D0) L0)) (zs := zs2) (z := ((.slice A_xvp1 pn c_xvp1 : Value), (.slice A_xvd1 n c_xvd1 : Value), (.slice A_xvs1 (((stp es m xs n (ps, D0) L0) (gp ++ [ki])).length) c_xvs1 : Value), ((ky, kd) : RK), (gp ++ [ki]))))) ?_ ⟨_, _, rfl, fun _ => nofun, fun _ => nofun⟩
                    refine Run.seq ?_
                    refine Run.region ?_
                    refine Run.q (v := .map (some bm)) rfl (OpQ.y (OpY.pure rfl)) ?_
                    refine Run.q (v := .agg #[.int .i64 N, .slice (some ⟨bg, og, none⟩) m cg, .int .i64 Q, .slice Ac n cc, .slice A_xvp1 pn c_xvp1, .slice A_xvd1 n c_xvd1, .slice A_xvs1 (((stp es m xs n (ps, D0) L0) (gp ++ [ki])).length) c_xvs1]) rfl (OpQ.y (OpY.loadN (cs := [.int .i64 N, .slice (some ⟨bg, og, none⟩) m cg, .int .i64 Q, .slice Ac n cc, .slice A_xvp1 pn c_xvp1, .slice A_xvd1 n c_xvd1, .slice A_xvs1 (((stp es m xs n (ps, D0) L0) (gp ++ [ki])).length) c_xvs1]) Tagg_90 rfl (Cells.blk (.tail _ (.tail _ (.tail _ (List.Mem.head _)))) ⟨rfl, rfl, rfl, rfl, rfl, rfl, rfl, trivial⟩))) ?_
                    refine Run.q (v := keyP ky kd n) rfl (OpQ.call (vs := [.agg #[.int .i64 N, .slice (some ⟨bg, og, none⟩) m cg, .int .i64 Q, .slice Ac n cc, .slice A_xvp1 pn c_xvp1, .slice A_xvd1 n c_xvd1, .slice A_xvs1 (((stp es m xs n (ps, D0) L0) (gp ++ [ki])).length) c_xvs1]]) (caps := []) Tcall_52 rfl rfl (fun w hs => routeKey_spec (by omega) hF.hpn.1 hF.hpn.2 (hs.slGrpR (p := pm pn ((.slice A_xvp1 pn c_xvp1 : Value), (.slice A_xvd1 n c_xvd1 : Value), (.slice A_xvs1 (((stp es m xs n (ps, D0) L0) (gp ++ [ki])).length) c_xvs1 : Value), ((ky, kd) : RK), (gp ++ [ki]))) (.tail _ (.tail _ (List.Mem.head _))) (pg_mem (List.mem_append.2 (.inr (.head _))))) (hs.slGrpR (p := dm n ((.slice A_xvp1 pn c_xvp1 : Value), (.slice A_xvd1 n c_xvd1 : Value), (.slice A_xvs1 (((stp es m xs n (ps, D0) L0) (gp ++ [ki])).length) c_xvs1 : Value), ((ky, kd) : RK), (gp ++ [ki]))) (.tail _ (List.Mem.head _)) (dg_mem (List.mem_append.2 (.inr (.head _))))))) ?_
                    refine Run.step rfl (OpStep.insertSet (ks := rkq (rk zs2) n) (key := keyP ky kd n) Tmapof_96 rk_law rfl rfl rfl (by rw [show (rkq (rk zs2) n) ++ [keyP ky kd n] = rkq (rk (zs2 ++ [((.slice A_xvp1 pn c_xvp1 : Value), (.slice A_xvd1 n c_xvd1 : Value), (.slice A_xvs1 (((stp es m xs n (ps, D0) L0) (gp ++ [ki])).length) c_xvs1 : Value), ((ky, kd) : RK), (gp ++ [ki]))])) n from by simp [rkq, rk]]; exact (.there _ (.there _ (.there _ (.there _ (.there _ (.there _ (.here _)))))))) (rkq_can hF.hN.2 hF.hn hkall) (keyP_can hknk.pl hF.hn (pl_range hF.hN.2 hknk.po)) (fun h => hnin ((rkq_mem hF.hpn.2 hkall hknk).1 h)) ?_)
                    refine Run.done ?_
                    refine Run.region ?_
                    refine Run.q (v := vq2) rfl (OpQ.y (OpY.pure rfl)) ?_
                    refine Run.q (v := .agg #[.int .i64 N, .slice (some ⟨bg, og, none⟩) m cg, .int .i64 Q, .slice Ac n cc, .slice A_xvp1 pn c_xvp1, .slice A_xvd1 n c_xvd1, .slice A_xvs1 (((stp es m xs n (ps, D0) L0) (gp ++ [ki])).length) c_xvs1]) rfl (OpQ.y (OpY.loadN (cs := [.int .i64 N, .slice (some ⟨bg, og, none⟩) m cg, .int .i64 Q, .slice Ac n cc, .slice A_xvp1 pn c_xvp1, .slice A_xvd1 n c_xvd1, .slice A_xvs1 (((stp es m xs n (ps, D0) L0) (gp ++ [ki])).length) c_xvs1]) Tagg_90 rfl (Cells.blk (.tail _ (.tail _ (.tail _ (List.Mem.head _)))) ⟨rfl, rfl, rfl, rfl, rfl, rfl, rfl, trivial⟩))) ?_
                    refine Run.step rfl (OpStep.buildSlice (us := [.int .i64 N, .slice (some ⟨bg, og, none⟩) m cg, .int .i64 Q, .slice Ac n cc, .slice A_xvp1 pn c_xvp1, .slice A_xvd1 n c_xvd1, .slice A_xvs1 (((stp es m xs n (ps, D0) L0) (gp ++ [ki])).length) c_xvs1]) Tsl_97 (by decide) (by decide) ⟨rfl, [.int .i64 N, .slice (some ⟨bg, og, none⟩) m cg, .int .i64 Q, .slice Ac n cc, .slice A_xvp1 pn c_xvp1, .slice A_xvd1 n c_xvd1, .slice A_xvs1 (((stp es m xs n (ps, D0) L0) (gp ++ [ki])).length) c_xvs1], _, rfl, rfl, rfl, rfl⟩ rfl fun b20 => ?_)
                    refine Run.step rfl (OpStep.append (H1 := [.own (.slice (some ⟨b20, 0, none⟩) 1 1) 90 7 1 ([.int .i64 N, .slice (some ⟨bg, og, none⟩) m cg, .int .i64 Q, .slice Ac n cc, .slice A_xvp1 pn c_xvp1, .slice A_xvd1 n c_xvd1, .slice A_xvs1 (((stp es m xs n (ps, D0) L0) (gp ++ [ki])).length) c_xvs1]), .grp 101 3 (sgp (stp es m xs n (ps, D0) L0) (zs2 ++ [((.slice A_xvp1 pn c_xvp1 : Value), (.slice A_xvd1 n c_xvd1 : Value), (.slice A_xvs1 (((stp es m xs n (ps, D0) L0) (gp ++ [ki])).length) c_xvs1 : Value), ((ky, kd) : RK), (gp ++ [ki]))])), .grp 4 1 (dgp n (zs2 ++ [((.slice A_xvp1 pn c_xvp1 : Value), (.slice A_xvd1 n c_xvd1 : Value), (.slice A_xvs1 (((stp es m xs n (ps, D0) L0) (gp ++ [ki])).length) c_xvs1 : Value), ((ky, kd) : RK), (gp ++ [ki]))])), .grp 3 1 (pgp pn (zs2 ++ [((.slice A_xvp1 pn c_xvp1 : Value), (.slice A_xvd1 n c_xvd1 : Value), (.slice A_xvs1 (((stp es m xs n (ps, D0) L0) (gp ++ [ki])).length) c_xvs1 : Value), ((ky, kd) : RK), (gp ++ [ki]))])), .blk b19 90 [.int .i64 N, .slice (some ⟨bg, og, none⟩) m cg, .int .i64 Q, .slice Ac n cc, .slice A_xvp1 pn c_xvp1, .slice A_xvd1 n c_xvd1, .slice A_xvs1 (((stp es m xs n (ps, D0) L0) (gp ++ [ki])).length) c_xvs1], .blk b18 77 [.int .i64 (ix es (ki * 2)), .int .i64 (ix es (ki * 2 + 1))]]) (H2 := [.mp bm (setKv (rkq (rk (zs2 ++ [((.slice A_xvp1 pn c_xvp1 : Value), (.slice A_xvd1 n c_xvd1 : Value), (.slice A_xvs1 (((stp es m xs n (ps, D0) L0) (gp ++ [ki])).length) c_xvs1 : Value), ((ky, kd) : RK), (gp ++ [ki]))])) n)), .blk b17 90 [.int .i64 N, .slice (some ⟨bg, og, none⟩) m cg, .int .i64 Q, .slice Ac n cc, .slice gA1 pn gc1, .slice gA2 n gc2, .slice gA3 (((stp es m xs n (ps, D0) L0) gp).length) gc3], .blk b4 90 [.int .i64 N, .slice (some ⟨bg, og, none⟩) m cg, .int .i64 Q, .slice Ac n cc, .slice A_up01 pn c_up01, vd2, vs2], .blk b3 48 [.slice none 0 0, .slice none 0 0], .blk b2 39 [.int .i64 Q, .slice Ac n cc], .blk b1 35 [.int .i64 N, .slice (some ⟨bg, og, none⟩) m cg]]) (v := vq2) (u := .slice (some ⟨b20, 0, none⟩) 1 1) (n := zs2.length) (m := 1) (xs := rcells N (.slice (some ⟨bg, og, none⟩) m cg) Q (.slice Ac n cc) zs2) (ys := [.int .i64 N, .slice (some ⟨bg, og, none⟩) m cg, .int .i64 Q, .slice Ac n cc, .slice A_xvp1 pn c_xvp1, .slice A_xvd1 n c_xvd1, .slice A_xvs1 (((stp es m xs n (ps, D0) L0) (gp ++ [ki])).length) c_xvs1]) Tsl_97 (by decide) rfl rfl rfl rfl (fun w hs => hs.slOwn (.head _)) (by simp [Value.oneCell', rcell]) (by omega) (by simp only [maxLen]; omega) fun av1 hnav1 => ?_)
                    refine Run.weak (H' := [.own (.slice (some ⟨b20, 0, none⟩) 1 1) 90 7 1 ([.int .i64 N, .slice (some ⟨bg, og, none⟩) m cg, .int .i64 Q, .slice Ac n cc, .slice A_xvp1 pn c_xvp1, .slice A_xvd1 n c_xvd1, .slice A_xvs1 (((stp es m xs n (ps, D0) L0) (gp ++ [ki])).length) c_xvs1]), .grp 101 3 (sgp (stp es m xs n (ps, D0) L0) (zs2 ++ [((.slice A_xvp1 pn c_xvp1 : Value), (.slice A_xvd1 n c_xvd1 : Value), (.slice A_xvs1 (((stp es m xs n (ps, D0) L0) (gp ++ [ki])).length) c_xvs1 : Value), ((ky, kd) : RK), (gp ++ [ki]))])), .grp 4 1 (dgp n (zs2 ++ [((.slice A_xvp1 pn c_xvp1 : Value), (.slice A_xvd1 n c_xvd1 : Value), (.slice A_xvs1 (((stp es m xs n (ps, D0) L0) (gp ++ [ki])).length) c_xvs1 : Value), ((ky, kd) : RK), (gp ++ [ki]))])), .grp 3 1 (pgp pn (zs2 ++ [((.slice A_xvp1 pn c_xvp1 : Value), (.slice A_xvd1 n c_xvd1 : Value), (.slice A_xvs1 (((stp es m xs n (ps, D0) L0) (gp ++ [ki])).length) c_xvs1 : Value), ((ky, kd) : RK), (gp ++ [ki]))])), .blk b19 90 [.int .i64 N, .slice (some ⟨bg, og, none⟩) m cg, .int .i64 Q, .slice Ac n cc, .slice A_xvp1 pn c_xvp1, .slice A_xvd1 n c_xvd1, .slice A_xvs1 (((stp es m xs n (ps, D0) L0) (gp ++ [ki])).length) c_xvs1], .blk b18 77 [.int .i64 (ix es (ki * 2)), .int .i64 (ix es (ki * 2 + 1))], .own av1 90 7 ((zs2 ++ [((.slice A_xvp1 pn c_xvp1 : Value), (.slice A_xvd1 n c_xvd1 : Value), (.slice A_xvs1 (((stp es m xs n (ps, D0) L0) (gp ++ [ki])).length) c_xvs1 : Value), ((ky, kd) : RK), (gp ++ [ki]))]).length) (rcells N (.slice (some ⟨bg, og, none⟩) m cg) Q (.slice Ac n cc) ((zs2 ++ [((.slice A_xvp1 pn c_xvp1 : Value), (.slice A_xvd1 n c_xvd1 : Value), (.slice A_xvs1 (((stp es m xs n (ps, D0) L0) (gp ++ [ki])).length) c_xvs1 : Value), ((ky, kd) : RK), (gp ++ [ki]))]))), .mp bm (setKv (rkq (rk (zs2 ++ [((.slice A_xvp1 pn c_xvp1 : Value), (.slice A_xvd1 n c_xvd1 : Value), (.slice A_xvs1 (((stp es m xs n (ps, D0) L0) (gp ++ [ki])).length) c_xvs1 : Value), ((ky, kd) : RK), (gp ++ [ki]))])) n)), .blk b17 90 [.int .i64 N, .slice (some ⟨bg, og, none⟩) m cg, .int .i64 Q, .slice Ac n cc, .slice gA1 pn gc1, .slice gA2 n gc2, .slice gA3 (((stp es m xs n (ps, D0) L0) gp).length) gc3], .blk b4 90 [.int .i64 N, .slice (some ⟨bg, og, none⟩) m cg, .int .i64 Q, .slice Ac n cc, .slice A_up01 pn c_up01, vd2, vs2], .blk b3 48 [.slice none 0 0, .slice none 0 0], .blk b2 39 [.int .i64 Q, .slice Ac n cc], .blk b1 35 [.int .i64 N, .slice (some ⟨bg, og, none⟩) m cg]]) (Some'.weak (.take (.take (.take (.take (.take (.take (.takeEq (by rw [rcells_snoc]; exact congrArg (fun k => Res.own _ _ _ k _) (by simp)) (.take (.take (.take (.take (.take (.take (.nil _))))))))))))))) ?_ ⟨_, _, rfl, fun _ => nofun, fun _ => nofun⟩
                    refine Run.q (v := av1) rfl (OpQ.y (OpY.pure rfl)) ?_
                    refine Run.done ?_
                    refine Run.blockEnd ?_
                    refine Run.region ?_
                    refine Run.q (v := .int .i64 ((((ki : Nat) : Int)) + 1)) rfl (OpQ.y (OpY.add rfl rfl rfl (by omega) (by omega))) ?_
                    refine Run.q (v := .int .i64 ((((ki : Nat) : Int)) + 1)) rfl (OpQ.y (OpY.pure rfl)) ?_
                    refine Run.done ?_
                    refine Run.goal ⟨(by repeat (first | exact Same.refl _ _ | refine Same.put rfl ?_ | refine Same.over rfl rfl ?_)), (ki + 1, av1, (zs2 ++ [((.slice A_xvp1 pn c_xvp1 : Value), (.slice A_xvd1 n c_xvd1 : Value), (.slice A_xvs1 (((stp es m xs n (ps, D0) L0) (gp ++ [ki])).length) c_xvs1 : Value), ((ky, kd) : RK), (gp ++ [ki]))])), ?_, ?_, ?_, ?_⟩
                    · first | exact ⟨hki, hbv.symm, tz, htz⟩ | exact ⟨hki, by rw [hbv]; simp [rk], tz ++ [_], by rw [htz, List.append_assoc]⟩
                    · show m - (ki + 1) < m - ki; omega
                    · exact ⟨(by first | rfl | (congr 1; omega) | simp), (by first | rfl | (congr 1; omega) | simp), trivial⟩
                    · exact ((Weak.selF [6, 3, 2, 1, 3, 3, 3, 3, 3, 3]).trans (Some'.weak (.takeEq (by first | rfl | simp [rk]) (.takeEq (by first | rfl | simp [rk]) (.takeEq (by first | rfl | simp [rk]) (.takeEq (by first | rfl | simp [rk]) (.takeEq (by first | rfl | simp [rk]) (.takeEq (by first | rfl | simp [rk]) (.takeEq (by first | rfl | simp [rk]) (.take (.take (.takeEq (by first | rfl | simp [rk]) (.nil _)))))))))))))
                  · have p75 := h75; try simp only [bs] at p75
                    have hyin : (ky, kd) ∈ (rk zs2).map (·.1) := by simpa using p75
                    have hbv : brow (kstep es m xs n) (fun _ => true) ((gk, gd), gp) (rQ es m xs n (ps, D0) ai) (ki + 1) = rk zs2 := by
                      rw [hrow, ← hzq2, bvis, if_neg (fun h => h.2 (by rw [hkk]; exact hyin))]
                    refine Run.skip ?_
                    refine Run.blockEnd ?_
                    refine Run.region ?_
                    refine Run.q (v := .int .i64 ((((ki : Nat) : Int)) + 1)) rfl (OpQ.y (OpY.add rfl rfl rfl (by omega) (by omega))) ?_
                    refine Run.q (v := .int .i64 ((((ki : Nat) : Int)) + 1)) rfl (OpQ.y (OpY.pure rfl)) ?_
                    refine Run.done ?_
                    refine Run.goal ⟨(by repeat (first | exact Same.refl _ _ | refine Same.put rfl ?_ | refine Same.over rfl rfl ?_)), (ki + 1, vq2, zs2), ?_, ?_, ?_, ?_⟩
                    · first | exact ⟨hki, hbv.symm, tz, htz⟩ | exact ⟨hki, by rw [hbv]; simp [rk], tz ++ [_], by rw [htz, List.append_assoc]⟩
                    · show m - (ki + 1) < m - ki; omega
                    · exact ⟨(by first | rfl | (congr 1; omega) | simp), (by first | rfl | (congr 1; omega) | simp), trivial⟩
                    · exact ((Weak.selF [5, 5, 5, 5, 5, 5, 5, 5, 5, 5]).trans (Some'.weak (.takeEq (by first | rfl | simp [rk]) (.takeEq (by first | rfl | simp [rk]) (.takeEq (by first | rfl | simp [rk]) (.takeEq (by first | rfl | simp [rk]) (.takeEq (by first | rfl | simp [rk]) (.takeEq (by first | rfl | simp [rk]) (.takeEq (by first | rfl | simp [rk]) (.take (.take (.takeEq (by first | rfl | simp [rk]) (.nil _)))))))))))))
                · have p65 := h65; try simp only [bs] at p65
                  have hkn : ki = m := by omega
                  obtain ⟨_, hzq2, ⟨tz, htz⟩⟩ := hinv
                  have hQ1 : rk zs2 = rQ es m xs n (ps, D0) (ai + 1) := by rw [hzq2, hkn]; exact (bfs_succ hzx).symm
                  refine Run.exit rfl ?_
                  refine Run.blockEnd ?_
                  refine Run.region ?_
                  refine Run.q (v := .int .i64 (((ai : Nat) : Int))) rfl (OpQ.y (OpY.pure rfl)) ?_
                  refine Run.q (v := .int .i64 ((((ai : Nat) : Int)) + 1)) rfl (OpQ.y (OpY.add rfl rfl rfl (by omega) (by omega))) ?_
                  refine Run.q (v := .int .i64 ((((ai : Nat) : Int)) + 1)) rfl (OpQ.y (OpY.pure rfl)) ?_
                  refine Run.done ?_
                  refine Run.goal ⟨(by repeat (first | exact Same.refl _ _ | refine Same.put rfl ?_ | refine Same.over rfl rfl ?_)), (ai + 1, vq2, zs2), ?_, ?_, ?_, ?_⟩
                  · refine ⟨by omega, hQ1, fun j hj z hzj => ?_⟩
                    by_cases hja : j = ai
                    · subst hja
                      rw [htz, List.getElem?_append_left hai, hz] at hzj
                      cases hzj; exact hnall
                    · rw [htz, List.getElem?_append_left (by omega)] at hzj
                      exact hzn j (by omega) z hzj
                  · show 12800001 - (ai + 1) < 12800001 - ai; omega
                  · exact ⟨(by first | rfl | (congr 1; omega) | simp), (by first | rfl | (congr 1; omega) | simp), trivial⟩
                  · exact ((Weak.selF [0, 0, 0, 0, 0, 1, 1, 1, 1]).trans (Some'.weak (.takeEq (by first | rfl | simp) (.takeEq (by first | rfl | simp) (.takeEq (by first | rfl | simp) (.takeEq (by first | rfl | simp) (.takeEq (by first | rfl | simp) (.take (.take (.take (.take (.nil _))))))))))))
          · have p44 := h44; try simp only [bs] at p44
            obtain ⟨hzq, hzn⟩ := hinv
            have hzM : zs.length ≤ 12800000 := by have h := rQ_small hF.hN.2 hF.hpn.2 hF.hc hF.he hK0 ai; rw [← hzq, rk, List.length_map] at h; exact h
            have hno := rt_no (M := M) (N := N) (es := es) (m := m) (Q := Q) (xs := xs) (n := n) (ps := ps) (pn := pn) (.inr (by
              rw [hS0]
              exact rtP_none (i := ai) (by omega) (by rw [← hzq, rk, List.length_map]; omega) fun j hj y hy => by
                rw [← hzq, rk, List.getElem?_map] at hy
                cases hzj : zs[j]? with
                | none => rw [hzj] at hy; cases hy
                | some z => rw [hzj] at hy; cases hy; exact hzn j hj z hzj))
            refine Run.exit rfl ?_
            refine Run.seq ?_
            refine Run.region ?_
            refine Run.q (v := .agg #[.slice none 0 0, .slice none 0 0]) rfl (OpQ.y (OpY.build (cs := [.slice none 0 0, .slice none 0 0]) (by kernel_rfl))) ?_
            refine Run.step rfl (OpStep.storeAll (us := [.slice none 0 0, .slice none 0 0]) Tsize_48 rfl rfl rfl (.there _ (.there _ (.there _ (.there _ (.there _ (.there _ (.here _))))))) rfl ?_)
            refine Run.q (v := .bool false) rfl (OpQ.y (OpY.pure rfl)) ?_
            refine Run.done ?_
            refine Run.ret ?_
            refine ⟨.tuple #[.agg #[.slice none 0 0, .slice none 0 0], .bool false], [.own (.slice none 0 0) 3 1 0 ([]), .own (.slice none 0 0) 101 3 0 ([])], Out.cell2 (cs := [.slice none 0 0, .slice none 0 0]) rfl Tagg_48 rfl (Cells.blk (.tail _ (.tail _ (.tail _ (.tail _ (.tail _ (.tail _ (List.Mem.head _))))))) ⟨rfl, rfl, trivial⟩) rfl, ((Weak.nilOwn 101 3).trans ((Weak.nilOwn 3 1).trans (Some'.weak (.take (.take (.nil _)))))), ?_⟩
            exact ⟨_, _, by rw [hno.1], by rw [hno.2.1, hno.2.2]; rfl⟩

end Go.Proofs.Ytekikmdjldincaa
/- Plain laws: searches in breadth from many starts. -/
set_option linter.unusedSimpArgs false
set_option linter.unusedVariables false
namespace Go.Proofs.Ytekikmdjldincaa
open Go Go.RowKit
section
variable {K : Type} (step : K → Nat → K) (E : Nat)
def st0 : List K → Nat → List (K × List Nat)
  | [], _ => []
  | k :: l, j => (k, [j]) :: st0 l (j + 1)
/-- The steps from a root, whose letters are the starts. -/
def stepO (l : List K) : Option K → Nat → Option K
  | none, e => l[e]?
  | some k, e => some (if e < E then step k e else k)
def upO (y : K × List Nat) : Option K × List Nat := (some y.1, y.2)
def rootO : Option K × List Nat := (none, [])
variable {step E}
theorem st0_snoc (k : K) : ∀ (l : List K) (j : Nat), st0 (l ++ [k]) j = st0 l j ++ [(k, [j + l.length])]
  | [], j => by simp [st0]
  | a :: l, j => by
    rw [List.cons_append, st0, st0_snoc k l (j + 1), st0, List.cons_append, List.length_cons]
    simp only [List.cons.injEq, List.append_cancel_left_eq, Prod.mk.injEq, true_and, and_true]; omega
theorem st0_fst : ∀ (l : List K) (j : Nat), (st0 l j).map (·.1) = l
  | [], _ => rfl
  | a :: l, j => by rw [st0, List.map_cons, st0_fst l (j + 1)]
theorem st0_length (l : List K) (j : Nat) : (st0 l j).length = l.length := by
  have := congrArg List.length (st0_fst l j); simpa using this
theorem st0_get : ∀ (l : List K) (j i : Nat) (y : K × List Nat), (st0 l j)[i]? = some y → l[i]? = some y.1 ∧ y.2 = [j + i]
  | [], j, i, y, h => by simp [st0] at h
  | a :: l, j, 0, y, h => by simp only [st0, List.getElem?_cons_zero, Option.some.injEq] at h; subst h; exact ⟨rfl, rfl⟩
  | a :: l, j, i + 1, y, h => by
    have h2 := st0_get l (j + 1) i y (by simpa [st0] using h)
    exact ⟨by simpa using h2.1, by rw [h2.2]; simp; omega⟩
theorem up_mem (k : K) (q : List (K × List Nat)) : some k ∈ ((rootO :: q.map upO).map (·.1) : List (Option K)) ↔ k ∈ q.map (·.1) := by
  simp only [List.map_cons, List.map_map, List.mem_cons, rootO, reduceCtorEq, false_or, List.mem_map, Function.comp, upO]
  constructor
  · rintro ⟨y, hy, h⟩; exact ⟨y, hy, Option.some.inj h⟩
  · rintro ⟨y, hy, h⟩; exact ⟨y, hy, congrArg some h⟩
theorem bev_up {l : List K} : ∀ (u : List Nat) (k : K), (∀ e ∈ u, e < E) → bev (stepO step E l) (some k) u = some (bev step k u)
  | [], k, _ => rfl
  | e :: u, k, h => by
    have h1 : bev (stepO step E l) (some k) (e :: u) = bev (stepO step E l) (stepO step E l (some k) e) u := rfl
    have h2 : stepO step E l (some k) e = some (step k e) := by show some _ = _; rw [if_pos (h e (by simp))]
    rw [h1, h2, bev_up u _ fun a ha => h a (by simp [ha])]; rfl
end
section
variable {K : Type} [DecidableEq K] (step : K → Nat → K) (E : Nat)
/-- The queue behind the first i nodes, from many starts. -/
def bfsL (q0 : List (K × List Nat)) : Nat → List (K × List Nat)
  | 0 => q0
  | i + 1 => match (bfsL q0 i)[i]? with
    | some x => brow step (fun _ => true) x (bfsL q0 i) E
    | none => bfsL q0 i
variable {step E}
theorem row_up {l : List K} {x : K × List Nat} {q : List (K × List Nat)} : ∀ e, e ≤ E → brow (stepO step E l) (fun _ => true) (upO x) (rootO :: q.map upO) e = rootO :: (brow step (fun _ => true) x q e).map upO
  | 0, _ => rfl
  | e + 1, he => by
    rw [brow, row_up e (by omega), brow]
    have hs : stepO step E l (upO x).1 e = some (step x.1 e) := by show some _ = _; rw [if_pos (by omega)]
    unfold bvis
    rw [hs]
    by_cases h : step x.1 e ∈ (brow step (fun _ => true) x q e).map (·.1)
    · rw [if_neg (fun hc => hc.2 ((up_mem _ _).2 h)), if_neg (fun hc => hc.2 h)]
    · rw [if_pos ⟨rfl, fun hc => h ((up_mem _ _).1 hc)⟩, if_pos ⟨rfl, h⟩, List.map_append]; rfl
theorem row_up2 {l : List K} {x : K × List Nat} {q : List (K × List Nat)} (hx : x ∈ q) : ∀ d, brow (stepO step E l) (fun _ => true) (upO x) (rootO :: q.map upO) (E + d) = rootO :: (brow step (fun _ => true) x q E).map upO
  | 0 => row_up E (Nat.le_refl _)
  | d + 1 => by
    rw [← Nat.add_assoc, brow, row_up2 hx d]
    have hs : stepO step E l (upO x).1 (E + d) = some x.1 := by show some _ = _; rw [if_neg (by omega)]
    unfold bvis
    rw [hs, if_neg]
    intro hc
    refine hc.2 ((up_mem _ _).2 ?_)
    obtain ⟨t, ht⟩ := brow_pre (step := step) (ok := fun _ => true) x q E
    rw [ht]
    exact List.mem_map.2 ⟨x, List.mem_append.2 (.inl hx), rfl⟩
theorem row_root {l : List K} (hn : l.Nodup) : ∀ e, e ≤ l.length → brow (stepO step E l) (fun _ => true) rootO [rootO] e = rootO :: (st0 (l.take e) 0).map upO
  | 0, _ => by simp [brow, st0]
  | e + 1, he => by
    have hl : e < l.length := by omega
    rw [brow, row_root hn e (by omega)]
    have hs : stepO step E l (rootO : Option K × List Nat).1 e = some l[e] := List.getElem?_eq_getElem hl
    unfold bvis
    rw [hs, if_pos]
    · have ht : l.take (e + 1) = l.take e ++ [l[e]] := (List.take_append_getElem hl).symm
      rw [ht, st0_snoc, List.map_append]
      simp only [rootO, upO, List.cons_append, List.nil_append, List.map_cons, List.map_nil, List.length_take]
      rw [Nat.min_eq_left (by omega), Nat.zero_add]
    · refine ⟨rfl, fun h => ?_⟩
      rw [up_mem, st0_fst] at h
      obtain ⟨i, hi, hie⟩ := List.getElem_of_mem h
      rw [List.length_take, Nat.min_eq_left (by omega)] at hi
      rw [List.getElem_take] at hie
      exact List.pairwise_iff_getElem.1 hn i e (by omega) hl hi hie
theorem row_root2 {l : List K} (hn : l.Nodup) : ∀ d, brow (stepO step E l) (fun _ => true) rootO [rootO] (l.length + d) = rootO :: (st0 l 0).map upO
  | 0 => by have := row_root (step := step) (E := E) hn l.length (Nat.le_refl _); rwa [List.take_length] at this
  | d + 1 => by
    rw [← Nat.add_assoc, brow, row_root2 hn d]
    have hs : stepO step E l (rootO : Option K × List Nat).1 (l.length + d) = none := List.getElem?_eq_none (by omega)
    unfold bvis
    rw [hs, if_neg]
    exact fun h => h.2 (by simp [rootO])
theorem bfs_up {l : List K} (hn : l.Nodup) {F : Nat} (h1 : l.length ≤ F) (h2 : E ≤ F) : ∀ i, bfs (stepO step E l) (fun _ => true) F none (i + 1) = rootO :: (bfsL step E (st0 l 0) i).map upO
  | 0 => by
    have h := row_root2 (step := step) (E := E) hn (F - l.length)
    rw [show l.length + (F - l.length) = F by omega] at h
    exact h
  | i + 1 => by
    have ih := bfs_up hn h1 h2 i
    rw [bfs, ih, bfsL]
    have hg : ((rootO : Option K × List Nat) :: (bfsL step E (st0 l 0) i).map upO)[i + 1]? = ((bfsL step E (st0 l 0) i)[i]?).map upO := by simp
    rw [hg]
    cases hx : (bfsL step E (st0 l 0) i)[i]? with
    | none => rfl
    | some x =>
      have h := row_up2 (step := step) (E := E) (l := l) (List.mem_of_getElem? hx) (F - E)
      rw [show E + (F - E) = F by omega] at h
      exact h
theorem bfsL_form {l : List K} (i : Nat) : ∀ y ∈ bfsL step E (st0 l 0) i, ∃ (s : Nat) (k : K) (u : List Nat), y.2 = s :: u ∧ l[s]? = some k ∧ y.1 = bev step k u ∧ ∀ e ∈ u, e < E := by
  induction i with
  | zero =>
    intro y hy
    obtain ⟨j, hj, rfl⟩ := List.getElem_of_mem hy
    obtain ⟨h1, h2⟩ := st0_get l 0 j _ (List.getElem?_eq_getElem hj)
    exact ⟨j, _, [], by rw [h2]; simp, h1, rfl, fun e he => nomatch he⟩
  | succ i ih =>
    rw [bfsL]
    split
    · rename_i x hx
      have hxm := ih x (List.mem_of_getElem? hx)
      have key : ∀ e, e ≤ E → ∀ y ∈ brow step (fun _ => true) x (bfsL step E (st0 l 0) i) e, ∃ (s : Nat) (k : K) (u : List Nat), y.2 = s :: u ∧ l[s]? = some k ∧ y.1 = bev step k u ∧ ∀ e ∈ u, e < E := by
        intro e
        induction e with
        | zero => exact fun _ => ih
        | succ e ihe =>
          intro he y hy
          rw [brow, bvis] at hy
          split at hy
          · rcases List.mem_append.1 hy with hy | hy
            · exact ihe (by omega) y hy
            · simp only [List.mem_singleton] at hy
              subst hy
              obtain ⟨s, k, u, h1, h2, h3, h4⟩ := hxm
              refine ⟨s, k, u ++ [e], by simp [h1], h2, by rw [bev_snoc, ← h3], fun a ha => ?_⟩
              rcases List.mem_append.1 ha with ha | ha
              · exact h4 a ha
              · simp only [List.mem_singleton] at ha; omega
          · exact ihe (by omega) y hy
      exact key E (Nat.le_refl _)
    · exact ih
theorem bfsL_keys {p : K → Prop} {l : List K} (hp : ∀ k e, p k → e < E → p (step k e)) (h0 : ∀ k ∈ l, p k) (i : Nat) : ∀ y ∈ bfsL step E (st0 l 0) i, p y.1 := by
  intro y hy
  obtain ⟨s, k, u, _, h2, h3, h4⟩ := bfsL_form i y hy
  rw [h3]
  have key : ∀ (w : List Nat) (k : K), p k → (∀ e ∈ w, e < E) → p (w.foldl step k) := by
    intro w
    induction w with
    | nil => intro k hk _; exact hk
    | cons e w ih => intro k hk hw; exact ih _ (hp k e hk (hw e (by simp))) fun e' he' => hw e' (by simp [he'])
  exact key u k (h0 k (List.mem_of_getElem? h2)) h4
theorem bfsL_le {l : List (K × List Nat)} (i : Nat) : ∀ d, ∃ t, bfsL step E l (i + d) = bfsL step E l i ++ t
  | 0 => ⟨[], by simp⟩
  | d + 1 => by
    obtain ⟨t, ht⟩ := bfsL_le i d
    rw [← Nat.add_assoc, bfsL]
    split
    · rename_i x hx
      obtain ⟨u, hu⟩ := brow_pre (step := step) (ok := fun _ => true) x (bfsL step E l (i + d)) E
      exact ⟨t ++ u, by rw [hu, ht, List.append_assoc]⟩
    · exact ⟨t, ht⟩
theorem bfsL_succ {l : List (K × List Nat)} {i : Nat} {x : K × List Nat} (h : (bfsL step E l i)[i]? = some x) : bfsL step E l (i + 1) = brow step (fun _ => true) x (bfsL step E l i) E := by
  rw [bfsL, h]
theorem bfsL_in {l : List (K × List Nat)} {i : Nat} {x : K × List Nat} (h : (bfsL step E l i)[i]? = some x) {e : Nat} (he : e ≤ E) : ∃ t, bfsL step E l (i + 1) = brow step (fun _ => true) x (bfsL step E l i) e ++ t := by
  rw [bfsL_succ h]
  obtain ⟨t, ht⟩ := brow_le (step := step) (ok := fun _ => true) x (bfsL step E l i) e (E - e)
  rw [show e + (E - e) = E by omega] at ht
  exact ⟨t, ht⟩
theorem bfsL_fix {l : List (K × List Nat)} {i : Nat} (h : (bfsL step E l i).length ≤ i) : ∀ d, bfsL step E l (i + d) = bfsL step E l i
  | 0 => rfl
  | d + 1 => by
    have ih := bfsL_fix h d
    have hn : (bfsL step E l (i + d))[i + d]? = none := by rw [ih]; exact List.getElem?_eq_none (by omega)
    rw [← Nat.add_assoc, bfsL, hn]; exact ih
theorem bfsL_small {p : K → Prop} {code : K → Nat} {M : Nat} {l : List K} (hn : l.Nodup) (hp : ∀ k e, p k → e < E → p (step k e)) (h0 : ∀ k ∈ l, p k) (hc : ∀ k, p k → code k < M) (hi : ∀ k k', p k → p k' → code k = code k' → k = k') (i : Nat) : (bfsL step E (st0 l 0) i).length ≤ M := by
  have hup := bfs_up (step := step) (E := E) hn (F := max l.length E) (by omega) (by omega) i
  have h := nodup_le (M := M) (l := (bfsL step E (st0 l 0) i).map fun y => code y.1) ?_ ?_
  · simpa using h
  · have hnd := (bfs_inv (step := stepO step E l) (ok := fun _ => true) (E := max l.length E) (s := none) (i + 1)).nd
    rw [hup, List.map_cons, List.nodup_cons, List.map_map] at hnd
    have h2 := hnd.2
    have hk := bfsL_keys (step := step) (E := E) (l := l) hp h0 i
    refine List.pairwise_map.2 (List.Pairwise.imp_of_mem ?_ (List.pairwise_map.1 h2))
    intro a b ha hb hab hc
    exact hab (congrArg some (hi _ _ (hk a ha) (hk b hb) hc))
  · intro x hx
    obtain ⟨y, hy, rfl⟩ := List.mem_map.1 hx
    exact hc _ (bfsL_keys (step := step) (E := E) (l := l) hp h0 i y hy)
theorem bfsL_plen {l : List K} (hn : l.Nodup) (i j : Nat) (y : K × List Nat) (h : (bfsL step E (st0 l 0) i)[j]? = some y) : y.2.length ≤ j + 1 := by
  have hup := bfs_up (step := step) (E := E) hn (F := max l.length E) (by omega) (by omega) i
  refine bfs_plen (step := stepO step E l) (ok := fun _ => true) (E := max l.length E) (s := none) (i + 1) (j + 1) (upO y) ?_
  rw [hup, List.getElem?_cons_succ, List.getElem?_map, h]; rfl
/-- A word of a start and edges. -/
def MW (E : Nat) (l : List K) (step : K → Nat → K) (done : K → Bool) (w : List Nat) : Prop := ∃ (s : Nat) (k : K) (u : List Nat), w = s :: u ∧ l[s]? = some k ∧ (∀ e ∈ u, e < E) ∧ done (bev step k u) = true
theorem bfsL_srt {l : List K} (hn : l.Nodup) (i : Nat) : (bfsL step E (st0 l 0) i).Pairwise fun a b => slt a.2 b.2 := by
  have hs := (bfs_inv (step := stepO step E l) (ok := fun _ => true) (E := max l.length E) (s := none) (i + 1)).srt
  rw [bfs_up (step := step) (E := E) hn (by omega) (by omega) i, List.pairwise_cons, List.pairwise_map] at hs
  exact hs.2
theorem bfsL_min {l : List K} (hn : l.Nodup) {i : Nat} (hi : (bfsL step E (st0 l 0) i).length ≤ i) {s : Nat} {k : K} {u : List Nat} (hs : l[s]? = some k) (hu : ∀ e ∈ u, e < E) : ∃ y ∈ bfsL step E (st0 l 0) i, y.1 = bev step k u ∧ sle y.2 (s :: u) := by
  have hup := bfs_up (step := step) (E := E) hn (F := max l.length E) (by omega) (by omega) i
  have hsl := (List.getElem?_eq_some_iff.1 hs).1
  obtain ⟨y, hy, h1, h2⟩ := bfs_min (step := stepO step E l) (ok := fun _ => true) (E := max l.length E) (s := none) (i := i + 1) (by rw [hup, List.length_cons, List.length_map]; omega) (s :: u) (by
    intro e he
    rcases List.mem_cons.1 he with rfl | he
    · exact ⟨by omega, rfl⟩
    · exact ⟨by have := hu e he; omega, rfl⟩)
  have h3 : bev (stepO step E l) none (s :: u) = some (bev step k u) := by
    have h4 : bev (stepO step E l) none (s :: u) = bev (stepO step E l) (stepO step E l none s) u := rfl
    have h5 : stepO step E l none s = some k := hs
    rw [h4, h5, bev_up u k hu]
  rw [h3] at h1
  rw [hup] at hy
  rcases List.mem_cons.1 hy with rfl | hy
  · exact absurd h1 (by simp [rootO])
  · obtain ⟨z, hz, rfl⟩ := List.mem_map.1 hy
    exact ⟨z, hz, Option.some.inj h1, h2⟩
/-- The path to the first node that is done. -/
def mP (M : Nat) (step : K → Nat → K) (E : Nat) (l : List K) (done : K → Bool) : Option (List Nat) := ((bfsL step E (st0 l 0) M).find? fun y => done y.1).map (·.2)
theorem mP_some {M i : Nat} {l : List K} {done : K → Bool} {y : K × List Nat} (hi : i ≤ M) (hy : (bfsL step E (st0 l 0) i)[i]? = some y) (ha : done y.1 = true) (hb : ∀ j, j < i → ∀ z, (bfsL step E (st0 l 0) i)[j]? = some z → done z.1 = false) : mP M step E l done = some y.2 := by
  obtain ⟨t, ht⟩ := bfsL_le (step := step) (E := E) (l := st0 l 0) i (M - i)
  rw [show i + (M - i) = M by omega] at ht
  have hl := (List.getElem?_eq_some_iff.1 hy).1
  rw [mP, ht, find_at (p := fun y : K × List Nat => done y.1) (i := i) (x := y) (by rw [List.getElem?_append_left hl]; exact hy) ha fun j hj z hz => hb j hj z (by rwa [List.getElem?_append_left (by omega)] at hz)]
  rfl
theorem mP_none {M i : Nat} {l : List K} {done : K → Bool} (hi : i ≤ M) (hl : (bfsL step E (st0 l 0) i).length ≤ i) (hb : ∀ j, j < i → ∀ z, (bfsL step E (st0 l 0) i)[j]? = some z → done z.1 = false) : mP M step E l done = none := by
  have e : bfsL step E (st0 l 0) M = bfsL step E (st0 l 0) i := by rw [show M = i + (M - i) by omega, bfsL_fix hl]
  rw [mP, e, List.find?_eq_none.2]
  · rfl
  · intro y hy
    obtain ⟨j, hj, rfl⟩ := List.getElem_of_mem hy
    rw [hb j (by omega) _ (List.getElem?_eq_getElem hj)]; decide
/-- It is the least word. -/
theorem mP_least {M : Nat} {l : List K} {done : K → Bool} (hn : l.Nodup) (hM : (bfsL step E (st0 l 0) M).length ≤ M) {w : List Nat} (h : mP M step E l done = some w) : MW E l step done w ∧ ∀ v, MW E l step done v → sle w v := by
  rw [mP, Option.map_eq_some_iff] at h
  obtain ⟨y, hy, rfl⟩ := h
  rw [List.find?_eq_some_iff_getElem] at hy
  obtain ⟨hd, i, hi, hyi, hbefore⟩ := hy
  have hym : y ∈ bfsL step E (st0 l 0) M := by rw [← hyi]; exact List.getElem_mem hi
  refine ⟨?_, ?_⟩
  · obtain ⟨s, k, u, h1, h2, h3, h4⟩ := bfsL_form M y hym
    exact ⟨s, k, u, h1, h2, h4, by rw [← h3]; exact hd⟩
  · rintro v ⟨s, k, u, rfl, h2, h4, h5⟩
    obtain ⟨z, hz, h6, h7⟩ := bfsL_min (step := step) (E := E) hn hM h2 h4
    obtain ⟨j, hj, hzj⟩ := List.getElem_of_mem hz
    refine sle_trans ?_ h7
    rcases Nat.lt_trichotomy j i with hji | rfl | hji
    · have := hbefore j hji
      rw [hzj, h6, h5] at this; exact absurd this (by decide)
    · rw [hyi] at hzj; rw [hzj]; exact sle_refl _
    · have := List.pairwise_iff_getElem.1 (bfsL_srt (step := step) (E := E) hn M) i j hi hj hji
      rw [hyi, hzj] at this
      exact .inl this
theorem mP_no {M : Nat} {l : List K} {done : K → Bool} (hn : l.Nodup) (hM : (bfsL step E (st0 l 0) M).length ≤ M) (h : mP M step E l done = none) : ∀ v, ¬ MW E l step done v := by
  rintro v ⟨s, k, u, rfl, h2, h4, h5⟩
  rw [mP, Option.map_eq_none_iff, List.find?_eq_none] at h
  obtain ⟨z, hz, h6, _⟩ := bfsL_min (step := step) (E := E) hn hM h2 h4
  exact h z hz (by rw [h6]; exact h5)
/-- One start. -/
theorem bfsL_one (s : K) : ∀ i, bfsL step E (st0 [s] 0) i = (bfs step (fun _ => true) E s i).map fun y => (y.1, 0 :: y.2)
  | 0 => rfl
  | i + 1 => by
    have ih := bfsL_one s i
    have hrow : ∀ (x : K × List Nat) (q : List (K × List Nat)) e, brow step (fun _ => true) (x.1, 0 :: x.2) (q.map fun y => (y.1, 0 :: y.2)) e = (brow step (fun _ => true) x q e).map fun y => (y.1, 0 :: y.2) := by
      intro x q e
      induction e with
      | zero => rfl
      | succ e ihe =>
        rw [brow, ihe, brow]
        have hm : ((brow step (fun _ => true) x q e).map fun y => (y.1, 0 :: y.2)).map (·.1) = (brow step (fun _ => true) x q e).map (·.1) := by rw [List.map_map]; rfl
        unfold bvis
        rw [hm]
        split
        · rw [List.map_append]; rfl
        · rfl
    rw [bfsL, ih, bfs, List.getElem?_map]
    cases hx : (bfs step (fun _ => true) E s i)[i]? with
    | none => rfl
    | some x => exact hrow x _ E
end
theorem rtP_mP (M : Nat) (es : List Int) (m : Nat) (xs : List Int) (n : Nat) (s : RK) : mP M (kstep es m xs n) m [s] (fun k => allD k.2 n) = (rtP M es m xs n s).map fun p => 0 :: p := by
  rw [mP, bfsL_one, List.find?_map, rtP, rQ, Option.map_map, Option.map_map]
  rfl

end Go.Proofs.Ytekikmdjldincaa
/- Groups of slices of int; the laws' own functions on [][]int. -/
set_option linter.unusedSimpArgs false
set_option linter.unusedVariables false
namespace Go.Proofs.Ytekikmdjldincaa
open Go Go.RowKit
/-- A group of slices of int, with their numbers. -/
def gl (ps : List (Value × List Int)) : List (Value × Nat × List Value) := ps.map fun p => (p.1, p.2.length, ints p.2)
/-- The outer slice's cells. -/
def oc (ps : List (Value × List Int)) : List Value := ps.map (·.1)
@[simp] theorem oc_length (ps : List (Value × List Int)) : (oc ps).length = ps.length := by simp [oc]
theorem Weak.grpSnoc {H : List Res} {e : TypeId} {size : Nat} {v : Value} {l : List Int} {ps : List (Value × List Int)} : Weak (.own v e size l.length (ints l) :: .grp e size (gl ps) :: H) (.grp e size (gl (ps ++ [(v, l)])) :: H) :=
  Weak.grpIn.trans (Weak.grpPerm (by unfold gl; rw [List.map_append]; exact (List.perm_append_singleton _ _).symm))
theorem Weak.grpTake {H : List Res} {e : TypeId} {size : Nat} {p : Value × List Int} {A B : List (Value × List Int)} : Weak (.grp e size (gl (A ++ p :: B)) :: H) (.own p.1 e size p.2.length (ints p.2) :: .grp e size (gl (A ++ B)) :: H) :=
  (Weak.grpPerm (l' := gl (p :: (A ++ B))) (List.perm_middle.map _)).trans Weak.grpOut
theorem Weak.grpPut {H : List Res} {e : TypeId} {size : Nat} {p : Value × List Int} {A B : List (Value × List Int)} : Weak (.own p.1 e size p.2.length (ints p.2) :: .grp e size (gl (A ++ B)) :: H) (.grp e size (gl (A ++ p :: B)) :: H) :=
  Weak.grpIn.trans (Weak.grpPerm (l := gl (p :: (A ++ B))) (List.perm_middle.map _).symm)
theorem St.slGrp {M : Nat → Prop} {w0 w : World} {H : List Res} {e : TypeId} {size : Nat} {ps : List (Value × List Int)} (hs : St M w0 w H) (hm : Res.grp e size (gl ps) ∈ H) {p : Value × List Int} (hp : p ∈ ps) : Sl w p.1 size p.2.length (ints p.2) := by
  obtain ⟨A, B, rfl⟩ := List.append_of_mem hp
  obtain ⟨H1, H2, rfl⟩ := List.append_of_mem hm
  have h1 := hs.perm (List.perm_middle (a := Res.grp e size (gl (A ++ p :: B))) (l₁ := H1) (l₂ := H2))
  exact (Weak.grpTake _ _ _ h1).slOwn (.head _)

end Go.Proofs.Ytekikmdjldincaa
