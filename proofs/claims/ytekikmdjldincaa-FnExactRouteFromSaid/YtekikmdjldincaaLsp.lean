/- Walks: the search for a route, of the program. -/
import Derived.Test.YtekikmdjldincaaLso
import Derived.Test.YtekikmdjldincaaGq
import Derived.Test.YtekikmdjldincaaProg
set_option linter.unusedSimpArgs false
set_option linter.unusedVariables false
namespace Go.Proofs.Ytekikmdjldincaa
open Go Go.RowKit
namespace LspT
theorem Tagg_35 : aggOf Try.prog 35 = some 2 := by kernel_rfl
theorem Tagg_39 : aggOf Try.prog 39 = some 2 := by kernel_rfl
theorem Tagg_48 : aggOf Try.prog 48 = some 2 := by kernel_rfl
theorem Tagg_77 : aggOf Try.prog 77 = some 2 := by kernel_rfl
theorem Tagg_90 : aggOf Try.prog 90 = some 7 := by kernel_rfl
theorem Tcall_44 : callable Try.prog 44 = true := by kernel_rfl
theorem Tcall_49 : callable Try.prog 49 = true := by kernel_rfl
theorem Tcall_50 : callable Try.prog 50 = true := by kernel_rfl
theorem Tcall_51 : callable Try.prog 51 = true := by kernel_rfl
theorem Tcall_52 : callable Try.prog 52 = true := by kernel_rfl
theorem Tcall_53 : callable Try.prog 53 = true := by kernel_rfl
theorem Tcall_54 : callable Try.prog 54 = true := by kernel_rfl
theorem Tcall_55 : callable Try.prog 55 = true := by kernel_rfl
theorem Tfo_35_1 : fieldOff Try.prog 35 1 = some 1 := by kernel_rfl
theorem Tfo_39_0 : fieldOff Try.prog 39 0 = some 0 := by kernel_rfl
theorem Tfo_87_3 : fieldOff Try.prog 87 3 = some 5 := by kernel_rfl
theorem Tfo_90_0 : fieldOff Try.prog 90 0 = some 0 := by kernel_rfl
theorem Tfo_90_1 : fieldOff Try.prog 90 1 = some 6 := by kernel_rfl
theorem Tmapof_96 : mapOfT Try.prog 96 = some (94, 4) := by kernel_rfl
theorem Tone_3 : oneOf Try.prog 3 = true := by kernel_rfl
theorem Tone_33 : oneOf Try.prog 33 = true := by kernel_rfl
theorem Tone_46 : oneOf Try.prog 46 = true := by kernel_rfl
theorem Tone_85 : oneOf Try.prog 85 = true := by kernel_rfl
theorem Tsize_48 : (Try.prog.info? 48).map (·.size) = some 2 := by kernel_rfl
theorem Tsize_77 : (Try.prog.info? 77).map (·.size) = some 2 := by kernel_rfl
theorem Tsize_90 : (Try.prog.info? 90).map (·.size) = some 7 := by kernel_rfl
theorem Tsl_33 : sliceOf Try.prog 33 = some (77, 2, 16, [.int .i64 0, .int .i64 0]) := by kernel_rfl
theorem Tsl_97 : sliceOf Try.prog 97 = some (90, 7, 136, [.int .i64 0, .slice none 0 0, .int .i64 0, .slice none 0 0, .slice none 0 0, .slice none 0 0, .slice none 0 0]) := by kernel_rfl
theorem Tzero_48 : zeroOf Try.prog 48 = some [.slice none 0 0, .slice none 0 0] := by kernel_rfl
theorem Tzero_77 : zeroOf Try.prog 77 = some [.int .i64 0, .int .i64 0] := by kernel_rfl
theorem Tzero_90 : zeroOf Try.prog 90 = some [.int .i64 0, .slice none 0 0, .int .i64 0, .slice none 0 0, .slice none 0 0, .slice none 0 0, .slice none 0 0] := by kernel_rfl
end LspT
open LspT

def rkq (q : List (RK × List Nat)) (n : Nat) : List Value := q.map fun y => keyP y.1.1 y.1.2 n
theorem rkq_can {N Q : Int} {xs : List Int} {pn n : Nat} (h5 : N ≤ 5) (h40 : n ≤ 40) {q : List (RK × List Nat)} (h : ∀ y ∈ q, KOk N Q pn n xs y.1) : ∀ u ∈ rkq q n, Keyable Try.prog 94 u := by
  intro u hu
  obtain ⟨y, hy, rfl⟩ := List.mem_map.1 hu
  exact keyP_can (h y hy).pl h40 (pl_range h5 (h y hy).po)
theorem rkq_mem {N Q : Int} {xs : List Int} {pn n : Nat} (h5 : pn ≤ 5) {q : List (RK × List Nat)} (h : ∀ y ∈ q, KOk N Q pn n xs y.1) {k : RK} (hk : KOk N Q pn n xs k) : keyP k.1 k.2 n ∈ rkq q n ↔ k ∈ q.map (·.1) := by
  constructor
  · intro hm
    obtain ⟨y, hy, he⟩ := List.mem_map.1 hm
    obtain ⟨e1, e2⟩ := keyP_inj (h y hy).pl hk.pl h5 (h y hy).dl hk.dl he
    exact List.mem_map.2 ⟨y, hy, Prod.ext e1 e2⟩
  · intro hm
    obtain ⟨y, hy, rfl⟩ := List.mem_map.1 hm
    exact List.mem_map.2 ⟨y, hy, rfl⟩
section
variable {K : Type} [DecidableEq K] {step : K → Nat → K} {ok : Nat → Bool} {E : Nat} {s : K}
theorem bfs_succ {i : Nat} {x : K × List Nat} (h : (bfs step ok E s i)[i]? = some x) : bfs step ok E s (i + 1) = brow step ok x (bfs step ok E s i) E := by
  rw [bfs, h]
theorem brow_le (x : K × List Nat) (q : List (K × List Nat)) (e : Nat) : ∀ d, ∃ t, brow step ok x q (e + d) = brow step ok x q e ++ t
  | 0 => ⟨[], by simp⟩
  | d + 1 => by
    obtain ⟨t, ht⟩ := brow_le x q e d
    obtain ⟨u, hu⟩ := bvis_pre (step := step) (ok := ok) x (brow step ok x q (e + d)) (e + d)
    exact ⟨t ++ u, by rw [← Nat.add_assoc, brow, hu, ht, List.append_assoc]⟩
theorem brow_in {i : Nat} {x : K × List Nat} (h : (bfs step ok E s i)[i]? = some x) {e : Nat} (he : e ≤ E) : ∃ t, bfs step ok E s (i + 1) = brow step ok x (bfs step ok E s i) e ++ t := by
  rw [bfs_succ h]
  obtain ⟨t, ht⟩ := brow_le (step := step) (ok := ok) x (bfs step ok E s i) e (E - e)
  rw [show e + (E - e) = E by omega] at ht
  exact ⟨t, ht⟩
/-- A path is not longer than its place. -/
theorem bfs_plen (i : Nat) : ∀ (j : Nat) (y : K × List Nat), (bfs step ok E s i)[j]? = some y → y.2.length ≤ j := by
  have h := bfs_inv (step := step) (ok := ok) (E := E) (s := s) i
  intro j
  induction j using Nat.strongRecOn with
  | _ j ih =>
    intro y hy
    rcases h.form y (List.mem_of_getElem? hy) with h1 | ⟨m, e', z, hz, h1, _⟩
    · rw [h1]; simp
    · have hlt : m < j := by
        refine Nat.lt_of_not_le fun hle => ?_
        have hlt2 : slt z.2 y.2 := by rw [h1]; exact .inl (by simp)
        rcases Nat.lt_or_eq_of_le hle with h2 | h2
        · exact slt_irrefl _ (slt_trans hlt2 (pw_get (R := fun a b : K × List Nat => slt a.2 b.2) h.srt h2 hy hz))
        · subst h2; rw [hy] at hz; cases hz; exact slt_irrefl _ hlt2
      have := ih m hlt z hz
      rw [h1]; simp; omega
end
def rtS (M : Nat) (N : Int) (es : List Int) (m : Nat) (Q : Int) (xs : List Int) (n : Nat) (ps : List Int) (pn : Nat) : List Int := if rtB M N es m Q xs n ps pn then ps else []
theorem rt_no {M : Nat} {N Q : Int} {es xs ps : List Int} {m n pn : Nat} (h : rtO N es m Q xs n ps pn = false ∨ rtP M es m xs n (rS es m xs n ps) = none) : rtB M N es m Q xs n ps pn = false ∧ rtS M N es m Q xs n ps pn = [] ∧ rtL M N es m Q xs n ps pn = [] := by
  have hb : rtB M N es m Q xs n ps pn = false := by
    rcases h with h | h <;> simp [rtB, h]
  refine ⟨hb, by rw [rtS, hb]; rfl, ?_⟩
  rcases h with h | h
  · simp [rtL, h]
  · rw [rtL]; split
    · rw [h]
    · rfl
theorem rt_yes {M : Nat} {N Q : Int} {es xs ps : List Int} {m n pn : Nat} {p : List Nat} (ho : rtO N es m Q xs n ps pn = true) (h : rtP M es m xs n (rS es m xs n ps) = some p) : rtB M N es m Q xs n ps pn = true ∧ rtS M N es m Q xs n ps pn = ps ∧ rtL M N es m Q xs n ps pn = stp es m xs n (rS es m xs n ps) (rL es m xs n ps) p := by
  have hb : rtB M N es m Q xs n ps pn = true := by simp [rtB, ho, h]
  exact ⟨hb, by rw [rtS, hb]; rfl, by rw [rtL, if_pos ho, h]⟩

set_option maxHeartbeats 4000000 in
set_option maxRecDepth 20000 in
theorem leastRoute_spec {M : Nat} {N Q : Int} {vg vc vp : Value} {m n pn : Nat} {es xs ps : List Int} {w : World} (hM : 12800000 < M) (hg : Sl w vg 2 m (ints es)) (hc : Sl w vc 3 n (ints xs)) (hp : Sl w vp 1 pn (ints ps)) : Calls Try.prog 30 #[.agg #[.int .i64 N, vg], .agg #[.int .i64 Q, vc], vp] w (Post No w fun v H => ∃ v1 v2, v = .tuple #[.agg #[v1, v2], .bool (rtB M N es m Q xs n ps pn)] ∧ H = [.own v1 3 1 (rtS M N es m Q xs n ps pn).length (ints (rtS M N es m Q xs n ps pn)), .own v2 101 3 (rtL M N es m Q xs n ps pn).length (ints (fl3 (rtL M N es m Q xs n ps pn)))]) := by
  have hpl : ps.length = pn := by have := hp.len; omega
  have hel := hg.len
  have hml := hg.le
  obtain ⟨Ag, cg, rfl, _, _⟩ := hg.form0
  obtain ⟨Ac, cc, rfl, _, _⟩ := hc.form0
  obtain ⟨Av, cv, rfl, _, _⟩ := hp.form0
  refine enter (n := 85) (args := [.agg #[.int .i64 N, .slice Ag m cg], .agg #[.int .i64 Q, .slice Ac n cc], .slice Av pn cv]) Try.func30 rfl rfl (St.empty _ _) ?_
  refine Run.seq ?_
  refine Run.region ?_
  refine Run.step rfl (OpStep.box (us := [.int .i64 N, .slice Ag m cg]) rfl fun b1 => ?_)
  refine Run.step rfl (OpStep.box (us := [.int .i64 Q, .slice Ac n cc]) rfl fun b2 => ?_)
  refine Run.step rfl (OpStep.alloc (zs := [.slice none 0 0, .slice none 0 0]) Tzero_48 fun b3 => ?_)
  refine Run.q (v := .bool false) rfl (OpQ.y (OpY.pure rfl)) ?_
  refine Run.done ?_
  refine Run.seq ?_
  refine Run.seq ?_
  refine Run.region ?_
  refine Run.q (v := .agg #[.int .i64 N, .slice Ag m cg]) rfl (OpQ.y (OpY.loadN (cs := [.int .i64 N, .slice Ag m cg]) Tagg_35 rfl (Cells.blk (.tail _ (.tail _ (List.Mem.head _))) ⟨rfl, rfl, trivial⟩))) ?_
  refine Run.q (v := .agg #[.int .i64 Q, .slice Ac n cc]) rfl (OpQ.y (OpY.loadN (cs := [.int .i64 Q, .slice Ac n cc]) Tagg_39 rfl (Cells.blk (.tail _ (List.Mem.head _)) ⟨rfl, rfl, trivial⟩))) ?_
  refine Run.q (v := .bool (smB N es m Q xs n)) rfl (OpQ.call (vs := [.agg #[.int .i64 N, .slice Ag m cg], .agg #[.int .i64 Q, .slice Ac n cc]]) (caps := []) Tcall_44 rfl rfl (fun w hs => canSearch_spec (hs.sl hg) (hs.sl hc))) ?_
  refine Run.q (v := .bool (!(smB N es m Q xs n))) rfl (OpQ.y (OpY.pure rfl)) ?_
  rcases Bool.eq_false_or_eq_true (!(smB N es m Q xs n)) with h20 | h20
  · refine Run.q (v := .bool true) rfl (OpQ.y (OpY.moveB rfl h20)) ?_
    have p20 := h20; try simp only [bs] at p20
    have hno := rt_no (M := M) (N := N) (es := es) (m := m) (Q := Q) (xs := xs) (n := n) (ps := ps) (pn := pn) (.inl (by rw [rtO, show smB N es m Q xs n = false by simpa using p20]; rfl))
    refine Run.pass rfl ?_
    refine Run.pass rfl ?_
    refine Run.pass rfl ?_
    refine Run.pass rfl ?_
    refine Run.pass rfl ?_
    refine Run.pass rfl ?_
    refine Run.q (v := .bool true) rfl (OpQ.y (OpY.pure rfl)) ?_
    refine Run.done ?_
    refine Run.cond (b := true) rfl (fun _ => ?_) (fun h => nomatch h)
    refine Run.seq ?_
    refine Run.region ?_
    refine Run.q (v := .agg #[.slice none 0 0, .slice none 0 0]) rfl (OpQ.y (OpY.build (cs := [.slice none 0 0, .slice none 0 0]) (by kernel_rfl))) ?_
    refine Run.step rfl (OpStep.storeAll (us := [.slice none 0 0, .slice none 0 0]) Tsize_48 rfl rfl rfl (.here _) rfl ?_)
    refine Run.q (v := .bool false) rfl (OpQ.y (OpY.pure rfl)) ?_
    refine Run.done ?_
    refine Run.ret ?_
    refine ⟨.tuple #[.agg #[.slice none 0 0, .slice none 0 0], .bool false], [.own (.slice none 0 0) 3 1 0 ([]), .own (.slice none 0 0) 101 3 0 ([])], Out.cell2 (cs := [.slice none 0 0, .slice none 0 0]) rfl Tagg_48 rfl (Cells.blk (.head _) ⟨rfl, rfl, trivial⟩) rfl, ((Weak.nilOwn 101 3).trans ((Weak.nilOwn 3 1).trans (Some'.weak (.take (.take (.nil _)))))), ?_⟩
    exact ⟨_, _, by rw [hno.1], by rw [hno.2.1, hno.2.2]; rfl⟩
  · refine Run.q (v := .bool false) rfl (OpQ.y (OpY.moveB rfl h20)) ?_
    have p20 := h20; try simp only [bs] at p20
    have hsm : smB N es m Q xs n = true := by simpa using p20
    have hcN0 : 1 ≤ N ∧ N ≤ 8 := by
      simp only [smB, fitOk, Bool.and_eq_true] at hsm
      exact cgOk_N hsm.1.1.1.1.1
    refine Run.q (v := .agg #[.int .i64 N, .slice Ag m cg]) rfl (OpQ.y (OpY.loadN (cs := [.int .i64 N, .slice Ag m cg]) Tagg_35 rfl (Cells.blk (.tail _ (.tail _ (List.Mem.head _))) ⟨rfl, rfl, trivial⟩))) ?_
    refine Run.q (v := .pointer (some ⟨b2, 0, none⟩)) rfl (OpQ.y (OpY.fieldAddr Tfo_39_0 rfl rfl)) ?_
    refine Run.q (v := .int .i64 Q) rfl (OpQ.y (OpY.load1 Tone_3 rfl (Cells.blk (.tail _ (List.Mem.head _)) ⟨rfl, trivial⟩))) ?_
    refine Run.q (v := .slice Av pn cv) rfl (OpQ.y (OpY.pure rfl)) ?_
    refine Run.q (v := .bool (plOk N Q ps pn)) rfl (OpQ.call (vs := [.agg #[.int .i64 N, .slice Ag m cg], .int .i64 Q, .slice Av pn cv]) (caps := []) Tcall_49 rfl rfl (fun w hs => isPlacement_spec hcN0 (hs.sl hp))) ?_
    refine Run.q (v := .bool (!(plOk N Q ps pn))) rfl (OpQ.y (OpY.pure rfl)) ?_
    refine Run.q (v := .bool (!(plOk N Q ps pn))) rfl (OpQ.y (OpY.pure rfl)) ?_
    refine Run.done ?_
    refine Run.cond (b := !(plOk N Q ps pn)) rfl (fun h27 => ?_) (fun h27 => ?_)
    · have p27 := h27; try simp only [bs] at p27
      have hno := rt_no (M := M) (N := N) (es := es) (m := m) (Q := Q) (xs := xs) (n := n) (ps := ps) (pn := pn) (.inl (by rw [rtO, show plOk N Q ps pn = false by simpa using p27, Bool.and_false]))
      refine Run.seq ?_
      refine Run.region ?_
      refine Run.q (v := .agg #[.slice none 0 0, .slice none 0 0]) rfl (OpQ.y (OpY.build (cs := [.slice none 0 0, .slice none 0 0]) (by kernel_rfl))) ?_
      refine Run.step rfl (OpStep.storeAll (us := [.slice none 0 0, .slice none 0 0]) Tsize_48 rfl rfl rfl (.here _) rfl ?_)
      refine Run.q (v := .bool false) rfl (OpQ.y (OpY.pure rfl)) ?_
      refine Run.done ?_
      refine Run.ret ?_
      refine ⟨.tuple #[.agg #[.slice none 0 0, .slice none 0 0], .bool false], [.own (.slice none 0 0) 3 1 0 ([]), .own (.slice none 0 0) 101 3 0 ([])], Out.cell2 (cs := [.slice none 0 0, .slice none 0 0]) rfl Tagg_48 rfl (Cells.blk (.head _) ⟨rfl, rfl, trivial⟩) rfl, ((Weak.nilOwn 101 3).trans ((Weak.nilOwn 3 1).trans (Some'.weak (.take (.take (.nil _)))))), ?_⟩
      exact ⟨_, _, by rw [hno.1], by rw [hno.2.1, hno.2.2]; rfl⟩
    · have p27 := h27; try simp only [bs] at p27
      have hO : rtO N es m Q xs n ps pn = true := by
        have h : plOk N Q ps pn = true := by simpa using p27
        rw [rtO, hsm, h]; rfl
      have hF := rtF_of hO
      have hn40 := hF.hn
      have hpn5 := hF.hpn
      have hin0 : HIN n pn xs ps := hin_of hF.hci hF.hpl
      have hdl0 : (List.replicate n false).length = n := List.length_replicate
      obtain ⟨D0, hD0⟩ : ∃ d, (advS (goB es m xs ps) n (List.replicate n false) []).1 = d := ⟨_, rfl⟩
      obtain ⟨L0, hL0⟩ : ∃ d, (advS (goB es m xs ps) n (List.replicate n false) []).2 = d := ⟨_, rfl⟩
      have hS0 : rS es m xs n ps = (ps, D0) := by rw [rS, hD0]
      have hLL0 : rL es m xs n ps = L0 := hL0
      have hK0 : KOk N Q pn n xs (ps, D0) := by have h := rS_ok hF hpl; rwa [hS0] at h
      have hL0l : L0.length + und D0 = und (List.replicate n false) := by
        have h := advS_len (es := es) (m := m) (xs := xs) (ps := ps) (n := n) _ (List.replicate n false) [] rfl hdl0
        rw [hD0, hL0] at h; simpa using h
      have hu40 : und (List.replicate n false) ≤ 40 := by
        refine Nat.le_trans (List.count_le_length) ?_
        rw [hdl0]; exact hn40
      refine Run.skip ?_
      refine Run.seq ?_
      refine Run.region ?_
      refine Run.q (v := .agg #[.int .i64 N, .slice Ag m cg]) rfl (OpQ.y (OpY.loadN (cs := [.int .i64 N, .slice Ag m cg]) Tagg_35 rfl (Cells.blk (.tail _ (.tail _ (List.Mem.head _))) ⟨rfl, rfl, trivial⟩))) ?_
      refine Run.q (v := .agg #[.int .i64 Q, .slice Ac n cc]) rfl (OpQ.y (OpY.loadN (cs := [.int .i64 Q, .slice Ac n cc]) Tagg_39 rfl (Cells.blk (.tail _ (List.Mem.head _)) ⟨rfl, rfl, trivial⟩))) ?_
      refine Run.q (v := .slice Av pn cv) rfl (OpQ.y (OpY.pure rfl)) ?_
      refine Run.step rfl (OpStep.call (vs := [.agg #[.int .i64 N, .slice Ag m cg], .agg #[.int .i64 Q, .slice Ac n cc], .slice Av pn cv]) (caps := []) Tcall_50 rfl rfl (fun w hs => newRouting_spec (by omega) (by omega) (by omega) (hs.sl hg) (hs.sl hc) (hs.sl hp)) ?_)
      rintro _ _ ⟨up0, ud0, rfl, rfl⟩
      show Run _ _ (putF _ _ _ (.agg #[.int .i64 N, .slice Ag m cg, .int .i64 Q, .slice Ac n cc, up0, ud0])) [.own up0 3 1 pn (ints ps), .own ud0 4 1 n ((List.replicate n ([.bool false] : List Value)).flatten), .blk b3 48 [.slice none 0 0, .slice none 0 0], .blk b2 39 [.int .i64 Q, .slice Ac n cc], .blk b1 35 [.int .i64 N, .slice Ag m cg]]
      refine Run.formOwn (.head _) (fun A_up01 c_up01 hv hcapc_up01 hmaxc_up01 => ?_) (fun _ _ _ => ⟨nofun, nofun, nofun⟩)
      subst hv
      refine Run.formOwn (.tail _ (List.Mem.head _)) (fun A_ud01 c_ud01 hv hcapc_ud01 hmaxc_ud01 => ?_) (fun _ _ _ => ⟨nofun, nofun, nofun⟩)
      subst hv
      refine Run.q (v := .agg #[.int .i64 N, .slice Ag m cg, .int .i64 Q, .slice Ac n cc, .slice A_up01 pn c_up01, .slice A_ud01 n c_ud01, .slice none 0 0]) rfl (OpQ.y (OpY.build (cs := [.int .i64 N, .slice Ag m cg, .int .i64 Q, .slice Ac n cc, .slice A_up01 pn c_up01, .slice A_ud01 n c_ud01, .slice none 0 0]) (by kernel_rfl))) ?_
      refine Run.step rfl (OpStep.alloc (zs := [.int .i64 0, .slice none 0 0, .int .i64 0, .slice none 0 0, .slice none 0 0, .slice none 0 0, .slice none 0 0]) Tzero_90 fun b4 => ?_)
      refine Run.step rfl (OpStep.storeAll (us := [.int .i64 N, .slice Ag m cg, .int .i64 Q, .slice Ac n cc, .slice A_up01 pn c_up01, .slice A_ud01 n c_ud01, .slice none 0 0]) Tsize_90 rfl rfl rfl (.here _) rfl ?_)
      refine Run.done ?_
      rw [bls_rep]
      show Run _ _ _ [.blk b4 90 [.int .i64 N, .slice Ag m cg, .int .i64 Q, .slice Ac n cc, .slice A_up01 pn c_up01, .slice A_ud01 n c_ud01, .slice none 0 0], .own (.slice A_up01 pn c_up01) 3 1 pn (ints ps), .own (.slice A_ud01 n c_ud01) 4 1 n (bls (List.replicate n false)), .blk b3 48 [.slice none 0 0, .slice none 0 0], .blk b2 39 [.int .i64 Q, .slice Ac n cc], .blk b1 35 [.int .i64 N, .slice Ag m cg]]
      refine Run.seq ?_
      refine Run.weak (H' := [.own (.slice none 0 0) 101 3 0 (ints (fl3 [])), .blk b4 90 [.int .i64 N, .slice Ag m cg, .int .i64 Q, .slice Ac n cc, .slice A_up01 pn c_up01, .slice A_ud01 n c_ud01, .slice none 0 0], .own (.slice A_up01 pn c_up01) 3 1 pn (ints ps), .own (.slice A_ud01 n c_ud01) 4 1 n (bls (List.replicate n false)), .blk b3 48 [.slice none 0 0, .slice none 0 0], .blk b2 39 [.int .i64 Q, .slice Ac n cc], .blk b1 35 [.int .i64 N, .slice Ag m cg]]) (Weak.nilOwn _ _) ?_ ⟨_, _, rfl, fun _ => nofun, fun _ => nofun⟩
      refine Run.region ?_
      refine Run.step rfl (OpStep.callM (H1 := [.blk b4 90 [.int .i64 N, .slice Ag m cg, .int .i64 Q, .slice Ac n cc, .slice A_up01 pn c_up01, .slice A_ud01 n c_ud01, .slice none 0 0], .own (.slice A_ud01 n c_ud01) 4 1 n (bls (List.replicate n false)), .own (.slice none 0 0) 101 3 0 (ints (fl3 []))]) (H2 := [.own (.slice A_up01 pn c_up01) 3 1 pn (ints ps), .blk b3 48 [.slice none 0 0, .slice none 0 0], .blk b2 39 [.int .i64 Q, .slice Ac n cc], .blk b1 35 [.int .i64 N, .slice Ag m cg]]) (vs := [.pointer (some ⟨b4, 0, none⟩)]) (caps := []) Tcall_51 rfl rfl (Weak.selF [1, 2, 0]) (fun w hs => advance_spec (L0 := []) (by omega) hdl0 hF.he hin0 (by show 0 ≤ _; omega) (Ap.arg hg hs) (Ap.arg hc hs) (Ap.own (.head _) hs) (hs.sub (List.sublist_append_left _ _)).self) ?_)
      rintro _ _ ⟨vd2, vs2, rfl, rfl⟩
      show Run _ _ (putF _ _ _ (.tuple #[])) [.blk b4 90 [.int .i64 N, .slice Ag m cg, .int .i64 Q, .slice Ac n cc, .slice A_up01 pn c_up01, vd2, vs2], .own vd2 4 1 n (bls (advS (goB es m xs ps) n (List.replicate n false) []).1), .own vs2 101 3 ((advS (goB es m xs ps) n (List.replicate n false) []).2.length) (ints (fl3 (advS (goB es m xs ps) n (List.replicate n false) []).2)), .own (.slice A_up01 pn c_up01) 3 1 pn (ints ps), .blk b3 48 [.slice none 0 0, .slice none 0 0], .blk b2 39 [.int .i64 Q, .slice Ac n cc], .blk b1 35 [.int .i64 N, .slice Ag m cg]]
      refine Run.done ?_
      rw [hD0, hL0]
      show Run _ _ _ [.blk b4 90 [.int .i64 N, .slice Ag m cg, .int .i64 Q, .slice Ac n cc, .slice A_up01 pn c_up01, vd2, vs2], .own vd2 4 1 n (bls D0), .own vs2 101 3 (L0.length) (ints (fl3 L0)), .own (.slice A_up01 pn c_up01) 3 1 pn (ints ps), .blk b3 48 [.slice none 0 0, .slice none 0 0], .blk b2 39 [.int .i64 Q, .slice Ac n cc], .blk b1 35 [.int .i64 N, .slice Ag m cg]]
      refine Run.weak (H' := [.grp 101 3 ([]), .blk b4 90 [.int .i64 N, .slice Ag m cg, .int .i64 Q, .slice Ac n cc, .slice A_up01 pn c_up01, vd2, vs2], .own vd2 4 1 n (bls D0), .own vs2 101 3 (L0.length) (ints (fl3 L0)), .own (.slice A_up01 pn c_up01) 3 1 pn (ints ps), .blk b3 48 [.slice none 0 0, .slice none 0 0], .blk b2 39 [.int .i64 Q, .slice Ac n cc], .blk b1 35 [.int .i64 N, .slice Ag m cg]]) (Weak.grpNil _ _) ?_ ⟨_, _, rfl, fun _ => nofun, fun _ => nofun⟩
      refine Run.weak (H' := [.grp 4 1 ([]), .grp 101 3 ([]), .blk b4 90 [.int .i64 N, .slice Ag m cg, .int .i64 Q, .slice Ac n cc, .slice A_up01 pn c_up01, vd2, vs2], .own vd2 4 1 n (bls D0), .own vs2 101 3 (L0.length) (ints (fl3 L0)), .own (.slice A_up01 pn c_up01) 3 1 pn (ints ps), .blk b3 48 [.slice none 0 0, .slice none 0 0], .blk b2 39 [.int .i64 Q, .slice Ac n cc], .blk b1 35 [.int .i64 N, .slice Ag m cg]]) (Weak.grpNil _ _) ?_ ⟨_, _, rfl, fun _ => nofun, fun _ => nofun⟩
      refine Run.weak (H' := [.grp 3 1 ([]), .grp 4 1 ([]), .grp 101 3 ([]), .blk b4 90 [.int .i64 N, .slice Ag m cg, .int .i64 Q, .slice Ac n cc, .slice A_up01 pn c_up01, vd2, vs2], .own vd2 4 1 n (bls D0), .own vs2 101 3 (L0.length) (ints (fl3 L0)), .own (.slice A_up01 pn c_up01) 3 1 pn (ints ps), .blk b3 48 [.slice none 0 0, .slice none 0 0], .blk b2 39 [.int .i64 Q, .slice Ac n cc], .blk b1 35 [.int .i64 N, .slice Ag m cg]]) (Weak.grpNil _ _) ?_ ⟨_, _, rfl, fun _ => nofun, fun _ => nofun⟩
      refine Run.weak (H' := [.grp 3 1 (pgp pn [((.slice A_up01 pn c_up01 : Value), vd2, vs2, ((ps, D0) : RK), ([] : List Nat))]), .grp 4 1 ([]), .grp 101 3 ([]), .blk b4 90 [.int .i64 N, .slice Ag m cg, .int .i64 Q, .slice Ac n cc, .slice A_up01 pn c_up01, vd2, vs2], .own vd2 4 1 n (bls D0), .own vs2 101 3 (L0.length) (ints (fl3 L0)), .blk b3 48 [.slice none 0 0, .slice none 0 0], .blk b2 39 [.int .i64 Q, .slice Ac n cc], .blk b1 35 [.int .i64 N, .slice Ag m cg]]) ((Weak.selF [6, 0]).trans (Weak.pgSnoc (zs := []) (z := ((.slice A_up01 pn c_up01 : Value), vd2, vs2, ((ps, D0) : RK), ([] : List Nat))))) ?_ ⟨_, _, rfl, fun _ => nofun, fun _ => nofun⟩
      refine Run.weak (H' := [.grp 4 1 (dgp n [((.slice A_up01 pn c_up01 : Value), vd2, vs2, ((ps, D0) : RK), ([] : List Nat))]), .grp 3 1 (pgp pn [((.slice A_up01 pn c_up01 : Value), vd2, vs2, ((ps, D0) : RK), ([] : List Nat))]), .grp 101 3 ([]), .blk b4 90 [.int .i64 N, .slice Ag m cg, .int .i64 Q, .slice Ac n cc, .slice A_up01 pn c_up01, vd2, vs2], .own vs2 101 3 (L0.length) (ints (fl3 L0)), .blk b3 48 [.slice none 0 0, .slice none 0 0], .blk b2 39 [.int .i64 Q, .slice Ac n cc], .blk b1 35 [.int .i64 N, .slice Ag m cg]]) ((Weak.selF [4, 1]).trans (Weak.dgSnoc (zs := []) (z := ((.slice A_up01 pn c_up01 : Value), vd2, vs2, ((ps, D0) : RK), ([] : List Nat))))) ?_ ⟨_, _, rfl, fun _ => nofun, fun _ => nofun⟩
      refine Run.weak (H' := [.grp 101 3 (sgp (stp es m xs n (ps, D0) L0) [((.slice A_up01 pn c_up01 : Value), vd2, vs2, ((ps, D0) : RK), ([] : List Nat))]), .grp 4 1 (dgp n [((.slice A_up01 pn c_up01 : Value), vd2, vs2, ((ps, D0) : RK), ([] : List Nat))]), .grp 3 1 (pgp pn [((.slice A_up01 pn c_up01 : Value), vd2, vs2, ((ps, D0) : RK), ([] : List Nat))]), .blk b4 90 [.int .i64 N, .slice Ag m cg, .int .i64 Q, .slice Ac n cc, .slice A_up01 pn c_up01, vd2, vs2], .blk b3 48 [.slice none 0 0, .slice none 0 0], .blk b2 39 [.int .i64 Q, .slice Ac n cc], .blk b1 35 [.int .i64 N, .slice Ag m cg]]) ((Weak.selF [4, 2]).trans (Weak.sgSnoc (S := (stp es m xs n (ps, D0) L0)) (zs := []) (z := ((.slice A_up01 pn c_up01 : Value), vd2, vs2, ((ps, D0) : RK), ([] : List Nat))))) ?_ ⟨_, _, rfl, fun _ => nofun, fun _ => nofun⟩
      refine Run.seq ?_
      refine Run.cut (ι := Nat × Value) [9, 10, 35, 36, 37, 38, 39, 40] (fun ⟨bm, vq⟩ => [(9, .map (some bm)), (10, vq)]) (fun ⟨bm, vq⟩ => [.own vq 90 7 (([((.slice A_up01 pn c_up01 : Value), vd2, vs2, ((ps, D0) : RK), ([] : List Nat))]).length) (rcells N (.slice Ag m cg) Q (.slice Ac n cc) ([((.slice A_up01 pn c_up01 : Value), vd2, vs2, ((ps, D0) : RK), ([] : List Nat))])), .grp 3 1 (pgp pn ([((.slice A_up01 pn c_up01 : Value), vd2, vs2, ((ps, D0) : RK), ([] : List Nat))])), .grp 4 1 (dgp n ([((.slice A_up01 pn c_up01 : Value), vd2, vs2, ((ps, D0) : RK), ([] : List Nat))])), .grp 101 3 (sgp (stp es m xs n (ps, D0) L0) ([((.slice A_up01 pn c_up01 : Value), vd2, vs2, ((ps, D0) : RK), ([] : List Nat))])), .mp bm (setKv (rkq (rk ([((.slice A_up01 pn c_up01 : Value), vd2, vs2, ((ps, D0) : RK), ([] : List Nat))])) n)), .blk b4 90 [.int .i64 N, .slice Ag m cg, .int .i64 Q, .slice Ac n cc, .slice A_up01 pn c_up01, vd2, vs2], .blk b3 48 [.slice none 0 0, .slice none 0 0], .blk b2 39 [.int .i64 Q, .slice Ac n cc], .blk b1 35 [.int .i64 N, .slice Ag m cg]]) (fun ⟨bm, vq⟩ => True) ?_ ?_
      · refine Run.held (by kernel_rfl) ?_
        refine DW.take (i := 1) (v := .agg #[.int .i64 N, .slice Ag m cg, .int .i64 Q, .slice Ac n cc, .slice A_up01 pn c_up01, vd2, vs2]) rfl (by kernel_rfl) (by kernel_rfl) (by kernel_rfl) (fun _ _ _ h => h) (Weak.refl _) rfl (OpY.loadN (cs := [.int .i64 N, .slice Ag m cg, .int .i64 Q, .slice Ac n cc, .slice A_up01 pn c_up01, vd2, vs2]) Tagg_90 rfl (Cells.blk (.tail _ (.tail _ (.tail _ (List.Mem.head _)))) ⟨rfl, rfl, rfl, rfl, rfl, rfl, rfl, trivial⟩)) ?_
        refine DW.take (i := 5) (v := .agg #[.int .i64 N, .slice Ag m cg, .int .i64 Q, .slice Ac n cc, .slice A_up01 pn c_up01, vd2, vs2]) rfl (by kernel_rfl) (by kernel_rfl) (by kernel_rfl) (fun _ _ _ h => h) (Weak.refl _) rfl (OpY.loadN (cs := [.int .i64 N, .slice Ag m cg, .int .i64 Q, .slice Ac n cc, .slice A_up01 pn c_up01, vd2, vs2]) Tagg_90 rfl (Cells.blk (.tail _ (.tail _ (.tail _ (List.Mem.head _)))) ⟨rfl, rfl, rfl, rfl, rfl, rfl, rfl, trivial⟩)) ?_
        refine DW.three (i := 0) (j := 2) (l := 6) (by kernel_rfl) rfl rfl rfl rfl rfl rfl ?_ ?_ ?_
        · refine OpStep.makeMap fun b5 => ?_
          refine ⟨(Some'.weak (.skip (.take (.take (.take (.take (.take (.take (.take (.nil _)))))))))), ?_⟩
          refine DW.two (i := 2) (j := 6) (by kernel_rfl) rfl rfl rfl rfl ?_ ?_
          · refine OpStep.q (v := keyP ps D0 n) (OpQ.call (vs := [.agg #[.int .i64 N, .slice Ag m cg, .int .i64 Q, .slice Ac n cc, .slice A_up01 pn c_up01, vd2, vs2]]) (caps := []) Tcall_52 rfl rfl (fun w hs => routeKey_spec (by omega) hF.hpn.1 hF.hpn.2 (hs.slGrpR (p := pm pn ((.slice A_up01 pn c_up01 : Value), vd2, vs2, ((ps, D0) : RK), ([] : List Nat))) (.tail _ (.tail _ (.tail _ (List.Mem.head _)))) (pg_mem (.head _))) (hs.slGrpR (p := dm n ((.slice A_up01 pn c_up01 : Value), vd2, vs2, ((ps, D0) : RK), ([] : List Nat))) (.tail _ (.tail _ (List.Mem.head _))) (dg_mem (.head _))))) ?_
            refine ⟨(Some'.weak (.skip (.take (.take (.take (.take (.take (.take (.take (.nil _)))))))))), ?_⟩
            refine DW.two (i := 3) (j := 6) (by kernel_rfl) rfl rfl rfl rfl ?_ ?_
            · refine OpStep.insertLit (ks := []) (key := keyP ps D0 n) Tmapof_96 rk_law rfl rfl rfl (by rw [show ([]) ++ [keyP ps D0 n] = rkq (rk [((.slice A_up01 pn c_up01 : Value), vd2, vs2, ((ps, D0) : RK), ([] : List Nat))]) n from by rfl]; exact (.here _)) (by simp) (keyP_can hK0.pl hF.hn (pl_range hF.hN.2 hK0.po)) (by simp) ?_
              refine ⟨(Some'.weak (.skip (.take (.take (.take (.take (.take (.take (.take (.nil _)))))))))), ?_⟩
              refine DW.take (i := 4) (v := .map (some b5)) rfl (by kernel_rfl) (by kernel_rfl) (by kernel_rfl) (fun _ _ _ h => h) (Some'.weak (.skip (.take (.take (.take (.take (.take (.take (.take (.nil _)))))))))) rfl (OpY.pure rfl) ?_
              refine DW.take (i := 7) (v := .map (some b5)) rfl (by kernel_rfl) (by kernel_rfl) (by kernel_rfl) (fun _ _ _ h => h) (Some'.weak (.skip (.take (.take (.take (.take (.take (.take (.take (.nil _)))))))))) rfl (OpY.pure rfl) ?_
              refine DW.step (i := 6) (by kernel_rfl) rfl rfl (OpStep.buildSlice (us := [.int .i64 N, .slice Ag m cg, .int .i64 Q, .slice Ac n cc, .slice A_up01 pn c_up01, vd2, vs2]) Tsl_97 (by decide) (by decide) ⟨rfl, [.int .i64 N, .slice Ag m cg, .int .i64 Q, .slice Ac n cc, .slice A_up01 pn c_up01, vd2, vs2], _, rfl, rfl, rfl, rfl⟩ rfl fun b6 => ?_)
              refine ⟨(Some'.weak (.skip (.skip (.take (.take (.take (.take (.take (.take (.take (.nil _))))))))))), ?_⟩
              refine DW.take (i := 8) (v := .slice (some ⟨b6, 0, none⟩) 1 1) rfl (by kernel_rfl) (by kernel_rfl) (by kernel_rfl) (fun _ _ _ h => h) (Some'.weak (.skip (.skip (.take (.take (.take (.take (.take (.take (.take (.nil _))))))))))) rfl (OpY.pure rfl) ?_
              refine DW.done (by kernel_rfl) ?_
              refine Run.goal ⟨(by repeat (first | exact Same.refl _ _ | refine Same.put rfl ?_ | refine Same.over rfl rfl ?_)), (b5, .slice (some ⟨b6, 0, none⟩) 1 1), ?_, ?_, ?_⟩
              · trivial
              · exact ⟨(by first | rfl | (congr 1; omega) | simp [*]), (by first | rfl | (congr 1; omega) | simp [*]), trivial⟩
              · exact ((Weak.selF [0, 3, 2, 1, 0, 0, 0, 0, 0]).trans (Some'.weak (.takeEq (by first | rfl | simp) (.takeEq (by first | rfl | simp) (.takeEq (by first | rfl | simp) (.takeEq (by first | rfl | simp) (.takeEq (by first | rfl | simp) (.take (.take (.take (.take (.nil _))))))))))))
            · refine OpStep.buildSlice (us := [.int .i64 N, .slice Ag m cg, .int .i64 Q, .slice Ac n cc, .slice A_up01 pn c_up01, vd2, vs2]) Tsl_97 (by decide) (by decide) ⟨rfl, [.int .i64 N, .slice Ag m cg, .int .i64 Q, .slice Ac n cc, .slice A_up01 pn c_up01, vd2, vs2], _, rfl, rfl, rfl, rfl⟩ rfl fun b7 => ?_
              refine ⟨(Some'.weak (.skip (.skip (.take (.take (.take (.take (.take (.take (.take (.nil _))))))))))), ?_⟩
              refine DW.step (i := 3) (by kernel_rfl) rfl rfl (OpStep.insertLit (ks := []) (key := keyP ps D0 n) Tmapof_96 rk_law rfl rfl rfl (by rw [show ([]) ++ [keyP ps D0 n] = rkq (rk [((.slice A_up01 pn c_up01 : Value), vd2, vs2, ((ps, D0) : RK), ([] : List Nat))]) n from by rfl]; exact (.there _ (.here _))) (by simp) (keyP_can hK0.pl hF.hn (pl_range hF.hN.2 hK0.po)) (by simp) ?_)
              refine ⟨(Some'.weak (.skip (.skip (.take (.take (.take (.take (.take (.take (.take (.nil _))))))))))), ?_⟩
              refine DW.take (i := 4) (v := .map (some b5)) rfl (by kernel_rfl) (by kernel_rfl) (by kernel_rfl) (fun _ _ _ h => h) (Some'.weak (.skip (.skip (.take (.take (.take (.take (.take (.take (.take (.nil _))))))))))) rfl (OpY.pure rfl) ?_
              refine DW.take (i := 7) (v := .map (some b5)) rfl (by kernel_rfl) (by kernel_rfl) (by kernel_rfl) (fun _ _ _ h => h) (Some'.weak (.skip (.skip (.take (.take (.take (.take (.take (.take (.take (.nil _))))))))))) rfl (OpY.pure rfl) ?_
              refine DW.take (i := 8) (v := .slice (some ⟨b7, 0, none⟩) 1 1) rfl (by kernel_rfl) (by kernel_rfl) (by kernel_rfl) (fun _ _ _ h => h) (Some'.weak (.skip (.skip (.take (.take (.take (.take (.take (.take (.take (.nil _))))))))))) rfl (OpY.pure rfl) ?_
              refine DW.done (by kernel_rfl) ?_
              refine Run.goal ⟨(by repeat (first | exact Same.refl _ _ | refine Same.put rfl ?_ | refine Same.over rfl rfl ?_)), (b5, .slice (some ⟨b7, 0, none⟩) 1 1), ?_, ?_, ?_⟩
              · trivial
              · exact ⟨(by first | rfl | (congr 1; omega) | simp [*]), (by first | rfl | (congr 1; omega) | simp [*]), trivial⟩
              · exact ((Weak.selF [0, 3, 2, 1, 0, 0, 0, 0, 0]).trans (Some'.weak (.takeEq (by first | rfl | simp) (.takeEq (by first | rfl | simp) (.takeEq (by first | rfl | simp) (.takeEq (by first | rfl | simp) (.takeEq (by first | rfl | simp) (.take (.take (.take (.take (.nil _))))))))))))
          · refine OpStep.buildSlice (us := [.int .i64 N, .slice Ag m cg, .int .i64 Q, .slice Ac n cc, .slice A_up01 pn c_up01, vd2, vs2]) Tsl_97 (by decide) (by decide) ⟨rfl, [.int .i64 N, .slice Ag m cg, .int .i64 Q, .slice Ac n cc, .slice A_up01 pn c_up01, vd2, vs2], _, rfl, rfl, rfl, rfl⟩ rfl fun b8 => ?_
            refine ⟨(Some'.weak (.skip (.skip (.take (.take (.take (.take (.take (.take (.take (.nil _))))))))))), ?_⟩
            refine DW.step (i := 2) (by kernel_rfl) rfl rfl (OpStep.q (v := keyP ps D0 n) (OpQ.call (vs := [.agg #[.int .i64 N, .slice Ag m cg, .int .i64 Q, .slice Ac n cc, .slice A_up01 pn c_up01, vd2, vs2]]) (caps := []) Tcall_52 rfl rfl (fun w hs => routeKey_spec (by omega) hF.hpn.1 hF.hpn.2 (hs.slGrpR (p := pm pn ((.slice A_up01 pn c_up01 : Value), vd2, vs2, ((ps, D0) : RK), ([] : List Nat))) (.tail _ (.tail _ (.tail _ (.tail _ (List.Mem.head _))))) (pg_mem (.head _))) (hs.slGrpR (p := dm n ((.slice A_up01 pn c_up01 : Value), vd2, vs2, ((ps, D0) : RK), ([] : List Nat))) (.tail _ (.tail _ (.tail _ (List.Mem.head _)))) (dg_mem (.head _))))) ?_)
            refine ⟨(Some'.weak (.skip (.skip (.take (.take (.take (.take (.take (.take (.take (.nil _))))))))))), ?_⟩
            refine DW.step (i := 3) (by kernel_rfl) rfl rfl (OpStep.insertLit (ks := []) (key := keyP ps D0 n) Tmapof_96 rk_law rfl rfl rfl (by rw [show ([]) ++ [keyP ps D0 n] = rkq (rk [((.slice A_up01 pn c_up01 : Value), vd2, vs2, ((ps, D0) : RK), ([] : List Nat))]) n from by rfl]; exact (.there _ (.here _))) (by simp) (keyP_can hK0.pl hF.hn (pl_range hF.hN.2 hK0.po)) (by simp) ?_)
            refine ⟨(Some'.weak (.skip (.skip (.take (.take (.take (.take (.take (.take (.take (.nil _))))))))))), ?_⟩
            refine DW.take (i := 4) (v := .map (some b5)) rfl (by kernel_rfl) (by kernel_rfl) (by kernel_rfl) (fun _ _ _ h => h) (Some'.weak (.skip (.skip (.take (.take (.take (.take (.take (.take (.take (.nil _))))))))))) rfl (OpY.pure rfl) ?_
            refine DW.take (i := 7) (v := .map (some b5)) rfl (by kernel_rfl) (by kernel_rfl) (by kernel_rfl) (fun _ _ _ h => h) (Some'.weak (.skip (.skip (.take (.take (.take (.take (.take (.take (.take (.nil _))))))))))) rfl (OpY.pure rfl) ?_
            refine DW.take (i := 8) (v := .slice (some ⟨b8, 0, none⟩) 1 1) rfl (by kernel_rfl) (by kernel_rfl) (by kernel_rfl) (fun _ _ _ h => h) (Some'.weak (.skip (.skip (.take (.take (.take (.take (.take (.take (.take (.nil _))))))))))) rfl (OpY.pure rfl) ?_
            refine DW.done (by kernel_rfl) ?_
            refine Run.goal ⟨(by repeat (first | exact Same.refl _ _ | refine Same.put rfl ?_ | refine Same.over rfl rfl ?_)), (b5, .slice (some ⟨b8, 0, none⟩) 1 1), ?_, ?_, ?_⟩
            · trivial
            · exact ⟨(by first | rfl | (congr 1; omega) | simp [*]), (by first | rfl | (congr 1; omega) | simp [*]), trivial⟩
            · exact ((Weak.selF [0, 3, 2, 1, 0, 0, 0, 0, 0]).trans (Some'.weak (.takeEq (by first | rfl | simp) (.takeEq (by first | rfl | simp) (.takeEq (by first | rfl | simp) (.takeEq (by first | rfl | simp) (.takeEq (by first | rfl | simp) (.take (.take (.take (.take (.nil _))))))))))))
        · refine OpStep.q (v := keyP ps D0 n) (OpQ.call (vs := [.agg #[.int .i64 N, .slice Ag m cg, .int .i64 Q, .slice Ac n cc, .slice A_up01 pn c_up01, vd2, vs2]]) (caps := []) Tcall_52 rfl rfl (fun w hs => routeKey_spec (by omega) hF.hpn.1 hF.hpn.2 (hs.slGrpR (p := pm pn ((.slice A_up01 pn c_up01 : Value), vd2, vs2, ((ps, D0) : RK), ([] : List Nat))) (.tail _ (.tail _ (List.Mem.head _))) (pg_mem (.head _))) (hs.slGrpR (p := dm n ((.slice A_up01 pn c_up01 : Value), vd2, vs2, ((ps, D0) : RK), ([] : List Nat))) (.tail _ (List.Mem.head _)) (dg_mem (.head _))))) ?_
          refine ⟨(Some'.weak (.take (.take (.take (.take (.take (.take (.take (.nil _))))))))), ?_⟩
          refine DW.two (i := 0) (j := 6) (by kernel_rfl) rfl rfl rfl rfl ?_ ?_
          · refine OpStep.makeMap fun b9 => ?_
            refine ⟨(Some'.weak (.skip (.take (.take (.take (.take (.take (.take (.take (.nil _)))))))))), ?_⟩
            refine DW.two (i := 3) (j := 6) (by kernel_rfl) rfl rfl rfl rfl ?_ ?_
            · refine OpStep.insertLit (ks := []) (key := keyP ps D0 n) Tmapof_96 rk_law rfl rfl rfl (by rw [show ([]) ++ [keyP ps D0 n] = rkq (rk [((.slice A_up01 pn c_up01 : Value), vd2, vs2, ((ps, D0) : RK), ([] : List Nat))]) n from by rfl]; exact (.here _)) (by simp) (keyP_can hK0.pl hF.hn (pl_range hF.hN.2 hK0.po)) (by simp) ?_
              refine ⟨(Some'.weak (.skip (.take (.take (.take (.take (.take (.take (.take (.nil _)))))))))), ?_⟩
              refine DW.take (i := 4) (v := .map (some b9)) rfl (by kernel_rfl) (by kernel_rfl) (by kernel_rfl) (fun _ _ _ h => h) (Some'.weak (.skip (.take (.take (.take (.take (.take (.take (.take (.nil _)))))))))) rfl (OpY.pure rfl) ?_
              refine DW.take (i := 7) (v := .map (some b9)) rfl (by kernel_rfl) (by kernel_rfl) (by kernel_rfl) (fun _ _ _ h => h) (Some'.weak (.skip (.take (.take (.take (.take (.take (.take (.take (.nil _)))))))))) rfl (OpY.pure rfl) ?_
              refine DW.step (i := 6) (by kernel_rfl) rfl rfl (OpStep.buildSlice (us := [.int .i64 N, .slice Ag m cg, .int .i64 Q, .slice Ac n cc, .slice A_up01 pn c_up01, vd2, vs2]) Tsl_97 (by decide) (by decide) ⟨rfl, [.int .i64 N, .slice Ag m cg, .int .i64 Q, .slice Ac n cc, .slice A_up01 pn c_up01, vd2, vs2], _, rfl, rfl, rfl, rfl⟩ rfl fun b10 => ?_)
              refine ⟨(Some'.weak (.skip (.skip (.take (.take (.take (.take (.take (.take (.take (.nil _))))))))))), ?_⟩
              refine DW.take (i := 8) (v := .slice (some ⟨b10, 0, none⟩) 1 1) rfl (by kernel_rfl) (by kernel_rfl) (by kernel_rfl) (fun _ _ _ h => h) (Some'.weak (.skip (.skip (.take (.take (.take (.take (.take (.take (.take (.nil _))))))))))) rfl (OpY.pure rfl) ?_
              refine DW.done (by kernel_rfl) ?_
              refine Run.goal ⟨(by repeat (first | exact Same.refl _ _ | refine Same.put rfl ?_ | refine Same.over rfl rfl ?_)), (b9, .slice (some ⟨b10, 0, none⟩) 1 1), ?_, ?_, ?_⟩
              · trivial
              · exact ⟨(by first | rfl | (congr 1; omega) | simp [*]), (by first | rfl | (congr 1; omega) | simp [*]), trivial⟩
              · exact ((Weak.selF [0, 3, 2, 1, 0, 0, 0, 0, 0]).trans (Some'.weak (.takeEq (by first | rfl | simp) (.takeEq (by first | rfl | simp) (.takeEq (by first | rfl | simp) (.takeEq (by first | rfl | simp) (.takeEq (by first | rfl | simp) (.take (.take (.take (.take (.nil _))))))))))))
            · refine OpStep.buildSlice (us := [.int .i64 N, .slice Ag m cg, .int .i64 Q, .slice Ac n cc, .slice A_up01 pn c_up01, vd2, vs2]) Tsl_97 (by decide) (by decide) ⟨rfl, [.int .i64 N, .slice Ag m cg, .int .i64 Q, .slice Ac n cc, .slice A_up01 pn c_up01, vd2, vs2], _, rfl, rfl, rfl, rfl⟩ rfl fun b11 => ?_
              refine ⟨(Some'.weak (.skip (.skip (.take (.take (.take (.take (.take (.take (.take (.nil _))))))))))), ?_⟩
              refine DW.step (i := 3) (by kernel_rfl) rfl rfl (OpStep.insertLit (ks := []) (key := keyP ps D0 n) Tmapof_96 rk_law rfl rfl rfl (by rw [show ([]) ++ [keyP ps D0 n] = rkq (rk [((.slice A_up01 pn c_up01 : Value), vd2, vs2, ((ps, D0) : RK), ([] : List Nat))]) n from by rfl]; exact (.there _ (.here _))) (by simp) (keyP_can hK0.pl hF.hn (pl_range hF.hN.2 hK0.po)) (by simp) ?_)
              refine ⟨(Some'.weak (.skip (.skip (.take (.take (.take (.take (.take (.take (.take (.nil _))))))))))), ?_⟩
              refine DW.take (i := 4) (v := .map (some b9)) rfl (by kernel_rfl) (by kernel_rfl) (by kernel_rfl) (fun _ _ _ h => h) (Some'.weak (.skip (.skip (.take (.take (.take (.take (.take (.take (.take (.nil _))))))))))) rfl (OpY.pure rfl) ?_
              refine DW.take (i := 7) (v := .map (some b9)) rfl (by kernel_rfl) (by kernel_rfl) (by kernel_rfl) (fun _ _ _ h => h) (Some'.weak (.skip (.skip (.take (.take (.take (.take (.take (.take (.take (.nil _))))))))))) rfl (OpY.pure rfl) ?_
              refine DW.take (i := 8) (v := .slice (some ⟨b11, 0, none⟩) 1 1) rfl (by kernel_rfl) (by kernel_rfl) (by kernel_rfl) (fun _ _ _ h => h) (Some'.weak (.skip (.skip (.take (.take (.take (.take (.take (.take (.take (.nil _))))))))))) rfl (OpY.pure rfl) ?_
              refine DW.done (by kernel_rfl) ?_
              refine Run.goal ⟨(by repeat (first | exact Same.refl _ _ | refine Same.put rfl ?_ | refine Same.over rfl rfl ?_)), (b9, .slice (some ⟨b11, 0, none⟩) 1 1), ?_, ?_, ?_⟩
              · trivial
              · exact ⟨(by first | rfl | (congr 1; omega) | simp [*]), (by first | rfl | (congr 1; omega) | simp [*]), trivial⟩
              · exact ((Weak.selF [0, 3, 2, 1, 0, 0, 0, 0, 0]).trans (Some'.weak (.takeEq (by first | rfl | simp) (.takeEq (by first | rfl | simp) (.takeEq (by first | rfl | simp) (.takeEq (by first | rfl | simp) (.takeEq (by first | rfl | simp) (.take (.take (.take (.take (.nil _))))))))))))
          · refine OpStep.buildSlice (us := [.int .i64 N, .slice Ag m cg, .int .i64 Q, .slice Ac n cc, .slice A_up01 pn c_up01, vd2, vs2]) Tsl_97 (by decide) (by decide) ⟨rfl, [.int .i64 N, .slice Ag m cg, .int .i64 Q, .slice Ac n cc, .slice A_up01 pn c_up01, vd2, vs2], _, rfl, rfl, rfl, rfl⟩ rfl fun b12 => ?_
            refine ⟨(Some'.weak (.skip (.take (.take (.take (.take (.take (.take (.take (.nil _)))))))))), ?_⟩
            refine DW.step (i := 0) (by kernel_rfl) rfl rfl (OpStep.makeMap fun b13 => ?_)
            refine ⟨(Some'.weak (.skip (.skip (.take (.take (.take (.take (.take (.take (.take (.nil _))))))))))), ?_⟩
            refine DW.step (i := 3) (by kernel_rfl) rfl rfl (OpStep.insertLit (ks := []) (key := keyP ps D0 n) Tmapof_96 rk_law rfl rfl rfl (by rw [show ([]) ++ [keyP ps D0 n] = rkq (rk [((.slice A_up01 pn c_up01 : Value), vd2, vs2, ((ps, D0) : RK), ([] : List Nat))]) n from by rfl]; exact (.here _)) (by simp) (keyP_can hK0.pl hF.hn (pl_range hF.hN.2 hK0.po)) (by simp) ?_)
            refine ⟨(Some'.weak (.skip (.skip (.take (.take (.take (.take (.take (.take (.take (.nil _))))))))))), ?_⟩
            refine DW.take (i := 4) (v := .map (some b13)) rfl (by kernel_rfl) (by kernel_rfl) (by kernel_rfl) (fun _ _ _ h => h) (Some'.weak (.skip (.skip (.take (.take (.take (.take (.take (.take (.take (.nil _))))))))))) rfl (OpY.pure rfl) ?_
            refine DW.take (i := 7) (v := .map (some b13)) rfl (by kernel_rfl) (by kernel_rfl) (by kernel_rfl) (fun _ _ _ h => h) (Some'.weak (.skip (.skip (.take (.take (.take (.take (.take (.take (.take (.nil _))))))))))) rfl (OpY.pure rfl) ?_
            refine DW.take (i := 8) (v := .slice (some ⟨b12, 0, none⟩) 1 1) rfl (by kernel_rfl) (by kernel_rfl) (by kernel_rfl) (fun _ _ _ h => h) (Some'.weak (.skip (.skip (.take (.take (.take (.take (.take (.take (.take (.nil _))))))))))) rfl (OpY.pure rfl) ?_
            refine DW.done (by kernel_rfl) ?_
            refine Run.goal ⟨(by repeat (first | exact Same.refl _ _ | refine Same.put rfl ?_ | refine Same.over rfl rfl ?_)), (b13, .slice (some ⟨b12, 0, none⟩) 1 1), ?_, ?_, ?_⟩
            · trivial
            · exact ⟨(by first | rfl | (congr 1; omega) | simp [*]), (by first | rfl | (congr 1; omega) | simp [*]), trivial⟩
            · exact ((Weak.selF [1, 3, 2, 1, 0, 0, 0, 0, 0]).trans (Some'.weak (.takeEq (by first | rfl | simp) (.takeEq (by first | rfl | simp) (.takeEq (by first | rfl | simp) (.takeEq (by first | rfl | simp) (.takeEq (by first | rfl | simp) (.take (.take (.take (.take (.nil _))))))))))))
        · refine OpStep.buildSlice (us := [.int .i64 N, .slice Ag m cg, .int .i64 Q, .slice Ac n cc, .slice A_up01 pn c_up01, vd2, vs2]) Tsl_97 (by decide) (by decide) ⟨rfl, [.int .i64 N, .slice Ag m cg, .int .i64 Q, .slice Ac n cc, .slice A_up01 pn c_up01, vd2, vs2], _, rfl, rfl, rfl, rfl⟩ rfl fun b14 => ?_
          refine ⟨(Some'.weak (.skip (.take (.take (.take (.take (.take (.take (.take (.nil _)))))))))), ?_⟩
          refine DW.two (i := 0) (j := 2) (by kernel_rfl) rfl rfl rfl rfl ?_ ?_
          · refine OpStep.makeMap fun b15 => ?_
            refine ⟨(Some'.weak (.skip (.skip (.take (.take (.take (.take (.take (.take (.take (.nil _))))))))))), ?_⟩
            refine DW.step (i := 2) (by kernel_rfl) rfl rfl (OpStep.q (v := keyP ps D0 n) (OpQ.call (vs := [.agg #[.int .i64 N, .slice Ag m cg, .int .i64 Q, .slice Ac n cc, .slice A_up01 pn c_up01, vd2, vs2]]) (caps := []) Tcall_52 rfl rfl (fun w hs => routeKey_spec (by omega) hF.hpn.1 hF.hpn.2 (hs.slGrpR (p := pm pn ((.slice A_up01 pn c_up01 : Value), vd2, vs2, ((ps, D0) : RK), ([] : List Nat))) (.tail _ (.tail _ (.tail _ (.tail _ (List.Mem.head _))))) (pg_mem (.head _))) (hs.slGrpR (p := dm n ((.slice A_up01 pn c_up01 : Value), vd2, vs2, ((ps, D0) : RK), ([] : List Nat))) (.tail _ (.tail _ (.tail _ (List.Mem.head _)))) (dg_mem (.head _))))) ?_)
            refine ⟨(Some'.weak (.skip (.skip (.take (.take (.take (.take (.take (.take (.take (.nil _))))))))))), ?_⟩
            refine DW.step (i := 3) (by kernel_rfl) rfl rfl (OpStep.insertLit (ks := []) (key := keyP ps D0 n) Tmapof_96 rk_law rfl rfl rfl (by rw [show ([]) ++ [keyP ps D0 n] = rkq (rk [((.slice A_up01 pn c_up01 : Value), vd2, vs2, ((ps, D0) : RK), ([] : List Nat))]) n from by rfl]; exact (.here _)) (by simp) (keyP_can hK0.pl hF.hn (pl_range hF.hN.2 hK0.po)) (by simp) ?_)
            refine ⟨(Some'.weak (.skip (.skip (.take (.take (.take (.take (.take (.take (.take (.nil _))))))))))), ?_⟩
            refine DW.take (i := 4) (v := .map (some b15)) rfl (by kernel_rfl) (by kernel_rfl) (by kernel_rfl) (fun _ _ _ h => h) (Some'.weak (.skip (.skip (.take (.take (.take (.take (.take (.take (.take (.nil _))))))))))) rfl (OpY.pure rfl) ?_
            refine DW.take (i := 7) (v := .map (some b15)) rfl (by kernel_rfl) (by kernel_rfl) (by kernel_rfl) (fun _ _ _ h => h) (Some'.weak (.skip (.skip (.take (.take (.take (.take (.take (.take (.take (.nil _))))))))))) rfl (OpY.pure rfl) ?_
            refine DW.take (i := 8) (v := .slice (some ⟨b14, 0, none⟩) 1 1) rfl (by kernel_rfl) (by kernel_rfl) (by kernel_rfl) (fun _ _ _ h => h) (Some'.weak (.skip (.skip (.take (.take (.take (.take (.take (.take (.take (.nil _))))))))))) rfl (OpY.pure rfl) ?_
            refine DW.done (by kernel_rfl) ?_
            refine Run.goal ⟨(by repeat (first | exact Same.refl _ _ | refine Same.put rfl ?_ | refine Same.over rfl rfl ?_)), (b15, .slice (some ⟨b14, 0, none⟩) 1 1), ?_, ?_, ?_⟩
            · trivial
            · exact ⟨(by first | rfl | (congr 1; omega) | simp [*]), (by first | rfl | (congr 1; omega) | simp [*]), trivial⟩
            · exact ((Weak.selF [1, 3, 2, 1, 0, 0, 0, 0, 0]).trans (Some'.weak (.takeEq (by first | rfl | simp) (.takeEq (by first | rfl | simp) (.takeEq (by first | rfl | simp) (.takeEq (by first | rfl | simp) (.takeEq (by first | rfl | simp) (.take (.take (.take (.take (.nil _))))))))))))
          · refine OpStep.q (v := keyP ps D0 n) (OpQ.call (vs := [.agg #[.int .i64 N, .slice Ag m cg, .int .i64 Q, .slice Ac n cc, .slice A_up01 pn c_up01, vd2, vs2]]) (caps := []) Tcall_52 rfl rfl (fun w hs => routeKey_spec (by omega) hF.hpn.1 hF.hpn.2 (hs.slGrpR (p := pm pn ((.slice A_up01 pn c_up01 : Value), vd2, vs2, ((ps, D0) : RK), ([] : List Nat))) (.tail _ (.tail _ (.tail _ (List.Mem.head _)))) (pg_mem (.head _))) (hs.slGrpR (p := dm n ((.slice A_up01 pn c_up01 : Value), vd2, vs2, ((ps, D0) : RK), ([] : List Nat))) (.tail _ (.tail _ (List.Mem.head _))) (dg_mem (.head _))))) ?_
            refine ⟨(Some'.weak (.skip (.take (.take (.take (.take (.take (.take (.take (.nil _)))))))))), ?_⟩
            refine DW.step (i := 0) (by kernel_rfl) rfl rfl (OpStep.makeMap fun b16 => ?_)
            refine ⟨(Some'.weak (.skip (.skip (.take (.take (.take (.take (.take (.take (.take (.nil _))))))))))), ?_⟩
            refine DW.step (i := 3) (by kernel_rfl) rfl rfl (OpStep.insertLit (ks := []) (key := keyP ps D0 n) Tmapof_96 rk_law rfl rfl rfl (by rw [show ([]) ++ [keyP ps D0 n] = rkq (rk [((.slice A_up01 pn c_up01 : Value), vd2, vs2, ((ps, D0) : RK), ([] : List Nat))]) n from by rfl]; exact (.here _)) (by simp) (keyP_can hK0.pl hF.hn (pl_range hF.hN.2 hK0.po)) (by simp) ?_)
            refine ⟨(Some'.weak (.skip (.skip (.take (.take (.take (.take (.take (.take (.take (.nil _))))))))))), ?_⟩
            refine DW.take (i := 4) (v := .map (some b16)) rfl (by kernel_rfl) (by kernel_rfl) (by kernel_rfl) (fun _ _ _ h => h) (Some'.weak (.skip (.skip (.take (.take (.take (.take (.take (.take (.take (.nil _))))))))))) rfl (OpY.pure rfl) ?_
            refine DW.take (i := 7) (v := .map (some b16)) rfl (by kernel_rfl) (by kernel_rfl) (by kernel_rfl) (fun _ _ _ h => h) (Some'.weak (.skip (.skip (.take (.take (.take (.take (.take (.take (.take (.nil _))))))))))) rfl (OpY.pure rfl) ?_
            refine DW.take (i := 8) (v := .slice (some ⟨b14, 0, none⟩) 1 1) rfl (by kernel_rfl) (by kernel_rfl) (by kernel_rfl) (fun _ _ _ h => h) (Some'.weak (.skip (.skip (.take (.take (.take (.take (.take (.take (.take (.nil _))))))))))) rfl (OpY.pure rfl) ?_
            refine DW.done (by kernel_rfl) ?_
            refine Run.goal ⟨(by repeat (first | exact Same.refl _ _ | refine Same.put rfl ?_ | refine Same.over rfl rfl ?_)), (b16, .slice (some ⟨b14, 0, none⟩) 1 1), ?_, ?_, ?_⟩
            · trivial
            · exact ⟨(by first | rfl | (congr 1; omega) | simp [*]), (by first | rfl | (congr 1; omega) | simp [*]), trivial⟩
            · exact ((Weak.selF [1, 3, 2, 1, 0, 0, 0, 0, 0]).trans (Some'.weak (.takeEq (by first | rfl | simp) (.takeEq (by first | rfl | simp) (.takeEq (by first | rfl | simp) (.takeEq (by first | rfl | simp) (.takeEq (by first | rfl | simp) (.take (.take (.take (.take (.nil _))))))))))))
      · rintro ⟨bm, vq⟩ fr hcut
        show Run _ _ (over _ _ [(9, .map (some bm)), (10, vq)] fr) [.own vq 90 7 (([((.slice A_up01 pn c_up01 : Value), vd2, vs2, ((ps, D0) : RK), ([] : List Nat))]).length) (rcells N (.slice Ag m cg) Q (.slice Ac n cc) ([((.slice A_up01 pn c_up01 : Value), vd2, vs2, ((ps, D0) : RK), ([] : List Nat))])), .grp 3 1 (pgp pn ([((.slice A_up01 pn c_up01 : Value), vd2, vs2, ((ps, D0) : RK), ([] : List Nat))])), .grp 4 1 (dgp n ([((.slice A_up01 pn c_up01 : Value), vd2, vs2, ((ps, D0) : RK), ([] : List Nat))])), .grp 101 3 (sgp (stp es m xs n (ps, D0) L0) ([((.slice A_up01 pn c_up01 : Value), vd2, vs2, ((ps, D0) : RK), ([] : List Nat))])), .mp bm (setKv (rkq (rk ([((.slice A_up01 pn c_up01 : Value), vd2, vs2, ((ps, D0) : RK), ([] : List Nat))])) n)), .blk b4 90 [.int .i64 N, .slice Ag m cg, .int .i64 Q, .slice Ac n cc, .slice A_up01 pn c_up01, vd2, vs2], .blk b3 48 [.slice none 0 0, .slice none 0 0], .blk b2 39 [.int .i64 Q, .slice Ac n cc], .blk b1 35 [.int .i64 N, .slice Ag m cg]]
        refine Run.seq ?_
        refine Run.seq ?_
        refine Run.region ?_
        refine Run.q (v := .int .i64 0) rfl (OpQ.y (OpY.pure rfl)) ?_
        refine Run.done ?_
        refine Run.block ?_
        refine Run.loop (ι := Nat × Value × List RZ) [7, 10, 11, 12, 14, 15, 41, 42, 43, 44, 45, 46, 47, 48, 49, 50, 51, 52, 53, 54, 55, 56, 57, 58, 59, 60, 61, 62, 63, 64, 65, 66, 67, 68, 69, 70, 71, 72, 73, 74, 75, 76, 77, 78, 79, 80, 81, 82, 83] (fun ⟨ai, vq, zs⟩ => [(10, vq), (11, .int .i64 (((ai : Nat) : Int)))]) (fun ⟨ai, vq, zs⟩ => [.own vq 90 7 (zs.length) (rcells N (.slice Ag m cg) Q (.slice Ac n cc) zs), .grp 3 1 (pgp pn zs), .grp 4 1 (dgp n zs), .grp 101 3 (sgp (stp es m xs n (ps, D0) L0) zs), .mp bm (setKv (rkq (rk zs) n)), .blk b4 90 [.int .i64 N, .slice Ag m cg, .int .i64 Q, .slice Ac n cc, .slice A_up01 pn c_up01, vd2, vs2], .blk b3 48 [.slice none 0 0, .slice none 0 0], .blk b2 39 [.int .i64 Q, .slice Ac n cc], .blk b1 35 [.int .i64 N, .slice Ag m cg]]) (fun ⟨ai, vq, zs⟩ => ai ≤ 12800000 ∧ rk zs = rQ es m xs n (ps, D0) ai ∧ ∀ j, j < ai → ∀ z, zs[j]? = some z → allD z.2.2.2.1.2 n = false) (fun ⟨ai, vq, zs⟩ => 12800001 - ai) (0, vq, [((.slice A_up01 pn c_up01 : Value), vd2, vs2, ((ps, D0) : RK), ([] : List Nat))]) ?_ ?_ ?_ ?_
        · exact ⟨Nat.zero_le _, rfl, fun j hj => absurd hj (by omega)⟩
        · exact ⟨rfl, rfl, trivial⟩
        · exact ((Weak.refl _).trans (Some'.weak (.takeEq (by first | rfl | simp) (.takeEq (by first | rfl | simp) (.takeEq (by first | rfl | simp) (.takeEq (by first | rfl | simp) (.takeEq (by first | rfl | simp) (.take (.take (.take (.take (.nil _))))))))))))
        · rintro ⟨ai, vq, zs⟩ fr hinv
          show Run _ _ (over _ _ [(10, vq), (11, .int .i64 (((ai : Nat) : Int)))] fr) [.own vq 90 7 (zs.length) (rcells N (.slice Ag m cg) Q (.slice Ac n cc) zs), .grp 3 1 (pgp pn zs), .grp 4 1 (dgp n zs), .grp 101 3 (sgp (stp es m xs n (ps, D0) L0) zs), .mp bm (setKv (rkq (rk zs) n)), .blk b4 90 [.int .i64 N, .slice Ag m cg, .int .i64 Q, .slice Ac n cc, .slice A_up01 pn c_up01, vd2, vs2], .blk b3 48 [.slice none 0 0, .slice none 0 0], .blk b2 39 [.int .i64 Q, .slice Ac n cc], .blk b1 35 [.int .i64 N, .slice Ag m cg]]
          try dsimp only at hinv
          obtain ⟨hai0, hinv⟩ := hinv
          refine Run.seq ?_
          refine Run.seq ?_
          refine Run.region ?_
          refine Run.q (v := .int .i64 (((ai : Nat) : Int))) rfl (OpQ.y (OpY.pure rfl)) ?_
          refine Run.q (v := vq) rfl (OpQ.y (OpY.pure rfl)) ?_
          refine Run.formOwn (.head _) (fun A_vq1 c_vq1 hv hcapc_vq1 hmaxc_vq1 => ?_) (fun _ _ _ => ⟨nofun, nofun, nofun⟩)
          subst hv
          refine Run.q (v := .int .i64 (((zs.length : Nat) : Int))) rfl (OpQ.y (OpY.len Tsl_97 rfl)) ?_
          refine Run.q (v := .bool (decide ((((ai : Nat) : Int)) < (((zs.length : Nat) : Int))))) rfl (OpQ.y (OpY.pure rfl)) ?_
          refine Run.done ?_
          refine Run.cond (b := decide ((((ai : Nat) : Int)) < (((zs.length : Nat) : Int)))) rfl (fun h44 => ?_) (fun h44 => ?_)
          · have p44 := h44; try simp only [bs] at p44
            have hai : ai < zs.length := by omega
            obtain ⟨⟨gvp, gvd, gvs, ⟨gk, gd⟩, gp⟩, hz⟩ : ∃ z, zs[ai]? = some z := ⟨_, List.getElem?_eq_getElem hai⟩
            obtain ⟨hzq, hzn⟩ := hinv
            have hzx : (rQ es m xs n (ps, D0) ai)[ai]? = some ((gk, gd), gp) := by rw [← hzq, rk, List.getElem?_map, hz]; rfl
            have hzM : zs.length ≤ 12800000 := by have h := rQ_small hF.hN.2 hF.hpn.2 hF.hc hF.he hK0 ai; rw [← hzq, rk, List.length_map] at h; exact h
            have hkz : KOk N Q pn n xs (gk, gd) := rQ_key hF.he hK0 ai _ (List.mem_of_getElem? hzx)
            have hpl2 : gp.length ≤ ai := bfs_plen ai ai _ hzx
            have hev : bev (kstep es m xs n) (ps, D0) gp = (gk, gd) := (bfs_inv ai).ev _ (List.mem_of_getElem? hzx)
            have hbw : ∀ e ∈ gp, e < m := fun e he => ((bfs_inv ai).okw _ (List.mem_of_getElem? hzx) e he).1
            have hstl : ((stp es m xs n (ps, D0) L0) gp).length ≤ 13000000 := by
              have h := stp_len hF.he gp (ps, D0) L0 hK0 hbw
              simp only at h; omega
            refine Run.formMem (.tail _ (List.Mem.head _)) (pg_mem (pn := pn) (List.mem_of_getElem? hz)) (fun gA1 gc1 hgv => ?_) (fun _ _ _ => ⟨nofun, nofun, nofun⟩)
            simp only [pm] at hgv
            subst hgv
            refine Run.formMem (.tail _ (.tail _ (List.Mem.head _))) (dg_mem (n := n) (List.mem_of_getElem? hz)) (fun gA2 gc2 hgv => ?_) (fun _ _ _ => ⟨nofun, nofun, nofun⟩)
            simp only [dm] at hgv
            subst hgv
            refine Run.formMem (.tail _ (.tail _ (.tail _ (List.Mem.head _)))) (sg_mem (S := (stp es m xs n (ps, D0) L0)) (List.mem_of_getElem? hz)) (fun gA3 gc3 hgv => ?_) (fun _ _ _ => ⟨nofun, nofun, nofun⟩)
            simp only [sm] at hgv
            subst hgv
            refine Run.openOwn (.head _) (by omega) (fun gz cz hvgz hcapgz _ => ?_) (fun _ _ _ => ⟨nofun, nofun, nofun⟩)
            injection hvgz with hAgz _ hcgz; subst hAgz; subst hcgz
            refine Run.skip ?_
            refine Run.seq ?_
            refine Run.block ?_
            refine Run.seq ?_
            refine Run.region ?_
            refine Run.q (v := .slice (some ⟨gz, 0, none⟩) (zs.length) c_vq1) rfl (OpQ.y (OpY.pure rfl)) ?_
            refine Run.q (v := .int .i64 (((ai : Nat) : Int))) rfl (OpQ.y (OpY.pure rfl)) ?_
            refine Run.q (v := .pointer (some ⟨gz, ai * 7, none⟩)) rfl (OpQ.y (OpY.index (kk := ai) Tsl_97 rfl rfl (by omega) (by omega) (by first | rfl | omega))) ?_
            refine Run.q (v := .agg #[.int .i64 N, .slice Ag m cg, .int .i64 Q, .slice Ac n cc, .slice gA1 pn gc1, .slice gA2 n gc2, .slice gA3 (((stp es m xs n (ps, D0) L0) gp).length) gc3]) rfl (OpQ.y (OpY.loadN (cs := [.int .i64 N, .slice Ag m cg, .int .i64 Q, .slice Ac n cc, .slice gA1 pn gc1, .slice gA2 n gc2, .slice gA3 (((stp es m xs n (ps, D0) L0) gp).length) gc3]) Tagg_90 rfl (Cells.own0 (.head _) (preR hz)))) ?_
            refine Run.step rfl (OpStep.alloc (zs := [.int .i64 0, .slice none 0 0, .int .i64 0, .slice none 0 0, .slice none 0 0, .slice none 0 0, .slice none 0 0]) Tzero_90 fun b17 => ?_)
            refine Run.step rfl (OpStep.storeAll (us := [.int .i64 N, .slice Ag m cg, .int .i64 Q, .slice Ac n cc, .slice gA1 pn gc1, .slice gA2 n gc2, .slice gA3 (((stp es m xs n (ps, D0) L0) gp).length) gc3]) Tsize_90 rfl rfl rfl (.here _) rfl ?_)
            refine Run.done ?_
            refine Run.seq ?_
            refine Run.seq ?_
            refine Run.region ?_
            refine Run.q (v := .pointer (some ⟨b17, 0, none⟩)) rfl (OpQ.y (OpY.fieldAddr Tfo_90_0 rfl rfl)) ?_
            refine Run.q (v := .pointer (some ⟨b17, 5, none⟩)) rfl (OpQ.y (OpY.fieldAddr Tfo_87_3 rfl rfl)) ?_
            refine Run.q (v := .slice gA2 n gc2) rfl (OpQ.y (OpY.load1 Tone_85 rfl (Cells.blk (.head _) ⟨rfl, trivial⟩))) ?_
            refine Run.q (v := .bool (!allD gd n)) rfl (OpQ.call (vs := [.slice gA2 n gc2, .bool false]) (caps := []) Tcall_53 rfl rfl (fun w hs => ContainsNot_spec (hs.slGrpR (p := dm n ((.slice gA1 pn gc1 : Value), (.slice gA2 n gc2 : Value), (.slice gA3 (((stp es m xs n (ps, D0) L0) gp).length) gc3 : Value), ((gk, gd) : RK), gp)) (.tail _ (.tail _ (.tail _ (List.Mem.head _)))) (dg_mem (List.mem_of_getElem? hz))))) ?_
            refine Run.q (v := .bool (!(!allD gd n))) rfl (OpQ.y (OpY.pure rfl)) ?_
            refine Run.done ?_
            refine Run.cond (b := !(!allD gd n)) rfl (fun h55 => ?_) (fun h55 => ?_)
            · have p55 := h55; try simp only [bs] at p55
              refine Run.seq ?_
              have hall : allD gd n = true := by simpa using p55
              have hyes := rt_yes (M := M) hO (show rtP M es m xs n (rS es m xs n ps) = some gp by
                rw [hS0]
                exact rtP_some (i := ai) (by omega) hzx hall fun j hj y hy => by
                  rw [← hzq, rk, List.getElem?_map] at hy
                  cases hzj : zs[j]? with
                  | none => rw [hzj] at hy; cases hy
                  | some z => rw [hzj] at hy; cases hy; exact hzn j hj z hzj)
              rw [hS0, hLL0] at hyes
              obtain ⟨A1, B1, hAB⟩ := List.append_of_mem (sg_mem (S := (stp es m xs n (ps, D0) L0)) (List.mem_of_getElem? hz))
              refine Run.weak (H' := [.own (.slice gA3 (((stp es m xs n (ps, D0) L0) gp).length) gc3) 101 3 (((stp es m xs n (ps, D0) L0) gp).length) (ints (fl3 ((stp es m xs n (ps, D0) L0) gp))), .grp 101 3 (A1 ++ B1), .blk b17 90 [.int .i64 N, .slice Ag m cg, .int .i64 Q, .slice Ac n cc, .slice gA1 pn gc1, .slice gA2 n gc2, .slice gA3 (((stp es m xs n (ps, D0) L0) gp).length) gc3], .own (.slice (some ⟨gz, 0, none⟩) (zs.length) c_vq1) 90 7 (zs.length) (rcells N (.slice Ag m cg) Q (.slice Ac n cc) zs), .grp 3 1 (pgp pn zs), .grp 4 1 (dgp n zs), .mp bm (setKv (rkq (rk zs) n)), .blk b4 90 [.int .i64 N, .slice Ag m cg, .int .i64 Q, .slice Ac n cc, .slice A_up01 pn c_up01, vd2, vs2], .blk b3 48 [.slice none 0 0, .slice none 0 0], .blk b2 39 [.int .i64 Q, .slice Ac n cc], .blk b1 35 [.int .i64 N, .slice Ag m cg]]) ((Weak.selF [4]).trans (by rw [hAB]; exact Weak.grpTakeR)) ?_ ⟨_, _, rfl, fun _ => nofun, fun _ => nofun⟩
              refine Run.heldB (base := [.blk b17 90 [.int .i64 N, .slice Ag m cg, .int .i64 Q, .slice Ac n cc, .slice gA1 pn gc1, .slice gA2 n gc2, .slice gA3 (((stp es m xs n (ps, D0) L0) gp).length) gc3]]) (by kernel_rfl) ?_
              refine DW.take (i := 0) (v := .slice Av pn cv) rfl (by kernel_rfl) (by kernel_rfl) (by kernel_rfl) (fun _ _ _ h => h) (Some'.weak (.skip (.skip (.take (.nil _))))) rfl (OpY.pure rfl) ?_
              refine DW.take (i := 2) (v := .pointer (some ⟨b17, 6, none⟩)) rfl (by kernel_rfl) (by kernel_rfl) (by kernel_rfl) (fun _ _ _ h => h) (Some'.weak (.skip (.skip (.take (.nil _))))) rfl (OpY.fieldAddr Tfo_90_1 rfl rfl) ?_
              refine DW.take (i := 3) (v := .slice gA3 (((stp es m xs n (ps, D0) L0) gp).length) gc3) rfl (by kernel_rfl) (by kernel_rfl) (by kernel_rfl) (fun _ _ _ h => h) (Some'.weak (.skip (.skip (.take (.nil _))))) rfl (OpY.load1 Tone_46 rfl (Cells.blk (.head _) ⟨rfl, trivial⟩)) ?_
              refine DW.step (i := 1) (by kernel_rfl) rfl rfl (OpStep.call (vs := [.slice Av pn cv]) (caps := []) Tcall_54 rfl rfl (fun w hs => CloneInt_spec (by omega) hF.hpn.1 (hs.sl hp)) ?_)
              rintro uk _ rfl
              refine ⟨(Some'.weak (.skip (.skip (.skip (.take (.nil _)))))), ?_⟩
              refine DW.formOwn (.head _) (fun A_uk1 c_uk1 hv hcapc_uk1 hmaxc_uk1 => ?_)
              subst hv
              refine DW.take (i := 4) (v := .agg #[.slice A_uk1 pn c_uk1, .slice gA3 (((stp es m xs n (ps, D0) L0) gp).length) gc3]) rfl (by kernel_rfl) (by kernel_rfl) (by kernel_rfl) (fun _ _ _ h => h) (Some'.weak (.skip (.skip (.skip (.take (.nil _)))))) rfl (OpY.build (cs := [.slice A_uk1 pn c_uk1, .slice gA3 (((stp es m xs n (ps, D0) L0) gp).length) gc3]) (by kernel_rfl)) ?_
              refine DW.step (i := 5) (by kernel_rfl) rfl rfl (OpStep.storeAll (us := [.slice A_uk1 pn c_uk1, .slice gA3 (((stp es m xs n (ps, D0) L0) gp).length) gc3]) Tsize_48 rfl rfl rfl (.there _ (.there _ (.there _ (.there _ (.there _ (.there _ (.there _ (.there _ (.there _ (.here _)))))))))) rfl ?_)
              refine ⟨(Some'.weak (.skip (.skip (.skip (.take (.nil _)))))), ?_⟩
              refine DW.take (i := 6) (v := .bool true) rfl (by kernel_rfl) (by kernel_rfl) (by kernel_rfl) (fun _ _ _ h => h) (Some'.weak (.skip (.skip (.skip (.take (.nil _)))))) rfl (OpY.pure rfl) ?_
              refine DW.done (by kernel_rfl) ?_
              refine Run.ret ?_
              refine ⟨.tuple #[.agg #[.slice A_uk1 pn c_uk1, .slice gA3 (((stp es m xs n (ps, D0) L0) gp).length) gc3], .bool true], [.own (.slice A_uk1 pn c_uk1) 3 1 pn (ints ps), .own (.slice gA3 (((stp es m xs n (ps, D0) L0) gp).length) gc3) 101 3 (((stp es m xs n (ps, D0) L0) gp).length) (ints (fl3 ((stp es m xs n (ps, D0) L0) gp)))], Out.cell2 (cs := [.slice A_uk1 pn c_uk1, .slice gA3 (((stp es m xs n (ps, D0) L0) gp).length) gc3]) rfl Tagg_48 rfl (Cells.blk (.tail _ (.tail _ (.tail _ (.tail _ (.tail _ (.tail _ (.tail _ (.tail _ (.tail _ (List.Mem.head _)))))))))) ⟨rfl, rfl, trivial⟩) rfl, (Some'.weak (.take (.take (.nil _)))), ?_⟩
              exact ⟨_, _, by rw [hyes.1], by rw [hyes.2.1, hyes.2.2, hpl]⟩
            · have p55 := h55; try simp only [bs] at p55
              have hnall : allD gd n = false := by simpa using p55
              refine Run.skip ?_
              refine Run.seq ?_
              refine Run.region ?_
              refine Run.q (v := .pointer (some ⟨b1, 1, none⟩)) rfl (OpQ.y (OpY.fieldAddr Tfo_35_1 rfl rfl)) ?_
              refine Run.q (v := .slice Ag m cg) rfl (OpQ.y (OpY.load1 Tone_33 rfl (Cells.blk (.tail _ (.tail _ (.tail _ (.tail _ (.tail _ (.tail _ (.tail _ (.tail _ (.tail _ (List.Mem.head _)))))))))) ⟨rfl, trivial⟩))) ?_
              refine Run.q (v := .int .i64 (((m : Nat) : Int))) rfl (OpQ.y (OpY.len Tsl_33 rfl)) ?_
              refine Run.q (v := .int .i64 0) rfl (OpQ.y (OpY.pure rfl)) ?_
              refine Run.done ?_
              refine Run.block ?_
              refine Run.loop (ι := Nat × Value × List RZ) [10, 14, 15, 64, 65, 66, 67, 68, 69, 70, 71, 72, 73, 74, 75, 76, 77, 78, 79, 80, 81, 82, 83] (fun ⟨ki, vq2, zs2⟩ => [(10, vq2), (64, .int .i64 (((ki : Nat) : Int)))]) (fun ⟨ki, vq2, zs2⟩ => [.own vq2 90 7 (zs2.length) (rcells N (.slice Ag m cg) Q (.slice Ac n cc) zs2), .grp 3 1 (pgp pn zs2), .grp 4 1 (dgp n zs2), .grp 101 3 (sgp (stp es m xs n (ps, D0) L0) zs2), .mp bm (setKv (rkq (rk zs2) n)), .blk b17 90 [.int .i64 N, .slice Ag m cg, .int .i64 Q, .slice Ac n cc, .slice gA1 pn gc1, .slice gA2 n gc2, .slice gA3 (((stp es m xs n (ps, D0) L0) gp).length) gc3], .blk b4 90 [.int .i64 N, .slice Ag m cg, .int .i64 Q, .slice Ac n cc, .slice A_up01 pn c_up01, vd2, vs2], .blk b3 48 [.slice none 0 0, .slice none 0 0], .blk b2 39 [.int .i64 Q, .slice Ac n cc], .blk b1 35 [.int .i64 N, .slice Ag m cg]]) (fun ⟨ki, vq2, zs2⟩ => ki ≤ m ∧ rk zs2 = brow (kstep es m xs n) (fun _ => true) ((gk, gd), gp) (rQ es m xs n (ps, D0) ai) ki ∧ ∃ t, zs2 = zs ++ t) (fun ⟨ki, vq2, zs2⟩ => m - ki) (0, .slice (some ⟨gz, 0, none⟩) (zs.length) c_vq1, zs) ?_ ?_ ?_ ?_
              · exact ⟨Nat.zero_le _, hzq, [], by simp⟩
              · exact ⟨rfl, rfl, trivial⟩
              · exact ((Weak.selF [1, 1, 1, 1, 1, 0, 0, 0, 0, 0]).trans (Some'.weak (.takeEq (by first | rfl | simp [rk]) (.takeEq (by first | rfl | simp [rk]) (.takeEq (by first | rfl | simp [rk]) (.takeEq (by first | rfl | simp [rk]) (.takeEq (by first | rfl | simp [rk]) (.take (.take (.take (.take (.take (.nil _)))))))))))))
              · rintro ⟨ki, vq2, zs2⟩ fr hinv
                show Run _ _ (over _ _ [(10, vq2), (64, .int .i64 (((ki : Nat) : Int)))] fr) [.own vq2 90 7 (zs2.length) (rcells N (.slice Ag m cg) Q (.slice Ac n cc) zs2), .grp 3 1 (pgp pn zs2), .grp 4 1 (dgp n zs2), .grp 101 3 (sgp (stp es m xs n (ps, D0) L0) zs2), .mp bm (setKv (rkq (rk zs2) n)), .blk b17 90 [.int .i64 N, .slice Ag m cg, .int .i64 Q, .slice Ac n cc, .slice gA1 pn gc1, .slice gA2 n gc2, .slice gA3 (((stp es m xs n (ps, D0) L0) gp).length) gc3], .blk b4 90 [.int .i64 N, .slice Ag m cg, .int .i64 Q, .slice Ac n cc, .slice A_up01 pn c_up01, vd2, vs2], .blk b3 48 [.slice none 0 0, .slice none 0 0], .blk b2 39 [.int .i64 Q, .slice Ac n cc], .blk b1 35 [.int .i64 N, .slice Ag m cg]]
                try dsimp only at hinv
                refine Run.seq ?_
                refine Run.region ?_
                refine Run.q (v := .bool (decide ((((ki : Nat) : Int)) < (((m : Nat) : Int))))) rfl (OpQ.y (OpY.pure rfl)) ?_
                refine Run.done ?_
                refine Run.seq ?_
                refine Run.cond (b := decide ((((ki : Nat) : Int)) < (((m : Nat) : Int)))) rfl (fun h65 => ?_) (fun h65 => ?_)
                · have p65 := h65; try simp only [bs] at p65
                  have hki : ki < m := by omega
                  obtain ⟨_, hzq2, ⟨tz, htz⟩⟩ := hinv
                  obtain ⟨tq, htq⟩ := brow_in hzx (show ki ≤ m by omega)
                  have hkall : ∀ y ∈ rk zs2, KOk N Q pn n xs y.1 := fun y hy => rQ_key hF.he hK0 (ai + 1) y (by rw [rQ, htq]; rw [hzq2] at hy; exact List.mem_append.2 (.inl hy))
                  have hzM2 : zs2.length ≤ 12800000 := by
                    have h := rQ_small hF.hN.2 hF.hpn.2 hF.hc hF.he hK0 (ai + 1)
                    have h2 : (rk zs2).length ≤ (rQ es m xs n (ps, D0) (ai + 1)).length := by
                      have e : rQ es m xs n (ps, D0) (ai + 1) = brow (kstep es m xs n) (fun _ => true) ((gk, gd), gp) (rQ es m xs n (ps, D0) ai) ki ++ tq := htq
                      rw [hzq2, e, List.length_append]; exact Nat.le_add_right _ _
                    rw [rk, List.length_map] at h2; omega
                  have hzm2 : ((.slice gA1 pn gc1 : Value), (.slice gA2 n gc2 : Value), (.slice gA3 (((stp es m xs n (ps, D0) L0) gp).length) gc3 : Value), ((gk, gd) : RK), gp) ∈ zs2 := by rw [htz]; exact List.mem_append.2 (.inl (List.mem_of_getElem? hz))
                  have hedge := (of_decide_eq_true hF.he) ki hki
                  have hknk0 := kstep_ok hF.he hki hkz
                  obtain ⟨⟨ky, kd⟩, hkk⟩ : ∃ k, kstep es m xs n (gk, gd) ki = k := ⟨_, rfl⟩
                  have hknk : KOk N Q pn n xs (ky, kd) := by rw [hkk] at hknk0; exact hknk0
                  have hky : swL (ix es (ki * 2)) (ix es (ki * 2 + 1)) gk = ky := congrArg Prod.fst hkk
                  have hkd : (advS (goB es m xs (swL (ix es (ki * 2)) (ix es (ki * 2 + 1)) gk)) n gd ((stp es m xs n (ps, D0) L0) gp ++ [((-1, ix es (ki * 2), ix es (ki * 2 + 1)) : T3)])).1 = kd := by rw [adv_same _ _ []]; exact congrArg Prod.snd hkk
                  have hks : (advS (goB es m xs (swL (ix es (ki * 2)) (ix es (ki * 2 + 1)) gk)) n gd ((stp es m xs n (ps, D0) L0) gp ++ [((-1, ix es (ki * 2), ix es (ki * 2 + 1)) : T3)])).2 = ((stp es m xs n (ps, D0) L0) (gp ++ [ki])) := by
                    have h := stp_snoc es m xs n gp (ps, D0) L0 ki
                    rw [hev] at h; exact h.symm
                  have hink : HIN n pn xs (swL (ix es (ki * 2)) (ix es (ki * 2 + 1)) gk) := by rw [hky]; exact hin_of hF.hci hknk.po
                  have hrow : brow (kstep es m xs n) (fun _ => true) ((gk, gd), gp) (rQ es m xs n (ps, D0) ai) (ki + 1) = bvis (kstep es m xs n) (fun _ => true) ((gk, gd), gp) (brow (kstep es m xs n) (fun _ => true) ((gk, gd), gp) (rQ es m xs n (ps, D0) ai) ki) ki := rfl
                  obtain ⟨bg, og, rfl⟩ := hg.opn (by omega)
                  refine Run.skip ?_
                  refine Run.seq ?_
                  refine Run.block ?_
                  refine Run.seq ?_
                  refine Run.region ?_
                  refine Run.q (v := .pointer (some ⟨bg, og + ki * 2, none⟩)) rfl (OpQ.y (OpY.index (kk := ki) Tsl_33 rfl rfl (by omega) (by omega) (by first | rfl | omega))) ?_
                  refine Run.q (v := .agg #[.int .i64 (ix es (ki * 2)), .int .i64 (ix es (ki * 2 + 1))]) rfl (OpQ.y (OpY.loadN (cs := [.int .i64 (ix es (ki * 2)), .int .i64 (ix es (ki * 2 + 1))]) Tagg_77 rfl (Cells.arg (k := ki * 2) hg rfl (by omega) (pre2 (by omega))))) ?_
                  refine Run.step rfl (OpStep.alloc (zs := [.int .i64 0, .int .i64 0]) Tzero_77 fun b18 => ?_)
                  refine Run.step rfl (OpStep.storeAll (us := [.int .i64 (ix es (ki * 2)), .int .i64 (ix es (ki * 2 + 1))]) Tsize_77 rfl rfl rfl (.here _) rfl ?_)
                  refine Run.done ?_
                  refine Run.seq ?_
                  refine Run.region ?_
                  refine Run.q (v := .agg #[.int .i64 N, .slice (some ⟨bg, og, none⟩) m cg, .int .i64 Q, .slice Ac n cc, .slice gA1 pn gc1, .slice gA2 n gc2, .slice gA3 (((stp es m xs n (ps, D0) L0) gp).length) gc3]) rfl (OpQ.y (OpY.loadN (cs := [.int .i64 N, .slice (some ⟨bg, og, none⟩) m cg, .int .i64 Q, .slice Ac n cc, .slice gA1 pn gc1, .slice gA2 n gc2, .slice gA3 (((stp es m xs n (ps, D0) L0) gp).length) gc3]) Tagg_90 rfl (Cells.blk (.tail _ (.tail _ (.tail _ (.tail _ (.tail _ (.tail _ (List.Mem.head _))))))) ⟨rfl, rfl, rfl, rfl, rfl, rfl, rfl, trivial⟩))) ?_
                  refine Run.q (v := .agg #[.int .i64 (ix es (ki * 2)), .int .i64 (ix es (ki * 2 + 1))]) rfl (OpQ.y (OpY.loadN (cs := [.int .i64 (ix es (ki * 2)), .int .i64 (ix es (ki * 2 + 1))]) Tagg_77 rfl (Cells.blk (.head _) ⟨rfl, rfl, trivial⟩))) ?_
                  refine Run.step rfl (OpStep.call (vs := [.agg #[.int .i64 N, .slice (some ⟨bg, og, none⟩) m cg, .int .i64 Q, .slice Ac n cc, .slice gA1 pn gc1, .slice gA2 n gc2, .slice gA3 (((stp es m xs n (ps, D0) L0) gp).length) gc3], .agg #[.int .i64 (ix es (ki * 2)), .int .i64 (ix es (ki * 2 + 1))]]) (caps := []) Tcall_55 rfl rfl (fun w hs => (by have h := swapped_spec (N := N) (Q := Q) (L := (stp es m xs n (ps, D0) L0) gp) (by omega) hF.hpn.1 (by omega) hkz.dl hF.he hink (by omega) (hs.sl hg) (hs.sl hc) (hs.slGrpR (p := pm pn ((.slice gA1 pn gc1 : Value), (.slice gA2 n gc2 : Value), (.slice gA3 (((stp es m xs n (ps, D0) L0) gp).length) gc3 : Value), ((gk, gd) : RK), gp)) (.tail _ (.tail _ (List.Mem.head _))) (pg_mem hzm2)) (hs.slGrpR (p := dm n ((.slice gA1 pn gc1 : Value), (.slice gA2 n gc2 : Value), (.slice gA3 (((stp es m xs n (ps, D0) L0) gp).length) gc3 : Value), ((gk, gd) : RK), gp)) (.tail _ (.tail _ (.tail _ (List.Mem.head _)))) (dg_mem hzm2)) (hs.slGrpR (p := sm (stp es m xs n (ps, D0) L0) ((.slice gA1 pn gc1 : Value), (.slice gA2 n gc2 : Value), (.slice gA3 (((stp es m xs n (ps, D0) L0) gp).length) gc3 : Value), ((gk, gd) : RK), gp)) (.tail _ (.tail _ (.tail _ (.tail _ (List.Mem.head _))))) (sg_mem hzm2)); rw [hks, hkd, hky] at h; exact h)) ?_)
                  rintro _ _ ⟨xvp, xvd, xvs, rfl, rfl⟩
                  show Run _ _ (putF _ _ _ (.agg #[.int .i64 N, .slice (some ⟨bg, og, none⟩) m cg, .int .i64 Q, .slice Ac n cc, xvp, xvd, xvs])) [.own xvp 3 1 pn (ints ky), .own xvd 4 1 n (bls kd), .own xvs 101 3 (((stp es m xs n (ps, D0) L0) (gp ++ [ki])).length) (ints (fl3 ((stp es m xs n (ps, D0) L0) (gp ++ [ki])))), .blk b18 77 [.int .i64 (ix es (ki * 2)), .int .i64 (ix es (ki * 2 + 1))], .own vq2 90 7 (zs2.length) (rcells N (.slice (some ⟨bg, og, none⟩) m cg) Q (.slice Ac n cc) zs2), .grp 3 1 (pgp pn zs2), .grp 4 1 (dgp n zs2), .grp 101 3 (sgp (stp es m xs n (ps, D0) L0) zs2), .mp bm (setKv (rkq (rk zs2) n)), .blk b17 90 [.int .i64 N, .slice (some ⟨bg, og, none⟩) m cg, .int .i64 Q, .slice Ac n cc, .slice gA1 pn gc1, .slice gA2 n gc2, .slice gA3 (((stp es m xs n (ps, D0) L0) gp).length) gc3], .blk b4 90 [.int .i64 N, .slice (some ⟨bg, og, none⟩) m cg, .int .i64 Q, .slice Ac n cc, .slice A_up01 pn c_up01, vd2, vs2], .blk b3 48 [.slice none 0 0, .slice none 0 0], .blk b2 39 [.int .i64 Q, .slice Ac n cc], .blk b1 35 [.int .i64 N, .slice (some ⟨bg, og, none⟩) m cg]]
                  refine Run.step rfl (OpStep.alloc (zs := [.int .i64 0, .slice none 0 0, .int .i64 0, .slice none 0 0, .slice none 0 0, .slice none 0 0, .slice none 0 0]) Tzero_90 fun b19 => ?_)
                  refine Run.formOwn (.tail _ (List.Mem.head _)) (fun A_xvp1 c_xvp1 hv hcapc_xvp1 hmaxc_xvp1 => ?_) (fun _ _ _ => ⟨nofun, nofun, nofun⟩)
                  subst hv
                  refine Run.formOwn (.tail _ (.tail _ (List.Mem.head _))) (fun A_xvd1 c_xvd1 hv hcapc_xvd1 hmaxc_xvd1 => ?_) (fun _ _ _ => ⟨nofun, nofun, nofun⟩)
                  subst hv
                  refine Run.formOwn (.tail _ (.tail _ (.tail _ (List.Mem.head _)))) (fun A_xvs1 c_xvs1 hv hcapc_xvs1 hmaxc_xvs1 => ?_) (fun _ _ _ => ⟨nofun, nofun, nofun⟩)
                  subst hv
                  refine Run.step rfl (OpStep.storeAll (us := [.int .i64 N, .slice (some ⟨bg, og, none⟩) m cg, .int .i64 Q, .slice Ac n cc, .slice A_xvp1 pn c_xvp1, .slice A_xvd1 n c_xvd1, .slice A_xvs1 (((stp es m xs n (ps, D0) L0) (gp ++ [ki])).length) c_xvs1]) Tsize_90 rfl rfl rfl (.here _) rfl ?_)
                  refine Run.done ?_
                  refine Run.seq ?_
                  refine Run.region ?_
                  refine Run.q (v := .map (some bm)) rfl (OpQ.y (OpY.pure rfl)) ?_
                  refine Run.q (v := .agg #[.int .i64 N, .slice (some ⟨bg, og, none⟩) m cg, .int .i64 Q, .slice Ac n cc, .slice A_xvp1 pn c_xvp1, .slice A_xvd1 n c_xvd1, .slice A_xvs1 (((stp es m xs n (ps, D0) L0) (gp ++ [ki])).length) c_xvs1]) rfl (OpQ.y (OpY.loadN (cs := [.int .i64 N, .slice (some ⟨bg, og, none⟩) m cg, .int .i64 Q, .slice Ac n cc, .slice A_xvp1 pn c_xvp1, .slice A_xvd1 n c_xvd1, .slice A_xvs1 (((stp es m xs n (ps, D0) L0) (gp ++ [ki])).length) c_xvs1]) Tagg_90 rfl (Cells.blk (.head _) ⟨rfl, rfl, rfl, rfl, rfl, rfl, rfl, trivial⟩))) ?_
                  refine Run.q (v := keyP ky kd n) rfl (OpQ.call (vs := [.agg #[.int .i64 N, .slice (some ⟨bg, og, none⟩) m cg, .int .i64 Q, .slice Ac n cc, .slice A_xvp1 pn c_xvp1, .slice A_xvd1 n c_xvd1, .slice A_xvs1 (((stp es m xs n (ps, D0) L0) (gp ++ [ki])).length) c_xvs1]]) (caps := []) Tcall_52 rfl rfl (fun w hs => routeKey_spec (by omega) hF.hpn.1 hF.hpn.2 (hs.slOwn (.tail _ (List.Mem.head _))) (hs.slOwn (.tail _ (.tail _ (List.Mem.head _)))))) ?_
                  refine Run.q (v := .bool (decide ((ky, kd) ∈ (rk zs2).map (·.1)))) rfl (OpQ.y (OpY.lookupSet (key := keyP ky kd n) Tmapof_96 (by kernel_rfl) rk_law rfl rfl (.tail _ (.tail _ (.tail _ (.tail _ (.tail _ (.tail _ (.tail _ (.tail _ (.tail _ (List.Mem.head _)))))))))) (rkq_can hF.hN.2 hF.hn hkall) (keyP_can hknk.pl hF.hn (pl_range hF.hN.2 hknk.po)) (by rw [decide_eq_true_eq]; exact (rkq_mem hF.hpn.2 hkall hknk).symm) (by kernel_rfl))) ?_
                  refine Run.q (v := .bool (!(decide ((ky, kd) ∈ (rk zs2).map (·.1))))) rfl (OpQ.y (OpY.pure rfl)) ?_
                  refine Run.done ?_
                  refine Run.cond (b := !(decide ((ky, kd) ∈ (rk zs2).map (·.1)))) rfl (fun h75 => ?_) (fun h75 => ?_)
                  · have p75 := h75; try simp only [bs] at p75
                    have hnin : (ky, kd) ∉ (rk zs2).map (·.1) := by simpa using p75
                    have hbv : brow (kstep es m xs n) (fun _ => true) ((gk, gd), gp) (rQ es m xs n (ps, D0) ai) (ki + 1) = rk zs2 ++ [((ky, kd), (gp ++ [ki]))] := by
                      rw [hrow, ← hzq2, bvis, if_pos ⟨rfl, by rw [hkk]; exact hnin⟩, hkk]
                    refine Run.weak (H' := [.grp 3 1 (pgp pn (zs2 ++ [((.slice A_xvp1 pn c_xvp1 : Value), (.slice A_xvd1 n c_xvd1 : Value), (.slice A_xvs1 (((stp es m xs n (ps, D0) L0) (gp ++ [ki])).length) c_xvs1 : Value), ((ky, kd) : RK), (gp ++ [ki]))])), .blk b19 90 [.int .i64 N, .slice (some ⟨bg, og, none⟩) m cg, .int .i64 Q, .slice Ac n cc, .slice A_xvp1 pn c_xvp1, .slice A_xvd1 n c_xvd1, .slice A_xvs1 (((stp es m xs n (ps, D0) L0) (gp ++ [ki])).length) c_xvs1], .own (.slice A_xvd1 n c_xvd1) 4 1 n (bls kd), .own (.slice A_xvs1 (((stp es m xs n (ps, D0) L0) (gp ++ [ki])).length) c_xvs1) 101 3 (((stp es m xs n (ps, D0) L0) (gp ++ [ki])).length) (ints (fl3 ((stp es m xs n (ps, D0) L0) (gp ++ [ki])))), .blk b18 77 [.int .i64 (ix es (ki * 2)), .int .i64 (ix es (ki * 2 + 1))], .own vq2 90 7 (zs2.length) (rcells N (.slice (some ⟨bg, og, none⟩) m cg) Q (.slice Ac n cc) zs2), .grp 4 1 (dgp n zs2), .grp 101 3 (sgp (stp es m xs n (ps, D0) L0) zs2), .mp bm (setKv (rkq (rk zs2) n)), .blk b17 90 [.int .i64 N, .slice (some ⟨bg, og, none⟩) m cg, .int .i64 Q, .slice Ac n cc, .slice gA1 pn gc1, .slice gA2 n gc2, .slice gA3 (((stp es m xs n (ps, D0) L0) gp).length) gc3], .blk b4 90 [.int .i64 N, .slice (some ⟨bg, og, none⟩) m cg, .int .i64 Q, .slice Ac n cc, .slice A_up01 pn c_up01, vd2, vs2], .blk b3 48 [.slice none 0 0, .slice none 0 0], .blk b2 39 [.int .i64 Q, .slice Ac n cc], .blk b1 35 [.int .i64 N, .slice (some ⟨bg, og, none⟩) m cg]]) ((Weak.selF [1, 5]).trans (Weak.pgSnoc (zs := zs2) (z := ((.slice A_xvp1 pn c_xvp1 : Value), (.slice A_xvd1 n c_xvd1 : Value), (.slice A_xvs1 (((stp es m xs n (ps, D0) L0) (gp ++ [ki])).length) c_xvs1 : Value), ((ky, kd) : RK), (gp ++ [ki]))))) ?_ ⟨_, _, rfl, fun _ => nofun, fun _ => nofun⟩
                    refine Run.weak (H' := [.grp 4 1 (dgp n (zs2 ++ [((.slice A_xvp1 pn c_xvp1 : Value), (.slice A_xvd1 n c_xvd1 : Value), (.slice A_xvs1 (((stp es m xs n (ps, D0) L0) (gp ++ [ki])).length) c_xvs1 : Value), ((ky, kd) : RK), (gp ++ [ki]))])), .grp 3 1 (pgp pn (zs2 ++ [((.slice A_xvp1 pn c_xvp1 : Value), (.slice A_xvd1 n c_xvd1 : Value), (.slice A_xvs1 (((stp es m xs n (ps, D0) L0) (gp ++ [ki])).length) c_xvs1 : Value), ((ky, kd) : RK), (gp ++ [ki]))])), .blk b19 90 [.int .i64 N, .slice (some ⟨bg, og, none⟩) m cg, .int .i64 Q, .slice Ac n cc, .slice A_xvp1 pn c_xvp1, .slice A_xvd1 n c_xvd1, .slice A_xvs1 (((stp es m xs n (ps, D0) L0) (gp ++ [ki])).length) c_xvs1], .own (.slice A_xvs1 (((stp es m xs n (ps, D0) L0) (gp ++ [ki])).length) c_xvs1) 101 3 (((stp es m xs n (ps, D0) L0) (gp ++ [ki])).length) (ints (fl3 ((stp es m xs n (ps, D0) L0) (gp ++ [ki])))), .blk b18 77 [.int .i64 (ix es (ki * 2)), .int .i64 (ix es (ki * 2 + 1))], .own vq2 90 7 (zs2.length) (rcells N (.slice (some ⟨bg, og, none⟩) m cg) Q (.slice Ac n cc) zs2), .grp 101 3 (sgp (stp es m xs n (ps, D0) L0) zs2), .mp bm (setKv (rkq (rk zs2) n)), .blk b17 90 [.int .i64 N, .slice (some ⟨bg, og, none⟩) m cg, .int .i64 Q, .slice Ac n cc, .slice gA1 pn gc1, .slice gA2 n gc2, .slice gA3 (((stp es m xs n (ps, D0) L0) gp).length) gc3], .blk b4 90 [.int .i64 N, .slice (some ⟨bg, og, none⟩) m cg, .int .i64 Q, .slice Ac n cc, .slice A_up01 pn c_up01, vd2, vs2], .blk b3 48 [.slice none 0 0, .slice none 0 0], .blk b2 39 [.int .i64 Q, .slice Ac n cc], .blk b1 35 [.int .i64 N, .slice (some ⟨bg, og, none⟩) m cg]]) ((Weak.selF [2, 5]).trans (Weak.dgSnoc (zs := zs2) (z := ((.slice A_xvp1 pn c_xvp1 : Value), (.slice A_xvd1 n c_xvd1 : Value), (.slice A_xvs1 (((stp es m xs n (ps, D0) L0) (gp ++ [ki])).length) c_xvs1 : Value), ((ky, kd) : RK), (gp ++ [ki]))))) ?_ ⟨_, _, rfl, fun _ => nofun, fun _ => nofun⟩
                    refine Run.weak (H' := [.grp 101 3 (sgp (stp es m xs n (ps, D0) L0) (zs2 ++ [((.slice A_xvp1 pn c_xvp1 : Value), (.slice A_xvd1 n c_xvd1 : Value), (.slice A_xvs1 (((stp es m xs n (ps, D0) L0) (gp ++ [ki])).length) c_xvs1 : Value), ((ky, kd) : RK), (gp ++ [ki]))])), .grp 4 1 (dgp n (zs2 ++ [((.slice A_xvp1 pn c_xvp1 : Value), (.slice A_xvd1 n c_xvd1 : Value), (.slice A_xvs1 (((stp es m xs n (ps, D0) L0) (gp ++ [ki])).length) c_xvs1 : Value), ((ky, kd) : RK), (gp ++ [ki]))])), .grp 3 1 (pgp pn (zs2 ++ [((.slice A_xvp1 pn c_xvp1 : Value), (.slice A_xvd1 n c_xvd1 : Value), (.slice A_xvs1 (((stp es m xs n (ps, D0) L0) (gp ++ [ki])).length) c_xvs1 : Value), ((ky, kd) : RK), (gp ++ [ki]))])), .blk b19 90 [.int .i64 N, .slice (some ⟨bg, og, none⟩) m cg, .int .i64 Q, .slice Ac n cc, .slice A_xvp1 pn c_xvp1, .slice A_xvd1 n c_xvd1, .slice A_xvs1 (((stp es m xs n (ps, D0) L0) (gp ++ [ki])).length) c_xvs1], .blk b18 77 [.int .i64 (ix es (ki * 2)), .int .i64 (ix es (ki * 2 + 1))], .own vq2 90 7 (zs2.length) (rcells N (.slice (some ⟨bg, og, none⟩) m cg) Q (.slice Ac n cc) zs2), .mp bm (setKv (rkq (rk zs2) n)), .blk b17 90 [.int .i64 N, .slice (some ⟨bg, og, none⟩) m cg, .int .i64 Q, .slice Ac n cc, .slice gA1 pn gc1, .slice gA2 n gc2, .slice gA3 (((stp es m xs n (ps, D0) L0) gp).length) gc3], .blk b4 90 [.int .i64 N, .slice (some ⟨bg, og, none⟩) m cg, .int .i64 Q, .slice Ac n cc, .slice A_up01 pn c_up01, vd2, vs2], .blk b3 48 [.slice none 0 0, .slice none 0 0], .blk b2 39 [.int .i64 Q, .slice Ac n cc], .blk b1 35 [.int .i64 N, .slice (some ⟨bg, og, none⟩) m cg]]) ((Weak.selF [3, 5]).trans (Weak.sgSnoc (S := (stp es m xs n (ps, D0) L0)) (zs := zs2) (z := ((.slice A_xvp1 pn c_xvp1 : Value), (.slice A_xvd1 n c_xvd1 : Value), (.slice A_xvs1 (((stp es m xs n (ps, D0) L0) (gp ++ [ki])).length) c_xvs1 : Value), ((ky, kd) : RK), (gp ++ [ki]))))) ?_ ⟨_, _, rfl, fun _ => nofun, fun _ => nofun⟩
                    refine Run.seq ?_
                    refine Run.region ?_
                    refine Run.q (v := .map (some bm)) rfl (OpQ.y (OpY.pure rfl)) ?_
                    refine Run.q (v := .agg #[.int .i64 N, .slice (some ⟨bg, og, none⟩) m cg, .int .i64 Q, .slice Ac n cc, .slice A_xvp1 pn c_xvp1, .slice A_xvd1 n c_xvd1, .slice A_xvs1 (((stp es m xs n (ps, D0) L0) (gp ++ [ki])).length) c_xvs1]) rfl (OpQ.y (OpY.loadN (cs := [.int .i64 N, .slice (some ⟨bg, og, none⟩) m cg, .int .i64 Q, .slice Ac n cc, .slice A_xvp1 pn c_xvp1, .slice A_xvd1 n c_xvd1, .slice A_xvs1 (((stp es m xs n (ps, D0) L0) (gp ++ [ki])).length) c_xvs1]) Tagg_90 rfl (Cells.blk (.tail _ (.tail _ (.tail _ (List.Mem.head _)))) ⟨rfl, rfl, rfl, rfl, rfl, rfl, rfl, trivial⟩))) ?_
                    refine Run.q (v := keyP ky kd n) rfl (OpQ.call (vs := [.agg #[.int .i64 N, .slice (some ⟨bg, og, none⟩) m cg, .int .i64 Q, .slice Ac n cc, .slice A_xvp1 pn c_xvp1, .slice A_xvd1 n c_xvd1, .slice A_xvs1 (((stp es m xs n (ps, D0) L0) (gp ++ [ki])).length) c_xvs1]]) (caps := []) Tcall_52 rfl rfl (fun w hs => routeKey_spec (by omega) hF.hpn.1 hF.hpn.2 (hs.slGrpR (p := pm pn ((.slice A_xvp1 pn c_xvp1 : Value), (.slice A_xvd1 n c_xvd1 : Value), (.slice A_xvs1 (((stp es m xs n (ps, D0) L0) (gp ++ [ki])).length) c_xvs1 : Value), ((ky, kd) : RK), (gp ++ [ki]))) (.tail _ (.tail _ (List.Mem.head _))) (pg_mem (List.mem_append.2 (.inr (.head _))))) (hs.slGrpR (p := dm n ((.slice A_xvp1 pn c_xvp1 : Value), (.slice A_xvd1 n c_xvd1 : Value), (.slice A_xvs1 (((stp es m xs n (ps, D0) L0) (gp ++ [ki])).length) c_xvs1 : Value), ((ky, kd) : RK), (gp ++ [ki]))) (.tail _ (List.Mem.head _)) (dg_mem (List.mem_append.2 (.inr (.head _))))))) ?_
                    refine Run.step rfl (OpStep.insertSet (ks := rkq (rk zs2) n) (key := keyP ky kd n) Tmapof_96 rk_law rfl rfl rfl (by rw [show (rkq (rk zs2) n) ++ [keyP ky kd n] = rkq (rk (zs2 ++ [((.slice A_xvp1 pn c_xvp1 : Value), (.slice A_xvd1 n c_xvd1 : Value), (.slice A_xvs1 (((stp es m xs n (ps, D0) L0) (gp ++ [ki])).length) c_xvs1 : Value), ((ky, kd) : RK), (gp ++ [ki]))])) n from by simp [rkq, rk]]; exact (.there _ (.there _ (.there _ (.there _ (.there _ (.there _ (.here _)))))))) (rkq_can hF.hN.2 hF.hn hkall) (keyP_can hknk.pl hF.hn (pl_range hF.hN.2 hknk.po)) (fun h => hnin ((rkq_mem hF.hpn.2 hkall hknk).1 h)) ?_)
                    refine Run.done ?_
                    refine Run.region ?_
                    refine Run.q (v := vq2) rfl (OpQ.y (OpY.pure rfl)) ?_
                    refine Run.q (v := .agg #[.int .i64 N, .slice (some ⟨bg, og, none⟩) m cg, .int .i64 Q, .slice Ac n cc, .slice A_xvp1 pn c_xvp1, .slice A_xvd1 n c_xvd1, .slice A_xvs1 (((stp es m xs n (ps, D0) L0) (gp ++ [ki])).length) c_xvs1]) rfl (OpQ.y (OpY.loadN (cs := [.int .i64 N, .slice (some ⟨bg, og, none⟩) m cg, .int .i64 Q, .slice Ac n cc, .slice A_xvp1 pn c_xvp1, .slice A_xvd1 n c_xvd1, .slice A_xvs1 (((stp es m xs n (ps, D0) L0) (gp ++ [ki])).length) c_xvs1]) Tagg_90 rfl (Cells.blk (.tail _ (.tail _ (.tail _ (List.Mem.head _)))) ⟨rfl, rfl, rfl, rfl, rfl, rfl, rfl, trivial⟩))) ?_
                    refine Run.step rfl (OpStep.buildSlice (us := [.int .i64 N, .slice (some ⟨bg, og, none⟩) m cg, .int .i64 Q, .slice Ac n cc, .slice A_xvp1 pn c_xvp1, .slice A_xvd1 n c_xvd1, .slice A_xvs1 (((stp es m xs n (ps, D0) L0) (gp ++ [ki])).length) c_xvs1]) Tsl_97 (by decide) (by decide) ⟨rfl, [.int .i64 N, .slice (some ⟨bg, og, none⟩) m cg, .int .i64 Q, .slice Ac n cc, .slice A_xvp1 pn c_xvp1, .slice A_xvd1 n c_xvd1, .slice A_xvs1 (((stp es m xs n (ps, D0) L0) (gp ++ [ki])).length) c_xvs1], _, rfl, rfl, rfl, rfl⟩ rfl fun b20 => ?_)
                    refine Run.step rfl (OpStep.append (H1 := [.own (.slice (some ⟨b20, 0, none⟩) 1 1) 90 7 1 ([.int .i64 N, .slice (some ⟨bg, og, none⟩) m cg, .int .i64 Q, .slice Ac n cc, .slice A_xvp1 pn c_xvp1, .slice A_xvd1 n c_xvd1, .slice A_xvs1 (((stp es m xs n (ps, D0) L0) (gp ++ [ki])).length) c_xvs1]), .grp 101 3 (sgp (stp es m xs n (ps, D0) L0) (zs2 ++ [((.slice A_xvp1 pn c_xvp1 : Value), (.slice A_xvd1 n c_xvd1 : Value), (.slice A_xvs1 (((stp es m xs n (ps, D0) L0) (gp ++ [ki])).length) c_xvs1 : Value), ((ky, kd) : RK), (gp ++ [ki]))])), .grp 4 1 (dgp n (zs2 ++ [((.slice A_xvp1 pn c_xvp1 : Value), (.slice A_xvd1 n c_xvd1 : Value), (.slice A_xvs1 (((stp es m xs n (ps, D0) L0) (gp ++ [ki])).length) c_xvs1 : Value), ((ky, kd) : RK), (gp ++ [ki]))])), .grp 3 1 (pgp pn (zs2 ++ [((.slice A_xvp1 pn c_xvp1 : Value), (.slice A_xvd1 n c_xvd1 : Value), (.slice A_xvs1 (((stp es m xs n (ps, D0) L0) (gp ++ [ki])).length) c_xvs1 : Value), ((ky, kd) : RK), (gp ++ [ki]))])), .blk b19 90 [.int .i64 N, .slice (some ⟨bg, og, none⟩) m cg, .int .i64 Q, .slice Ac n cc, .slice A_xvp1 pn c_xvp1, .slice A_xvd1 n c_xvd1, .slice A_xvs1 (((stp es m xs n (ps, D0) L0) (gp ++ [ki])).length) c_xvs1], .blk b18 77 [.int .i64 (ix es (ki * 2)), .int .i64 (ix es (ki * 2 + 1))]]) (H2 := [.mp bm (setKv (rkq (rk (zs2 ++ [((.slice A_xvp1 pn c_xvp1 : Value), (.slice A_xvd1 n c_xvd1 : Value), (.slice A_xvs1 (((stp es m xs n (ps, D0) L0) (gp ++ [ki])).length) c_xvs1 : Value), ((ky, kd) : RK), (gp ++ [ki]))])) n)), .blk b17 90 [.int .i64 N, .slice (some ⟨bg, og, none⟩) m cg, .int .i64 Q, .slice Ac n cc, .slice gA1 pn gc1, .slice gA2 n gc2, .slice gA3 (((stp es m xs n (ps, D0) L0) gp).length) gc3], .blk b4 90 [.int .i64 N, .slice (some ⟨bg, og, none⟩) m cg, .int .i64 Q, .slice Ac n cc, .slice A_up01 pn c_up01, vd2, vs2], .blk b3 48 [.slice none 0 0, .slice none 0 0], .blk b2 39 [.int .i64 Q, .slice Ac n cc], .blk b1 35 [.int .i64 N, .slice (some ⟨bg, og, none⟩) m cg]]) (v := vq2) (u := .slice (some ⟨b20, 0, none⟩) 1 1) (n := zs2.length) (m := 1) (xs := rcells N (.slice (some ⟨bg, og, none⟩) m cg) Q (.slice Ac n cc) zs2) (ys := [.int .i64 N, .slice (some ⟨bg, og, none⟩) m cg, .int .i64 Q, .slice Ac n cc, .slice A_xvp1 pn c_xvp1, .slice A_xvd1 n c_xvd1, .slice A_xvs1 (((stp es m xs n (ps, D0) L0) (gp ++ [ki])).length) c_xvs1]) Tsl_97 (by decide) rfl rfl rfl rfl (fun w hs => hs.slOwn (.head _)) (by simp [Value.oneCell', rcell]) (by omega) (by simp only [maxLen]; omega) fun av1 hnav1 => ?_)
                    refine Run.weak (H' := [.own (.slice (some ⟨b20, 0, none⟩) 1 1) 90 7 1 ([.int .i64 N, .slice (some ⟨bg, og, none⟩) m cg, .int .i64 Q, .slice Ac n cc, .slice A_xvp1 pn c_xvp1, .slice A_xvd1 n c_xvd1, .slice A_xvs1 (((stp es m xs n (ps, D0) L0) (gp ++ [ki])).length) c_xvs1]), .grp 101 3 (sgp (stp es m xs n (ps, D0) L0) (zs2 ++ [((.slice A_xvp1 pn c_xvp1 : Value), (.slice A_xvd1 n c_xvd1 : Value), (.slice A_xvs1 (((stp es m xs n (ps, D0) L0) (gp ++ [ki])).length) c_xvs1 : Value), ((ky, kd) : RK), (gp ++ [ki]))])), .grp 4 1 (dgp n (zs2 ++ [((.slice A_xvp1 pn c_xvp1 : Value), (.slice A_xvd1 n c_xvd1 : Value), (.slice A_xvs1 (((stp es m xs n (ps, D0) L0) (gp ++ [ki])).length) c_xvs1 : Value), ((ky, kd) : RK), (gp ++ [ki]))])), .grp 3 1 (pgp pn (zs2 ++ [((.slice A_xvp1 pn c_xvp1 : Value), (.slice A_xvd1 n c_xvd1 : Value), (.slice A_xvs1 (((stp es m xs n (ps, D0) L0) (gp ++ [ki])).length) c_xvs1 : Value), ((ky, kd) : RK), (gp ++ [ki]))])), .blk b19 90 [.int .i64 N, .slice (some ⟨bg, og, none⟩) m cg, .int .i64 Q, .slice Ac n cc, .slice A_xvp1 pn c_xvp1, .slice A_xvd1 n c_xvd1, .slice A_xvs1 (((stp es m xs n (ps, D0) L0) (gp ++ [ki])).length) c_xvs1], .blk b18 77 [.int .i64 (ix es (ki * 2)), .int .i64 (ix es (ki * 2 + 1))], .own av1 90 7 ((zs2 ++ [((.slice A_xvp1 pn c_xvp1 : Value), (.slice A_xvd1 n c_xvd1 : Value), (.slice A_xvs1 (((stp es m xs n (ps, D0) L0) (gp ++ [ki])).length) c_xvs1 : Value), ((ky, kd) : RK), (gp ++ [ki]))]).length) (rcells N (.slice (some ⟨bg, og, none⟩) m cg) Q (.slice Ac n cc) ((zs2 ++ [((.slice A_xvp1 pn c_xvp1 : Value), (.slice A_xvd1 n c_xvd1 : Value), (.slice A_xvs1 (((stp es m xs n (ps, D0) L0) (gp ++ [ki])).length) c_xvs1 : Value), ((ky, kd) : RK), (gp ++ [ki]))]))), .mp bm (setKv (rkq (rk (zs2 ++ [((.slice A_xvp1 pn c_xvp1 : Value), (.slice A_xvd1 n c_xvd1 : Value), (.slice A_xvs1 (((stp es m xs n (ps, D0) L0) (gp ++ [ki])).length) c_xvs1 : Value), ((ky, kd) : RK), (gp ++ [ki]))])) n)), .blk b17 90 [.int .i64 N, .slice (some ⟨bg, og, none⟩) m cg, .int .i64 Q, .slice Ac n cc, .slice gA1 pn gc1, .slice gA2 n gc2, .slice gA3 (((stp es m xs n (ps, D0) L0) gp).length) gc3], .blk b4 90 [.int .i64 N, .slice (some ⟨bg, og, none⟩) m cg, .int .i64 Q, .slice Ac n cc, .slice A_up01 pn c_up01, vd2, vs2], .blk b3 48 [.slice none 0 0, .slice none 0 0], .blk b2 39 [.int .i64 Q, .slice Ac n cc], .blk b1 35 [.int .i64 N, .slice (some ⟨bg, og, none⟩) m cg]]) (Some'.weak (.take (.take (.take (.take (.take (.take (.takeEq (by rw [rcells_snoc]; exact congrArg (fun k => Res.own _ _ _ k _) (by simp)) (.take (.take (.take (.take (.take (.take (.nil _))))))))))))))) ?_ ⟨_, _, rfl, fun _ => nofun, fun _ => nofun⟩
                    refine Run.q (v := av1) rfl (OpQ.y (OpY.pure rfl)) ?_
                    refine Run.done ?_
                    refine Run.blockEnd ?_
                    refine Run.region ?_
                    refine Run.q (v := .int .i64 ((((ki : Nat) : Int)) + 1)) rfl (OpQ.y (OpY.add rfl rfl rfl (by omega) (by omega))) ?_
                    refine Run.q (v := .int .i64 ((((ki : Nat) : Int)) + 1)) rfl (OpQ.y (OpY.pure rfl)) ?_
                    refine Run.done ?_
                    refine Run.goal ⟨(by repeat (first | exact Same.refl _ _ | refine Same.put rfl ?_ | refine Same.over rfl rfl ?_)), (ki + 1, av1, (zs2 ++ [((.slice A_xvp1 pn c_xvp1 : Value), (.slice A_xvd1 n c_xvd1 : Value), (.slice A_xvs1 (((stp es m xs n (ps, D0) L0) (gp ++ [ki])).length) c_xvs1 : Value), ((ky, kd) : RK), (gp ++ [ki]))])), ?_, ?_, ?_, ?_⟩
                    · first | exact ⟨hki, hbv.symm, tz, htz⟩ | exact ⟨hki, by rw [hbv]; simp [rk], tz ++ [_], by rw [htz, List.append_assoc]⟩
                    · show m - (ki + 1) < m - ki; omega
                    · exact ⟨(by first | rfl | (congr 1; omega) | simp), (by first | rfl | (congr 1; omega) | simp), trivial⟩
                    · exact ((Weak.selF [6, 3, 2, 1, 3, 3, 3, 3, 3, 3]).trans (Some'.weak (.takeEq (by first | rfl | simp [rk]) (.takeEq (by first | rfl | simp [rk]) (.takeEq (by first | rfl | simp [rk]) (.takeEq (by first | rfl | simp [rk]) (.takeEq (by first | rfl | simp [rk]) (.takeEq (by first | rfl | simp [rk]) (.takeEq (by first | rfl | simp [rk]) (.take (.take (.takeEq (by first | rfl | simp [rk]) (.nil _)))))))))))))
                  · have p75 := h75; try simp only [bs] at p75
                    have hyin : (ky, kd) ∈ (rk zs2).map (·.1) := by simpa using p75
                    have hbv : brow (kstep es m xs n) (fun _ => true) ((gk, gd), gp) (rQ es m xs n (ps, D0) ai) (ki + 1) = rk zs2 := by
                      rw [hrow, ← hzq2, bvis, if_neg (fun h => h.2 (by rw [hkk]; exact hyin))]
                    refine Run.skip ?_
                    refine Run.blockEnd ?_
                    refine Run.region ?_
                    refine Run.q (v := .int .i64 ((((ki : Nat) : Int)) + 1)) rfl (OpQ.y (OpY.add rfl rfl rfl (by omega) (by omega))) ?_
                    refine Run.q (v := .int .i64 ((((ki : Nat) : Int)) + 1)) rfl (OpQ.y (OpY.pure rfl)) ?_
                    refine Run.done ?_
                    refine Run.goal ⟨(by repeat (first | exact Same.refl _ _ | refine Same.put rfl ?_ | refine Same.over rfl rfl ?_)), (ki + 1, vq2, zs2), ?_, ?_, ?_, ?_⟩
                    · first | exact ⟨hki, hbv.symm, tz, htz⟩ | exact ⟨hki, by rw [hbv]; simp [rk], tz ++ [_], by rw [htz, List.append_assoc]⟩
                    · show m - (ki + 1) < m - ki; omega
                    · exact ⟨(by first | rfl | (congr 1; omega) | simp), (by first | rfl | (congr 1; omega) | simp), trivial⟩
                    · exact ((Weak.selF [5, 5, 5, 5, 5, 5, 5, 5, 5, 5]).trans (Some'.weak (.takeEq (by first | rfl | simp [rk]) (.takeEq (by first | rfl | simp [rk]) (.takeEq (by first | rfl | simp [rk]) (.takeEq (by first | rfl | simp [rk]) (.takeEq (by first | rfl | simp [rk]) (.takeEq (by first | rfl | simp [rk]) (.takeEq (by first | rfl | simp [rk]) (.take (.take (.takeEq (by first | rfl | simp [rk]) (.nil _)))))))))))))
                · have p65 := h65; try simp only [bs] at p65
                  have hkn : ki = m := by omega
                  obtain ⟨_, hzq2, ⟨tz, htz⟩⟩ := hinv
                  have hQ1 : rk zs2 = rQ es m xs n (ps, D0) (ai + 1) := by rw [hzq2, hkn]; exact (bfs_succ hzx).symm
                  refine Run.exit rfl ?_
                  refine Run.blockEnd ?_
                  refine Run.region ?_
                  refine Run.q (v := .int .i64 (((ai : Nat) : Int))) rfl (OpQ.y (OpY.pure rfl)) ?_
                  refine Run.q (v := .int .i64 ((((ai : Nat) : Int)) + 1)) rfl (OpQ.y (OpY.add rfl rfl rfl (by omega) (by omega))) ?_
                  refine Run.q (v := .int .i64 ((((ai : Nat) : Int)) + 1)) rfl (OpQ.y (OpY.pure rfl)) ?_
                  refine Run.done ?_
                  refine Run.goal ⟨(by repeat (first | exact Same.refl _ _ | refine Same.put rfl ?_ | refine Same.over rfl rfl ?_)), (ai + 1, vq2, zs2), ?_, ?_, ?_, ?_⟩
                  · refine ⟨by omega, hQ1, fun j hj z hzj => ?_⟩
                    by_cases hja : j = ai
                    · subst hja
                      rw [htz, List.getElem?_append_left hai, hz] at hzj
                      cases hzj; exact hnall
                    · rw [htz, List.getElem?_append_left (by omega)] at hzj
                      exact hzn j (by omega) z hzj
                  · show 12800001 - (ai + 1) < 12800001 - ai; omega
                  · exact ⟨(by first | rfl | (congr 1; omega) | simp), (by first | rfl | (congr 1; omega) | simp), trivial⟩
                  · exact ((Weak.selF [0, 0, 0, 0, 0, 1, 1, 1, 1]).trans (Some'.weak (.takeEq (by first | rfl | simp) (.takeEq (by first | rfl | simp) (.takeEq (by first | rfl | simp) (.takeEq (by first | rfl | simp) (.takeEq (by first | rfl | simp) (.take (.take (.take (.take (.nil _))))))))))))
          · have p44 := h44; try simp only [bs] at p44
            obtain ⟨hzq, hzn⟩ := hinv
            have hzM : zs.length ≤ 12800000 := by have h := rQ_small hF.hN.2 hF.hpn.2 hF.hc hF.he hK0 ai; rw [← hzq, rk, List.length_map] at h; exact h
            have hno := rt_no (M := M) (N := N) (es := es) (m := m) (Q := Q) (xs := xs) (n := n) (ps := ps) (pn := pn) (.inr (by
              rw [hS0]
              exact rtP_none (i := ai) (by omega) (by rw [← hzq, rk, List.length_map]; omega) fun j hj y hy => by
                rw [← hzq, rk, List.getElem?_map] at hy
                cases hzj : zs[j]? with
                | none => rw [hzj] at hy; cases hy
                | some z => rw [hzj] at hy; cases hy; exact hzn j hj z hzj))
            refine Run.exit rfl ?_
            refine Run.seq ?_
            refine Run.region ?_
            refine Run.q (v := .agg #[.slice none 0 0, .slice none 0 0]) rfl (OpQ.y (OpY.build (cs := [.slice none 0 0, .slice none 0 0]) (by kernel_rfl))) ?_
            refine Run.step rfl (OpStep.storeAll (us := [.slice none 0 0, .slice none 0 0]) Tsize_48 rfl rfl rfl (.there _ (.there _ (.there _ (.there _ (.there _ (.there _ (.here _))))))) rfl ?_)
            refine Run.q (v := .bool false) rfl (OpQ.y (OpY.pure rfl)) ?_
            refine Run.done ?_
            refine Run.ret ?_
            refine ⟨.tuple #[.agg #[.slice none 0 0, .slice none 0 0], .bool false], [.own (.slice none 0 0) 3 1 0 ([]), .own (.slice none 0 0) 101 3 0 ([])], Out.cell2 (cs := [.slice none 0 0, .slice none 0 0]) rfl Tagg_48 rfl (Cells.blk (.tail _ (.tail _ (.tail _ (.tail _ (.tail _ (.tail _ (List.Mem.head _))))))) ⟨rfl, rfl, trivial⟩) rfl, ((Weak.nilOwn 101 3).trans ((Weak.nilOwn 3 1).trans (Some'.weak (.take (.take (.nil _)))))), ?_⟩
            exact ⟨_, _, by rw [hno.1], by rw [hno.2.1, hno.2.2]; rfl⟩

end Go.Proofs.Ytekikmdjldincaa
