/- Walks: gates that meet, gates that are ready. -/
import Derived.Test.YtekikmdjldincaaBoo
import Derived.Test.YtekikmdjldincaaGq
import Derived.Test.YtekikmdjldincaaTd
import Derived.Test.YtekikmdjldincaaProg
set_option linter.unusedSimpArgs false
set_option linter.unusedVariables false
namespace Go.Proofs.Ytekikmdjldincaa
open Go Go.RowKit
namespace LsaT
theorem Tagg_81 : aggOf Try.prog 81 = some 3 := by kernel_rfl
theorem Tcall_100 : callable Try.prog 100 = true := by kernel_rfl
theorem Tcall_103 : callable Try.prog 103 = true := by kernel_rfl
theorem Tcall_61 : callable Try.prog 61 = true := by kernel_rfl
theorem Tcall_62 : callable Try.prog 62 = true := by kernel_rfl
theorem Tcall_72 : callable Try.prog 72 = true := by kernel_rfl
theorem Tcall_73 : callable Try.prog 73 = true := by kernel_rfl
theorem Tcall_89 : callable Try.prog 89 = true := by kernel_rfl
theorem Tcall_92 : callable Try.prog 92 = true := by kernel_rfl
theorem Tcall_98 : callable Try.prog 98 = true := by kernel_rfl
theorem Tcall_99 : callable Try.prog 99 = true := by kernel_rfl
theorem Tfo_39_1 : fieldOff Try.prog 39 1 = some 1 := by kernel_rfl
theorem Tfo_87_1 : fieldOff Try.prog 87 1 = some 2 := by kernel_rfl
theorem Tfo_87_3 : fieldOff Try.prog 87 3 = some 5 := by kernel_rfl
theorem Tone_3 : oneOf Try.prog 3 = true := by kernel_rfl
theorem Tone_37 : oneOf Try.prog 37 = true := by kernel_rfl
theorem Tone_4 : oneOf Try.prog 4 = true := by kernel_rfl
theorem Tone_85 : oneOf Try.prog 85 = true := by kernel_rfl
theorem Tsize_81 : (Try.prog.info? 81).map (·.size) = some 3 := by kernel_rfl
theorem Tsl_28 : sliceOf Try.prog 28 = some (3, 1, 8, [.int .i64 0]) := by kernel_rfl
theorem Tsl_37 : sliceOf Try.prog 37 = some (81, 3, 24, [.int .i64 0, .int .i64 0, .int .i64 0]) := by kernel_rfl
theorem Tsl_85 : sliceOf Try.prog 85 = some (4, 1, 1, [.bool false]) := by kernel_rfl
theorem Tzero_81 : zeroOf Try.prog 81 = some [.int .i64 0, .int .i64 0, .int .i64 0] := by kernel_rfl
end LsaT
open LsaT

theorem common_any (Q R : List Int) : anyI (fun i => R.contains (ix Q i)) Q.length = common Q R := by
  cases hb : anyI (fun i => R.contains (ix Q i)) Q.length with
  | true =>
    obtain ⟨i, hi, h⟩ := anyI_iff.1 hb
    exact (common_true hi h).symm
  | false =>
    refine (common_false fun i hi => ?_).symm
    cases hc : R.contains (ix Q i) with
    | false => rfl
    | true => rw [anyI_true hi hc] at hb; cases hb
/-- Gate i is not done, and no gate before it that is not done meets it. -/
def rdy (xs : List Int) (ds : List Bool) (i : Nat) : Bool := !bx ds i && !anyI (fun j => !bx ds j && common (gq xs j) (gq xs i)) i
theorem rdy_done {xs : List Int} {ds : List Bool} {i : Nat} (h : bx ds i = true) : rdy xs ds i = false := by rw [rdy, h]; rfl
theorem rdy_bad {xs : List Int} {ds : List Bool} {i j : Nat} (hj : j < i) (h : (!bx ds j && common (gq xs j) (gq xs i)) = true) : rdy xs ds i = false := by rw [rdy, anyI_true hj h]; simp
theorem rdy_good {xs : List Int} {ds : List Bool} {i : Nat} (h0 : bx ds i = false) (h : ∀ j, j < i → (!bx ds j && common (gq xs j) (gq xs i)) = false) : rdy xs ds i = true := by rw [rdy, h0, anyI_false h]; rfl

set_option maxHeartbeats 1000000 in
set_option maxRecDepth 20000 in
theorem meetClo_spec {kd ka kb x : Int} {p : Nat} {w : World} (hc : Sl w (.slice (some ⟨p, 0, none⟩) 1 1) 3 1 [.int .i64 kd, .int .i64 ka, .int .i64 kb]) : Calls Try.prog 100 #[.int .i64 x, .pointer (some ⟨p, 0, none⟩)] w (Post No w fun v _ => v = .bool ((qs kd ka kb).contains x)) := by
  refine enter (n := 8) (args := [.int .i64 x, .pointer (some ⟨p, 0, none⟩)]) Try.func100 rfl rfl (St.empty _ _) ?_
  refine Run.seq ?_
  refine Run.region ?_
  refine Run.q (v := .bool false) rfl (OpQ.y (OpY.pure rfl)) ?_
  refine Run.done ?_
  refine Run.seq ?_
  refine Run.region ?_
  refine Run.q (v := .agg #[.int .i64 kd, .int .i64 ka, .int .i64 kb]) rfl (OpQ.y (OpY.loadN (cs := [.int .i64 kd, .int .i64 ka, .int .i64 kb]) Tagg_81 rfl (Cells.env (k := 0) hc rfl (by decide) ⟨rfl, rfl, rfl, trivial⟩))) ?_
  refine Run.step rfl (OpStep.call (vs := [.agg #[.int .i64 kd, .int .i64 ka, .int .i64 kb]]) (caps := []) Tcall_99 rfl rfl (fun w hs => qubitsOf_spec _ _ _ w) ?_)
  rintro u1 _ rfl
  show Run _ _ (putF _ _ _ u1) [.own u1 3 1 ((qs kd ka kb).length) (ints (qs kd ka kb))]
  refine Run.q (v := .int .i64 x) rfl (OpQ.y (OpY.pure rfl)) ?_
  refine Run.q (v := .bool ((qs kd ka kb).contains x)) rfl (OpQ.call (vs := [u1, .int .i64 x]) (caps := []) Tcall_72 rfl rfl (fun w hs => (by have h := ContainsInt_spec (x := x) (hs.slOwn (.head _)); rw [hasI_contains] at h; exact h))) ?_
  refine Run.q (v := .bool ((qs kd ka kb).contains x)) rfl (OpQ.y (OpY.pure rfl)) ?_
  refine Run.done ?_
  refine Run.ret ?_
  refine ⟨.bool ((qs kd ka kb).contains x), [], Out.one rfl rfl, (Some'.weak (.nil _)), ?_⟩
  rfl

set_option maxHeartbeats 1000000 in
set_option maxRecDepth 20000 in
theorem IndexFuncMeet_spec {kd ka kb : Int} {p : Nat} {va : Value} {n : Nat} {xs : List Int} {w : World} (ha : Sl w va 1 n (ints xs)) (hc : Sl w (.slice (some ⟨p, 0, none⟩) 1 1) 3 1 [.int .i64 kd, .int .i64 ka, .int .i64 kb]) : Calls Try.prog 103 #[va, .func (.func 100) #[] #[.pointer (some ⟨p, 0, none⟩)]] w (Post No w fun v _ => v = .int .i64 (findI (fun i => (qs kd ka kb).contains (ix xs i)) n)) := by
  have hxl := ha.len
  have hn := ha.le
  obtain ⟨A, c, rfl, _, _⟩ := ha.form0
  refine enter (n := 19) (args := [.slice A n c, .func (.func 100) #[] #[.pointer (some ⟨p, 0, none⟩)]]) Try.func103 rfl rfl (St.empty _ _) ?_
  refine Run.seq ?_
  refine Run.region ?_
  refine Run.q (v := .int .i64 0) rfl (OpQ.y (OpY.pure rfl)) ?_
  refine Run.done ?_
  refine Run.seq ?_
  refine Run.seq ?_
  refine Run.region ?_
  refine Run.q (v := .slice A n c) rfl (OpQ.y (OpY.pure rfl)) ?_
  refine Run.q (v := .int .i64 (((n : Nat) : Int))) rfl (OpQ.y (OpY.len Tsl_28 rfl)) ?_
  refine Run.q (v := .int .i64 0) rfl (OpQ.y (OpY.pure rfl)) ?_
  refine Run.done ?_
  refine Run.block ?_
  refine Run.loop (ι := Nat) [4, 5, 8, 9, 10, 11, 12, 13, 14, 15, 16, 17, 18] (fun k => [(8, .int .i64 (((k : Nat) : Int)))]) (fun k => []) (fun k => k ≤ n ∧ (∀ i, i < k → ((qs kd ka kb).contains (ix xs i)) = false)) (fun k => n - k) 0 ?_ ?_ ?_ ?_
  · exact ⟨Nat.zero_le _, by first | trivial | (intro i hi; omega)⟩
  · exact ⟨rfl, trivial⟩
  · exact (Some'.weak (.nil _))
  · rintro k fr hinv
    show Run _ _ (over _ _ [(8, .int .i64 (((k : Nat) : Int)))] fr) []
    try dsimp only at hinv
    refine Run.seq ?_
    refine Run.region ?_
    refine Run.q (v := .bool (decide ((((k : Nat) : Int)) < (((n : Nat) : Int))))) rfl (OpQ.y (OpY.pure rfl)) ?_
    refine Run.done ?_
    refine Run.seq ?_
    refine Run.cond (b := decide ((((k : Nat) : Int)) < (((n : Nat) : Int)))) rfl (fun h9 => ?_) (fun h9 => ?_)
    · have p9 := h9; try simp only [bs] at p9
      have hltk : k < n := by omega
      obtain ⟨b, o, rfl⟩ := ha.opn (by omega)
      refine Run.skip ?_
      refine Run.seq ?_
      refine Run.block ?_
      refine Run.seq ?_
      refine Run.region ?_
      refine Run.q (v := .int .i64 (((k : Nat) : Int))) rfl (OpQ.y (OpY.pure rfl)) ?_
      refine Run.q (v := .int .i64 (((k : Nat) : Int))) rfl (OpQ.y (OpY.pure rfl)) ?_
      refine Run.done ?_
      refine Run.seq ?_
      refine Run.region ?_
      refine Run.q (v := .func (.func 100) #[] #[.pointer (some ⟨p, 0, none⟩)]) rfl (OpQ.y (OpY.pure rfl)) ?_
      refine Run.q (v := .slice (some ⟨b, o, none⟩) n c) rfl (OpQ.y (OpY.pure rfl)) ?_
      refine Run.q (v := .int .i64 (((k : Nat) : Int))) rfl (OpQ.y (OpY.pure rfl)) ?_
      refine Run.q (v := .pointer (some ⟨b, o + k, none⟩)) rfl (OpQ.y (OpY.index (kk := k) Tsl_28 rfl rfl (by omega) (by omega) (by first | rfl | omega))) ?_
      refine Run.q (v := .int .i64 (ix xs (k))) rfl (OpQ.y (OpY.load1 Tone_3 rfl (Cells.arg (k := k) ha rfl (by omega) (pre1 (by omega))))) ?_
      refine Run.q (v := .bool ((qs kd ka kb).contains (ix xs (k)))) rfl (OpQ.call (vs := [.int .i64 (ix xs (k)), .pointer (some ⟨p, 0, none⟩)]) (caps := [.pointer (some ⟨p, 0, none⟩)]) Tcall_100 rfl rfl (fun w hs => meetClo_spec (hs.sl hc))) ?_
      refine Run.done ?_
      refine Run.cond (b := (qs kd ka kb).contains (ix xs (k))) rfl (fun h16 => ?_) (fun h16 => ?_)
      · have p16 := h16; try simp only [bs] at p16
        refine Run.seq ?_
        have hres : findI (fun i => (qs kd ka kb).contains (ix xs i)) n = k := findI_hit hinv.2 h16 hltk
        refine Run.region ?_
        refine Run.q (v := .int .i64 (((k : Nat) : Int))) rfl (OpQ.y (OpY.pure rfl)) ?_
        refine Run.q (v := .int .i64 (((k : Nat) : Int))) rfl (OpQ.y (OpY.pure rfl)) ?_
        refine Run.done ?_
        refine Run.ret ?_
        refine ⟨.int .i64 (((k : Nat) : Int)), [], Out.one rfl rfl, (Some'.weak (.nil _)), ?_⟩
        show _ = _; rw [hres]
      · have p16 := h16; try simp only [bs] at p16
        refine Run.skip ?_
        refine Run.blockEnd ?_
        have hgood : ((qs kd ka kb).contains (ix xs k)) = false := h16
        refine Run.region ?_
        refine Run.q (v := .int .i64 ((((k : Nat) : Int)) + 1)) rfl (OpQ.y (OpY.add rfl rfl rfl (by omega) (by omega))) ?_
        refine Run.q (v := .int .i64 ((((k : Nat) : Int)) + 1)) rfl (OpQ.y (OpY.pure rfl)) ?_
        refine Run.done ?_
        refine Run.goal ⟨(by repeat (first | exact Same.refl _ _ | refine Same.put rfl ?_ | refine Same.over rfl rfl ?_)), k + 1, ?_, ?_, ?_, ?_⟩
        · refine ⟨by omega, ?_⟩
          intro i hi
          rcases Nat.lt_succ_iff_lt_or_eq.1 hi with h | h
          · exact hinv.2 i h
          · rw [h]; exact hgood
        · omega
        · exact ⟨(by first | rfl | (congr 1; omega) | simp), trivial⟩
        · exact (Some'.weak (.nil _))
    · have p9 := h9; try simp only [bs] at p9
      have hknk : k = n := by omega
      have hres : findI (fun i => (qs kd ka kb).contains (ix xs i)) n = -1 := by rw [← hknk]; exact findI_none hinv.2
      refine Run.exit rfl ?_
      refine Run.seq ?_
      refine Run.region ?_
      refine Run.q (v := .int .i64 (-1)) rfl (OpQ.y (OpY.pure rfl)) ?_
      refine Run.done ?_
      refine Run.ret ?_
      refine ⟨.int .i64 (-1), [], Out.one rfl rfl, (Some'.weak (.nil _)), ?_⟩
      show _ = _; rw [hres]

set_option maxHeartbeats 1000000 in
set_option maxRecDepth 20000 in
theorem ContainsFuncMeet_spec {kd ka kb : Int} {p : Nat} {va : Value} {n : Nat} {xs : List Int} {w : World} (ha : Sl w va 1 n (ints xs)) (hc : Sl w (.slice (some ⟨p, 0, none⟩) 1 1) 3 1 [.int .i64 kd, .int .i64 ka, .int .i64 kb]) : Calls Try.prog 98 #[va, .func (.func 100) #[] #[.pointer (some ⟨p, 0, none⟩)]] w (Post No w fun v _ => v = .bool (anyI (fun i => (qs kd ka kb).contains (ix xs i)) n)) := by
  refine enter (n := 9) (args := [va, .func (.func 100) #[] #[.pointer (some ⟨p, 0, none⟩)]]) Try.func98 rfl rfl (St.empty _ _) ?_
  refine Run.seq ?_
  refine Run.region ?_
  refine Run.q (v := .bool false) rfl (OpQ.y (OpY.pure rfl)) ?_
  refine Run.done ?_
  refine Run.seq ?_
  refine Run.region ?_
  refine Run.q (v := va) rfl (OpQ.y (OpY.pure rfl)) ?_
  refine Run.q (v := .func (.func 100) #[] #[.pointer (some ⟨p, 0, none⟩)]) rfl (OpQ.y (OpY.pure rfl)) ?_
  refine Run.q (v := .int .i64 (findI (fun i => (qs kd ka kb).contains (ix xs i)) n)) rfl (OpQ.call (vs := [va, .func (.func 100) #[] #[.pointer (some ⟨p, 0, none⟩)]]) (caps := []) Tcall_103 rfl rfl (fun w hs => IndexFuncMeet_spec (hs.sl ha) (hs.sl hc))) ?_
  refine Run.q (v := .bool (decide ((findI (fun i => (qs kd ka kb).contains (ix xs i)) n) ≥ 0))) rfl (OpQ.y (OpY.pure rfl)) ?_
  refine Run.q (v := .bool (decide ((findI (fun i => (qs kd ka kb).contains (ix xs i)) n) ≥ 0))) rfl (OpQ.y (OpY.pure rfl)) ?_
  refine Run.done ?_
  refine Run.ret ?_
  refine ⟨.bool (decide ((findI (fun i => (qs kd ka kb).contains (ix xs i)) n) ≥ 0)), [], Out.one rfl rfl, (Some'.weak (.nil _)), ?_⟩
  show _ = _; rw [findI_ge]

set_option maxHeartbeats 1000000 in
set_option maxRecDepth 20000 in
theorem meet_spec (k a b k' a' b' : Int) (w : World) : Calls Try.prog 89 #[.agg #[.int .i64 k, .int .i64 a, .int .i64 b], .agg #[.int .i64 k', .int .i64 a', .int .i64 b']] w (Post No w fun v _ => v = .bool (common (qs k a b) (qs k' a' b'))) := by
  refine enter (n := 9) (args := [.agg #[.int .i64 k, .int .i64 a, .int .i64 b], .agg #[.int .i64 (k'), .int .i64 (a'), .int .i64 (b')]]) Try.func89 rfl rfl (St.empty _ _) ?_
  refine Run.seq ?_
  refine Run.region ?_
  refine Run.step rfl (OpStep.box (us := [.int .i64 k, .int .i64 a, .int .i64 b]) rfl fun b1 => ?_)
  refine Run.step rfl (OpStep.box (us := [.int .i64 (k'), .int .i64 (a'), .int .i64 (b')]) rfl fun b2 => ?_)
  refine Run.q (v := .bool false) rfl (OpQ.y (OpY.pure rfl)) ?_
  refine Run.done ?_
  refine Run.seq ?_
  refine Run.region ?_
  refine Run.q (v := .agg #[.int .i64 k, .int .i64 a, .int .i64 b]) rfl (OpQ.y (OpY.loadN (cs := [.int .i64 k, .int .i64 a, .int .i64 b]) Tagg_81 rfl (Cells.blk (.tail _ (List.Mem.head _)) ⟨rfl, rfl, rfl, trivial⟩))) ?_
  refine Run.step rfl (OpStep.call (vs := [.agg #[.int .i64 k, .int .i64 a, .int .i64 b]]) (caps := []) Tcall_99 rfl rfl (fun w hs => qubitsOf_spec _ _ _ w) ?_)
  rintro u1 _ rfl
  show Run _ _ (putF _ _ _ u1) [.own u1 3 1 ((qs k a b).length) (ints (qs k a b)), .blk b2 81 [.int .i64 (k'), .int .i64 (a'), .int .i64 (b')], .blk b1 81 [.int .i64 k, .int .i64 a, .int .i64 b]]
  refine Run.q (v := .func (.func 100) #[] #[.pointer (some ⟨b2, 0, none⟩)]) rfl (OpQ.y (OpY.makeFunc (caps := [.pointer (some ⟨b2, 0, none⟩)]) rfl)) ?_
  refine Run.q (v := .bool (common (qs k a b) (qs k' a' b'))) rfl (OpQ.call (vs := [u1, .func (.func 100) #[] #[.pointer (some ⟨b2, 0, none⟩)]]) (caps := []) Tcall_98 rfl rfl (fun w hs => (by have h := ContainsFuncMeet_spec (hs.slOwn (.head _)) (hs.slBlk (.tail _ (List.Mem.head _))); rw [common_any] at h; exact h))) ?_
  refine Run.q (v := .bool (common (qs k a b) (qs k' a' b'))) rfl (OpQ.y (OpY.pure rfl)) ?_
  refine Run.done ?_
  refine Run.ret ?_
  refine ⟨.bool (common (qs k a b) (qs k' a' b')), [], Out.one rfl rfl, (Some'.weak (.nil _)), ?_⟩
  rfl

set_option maxHeartbeats 1000000 in
set_option maxRecDepth 20000 in
theorem isReady_spec {N Q : Int} {vg vc vp vd : Value} {n i : Nat} {xs : List Int} {ds : List Bool} {w : World} (hi : i < n) (hc : Sl w vc 3 n (ints xs)) (hd : Sl w vd 1 n (bls ds)) : Calls Try.prog 74 #[.agg #[.int .i64 N, vg, .int .i64 Q, vc, vp, vd], .int .i64 (i : Nat)] w (Post No w fun v _ => v = .bool (rdy xs ds i)) := by
  have hcl := hc.len
  have hdl := hd.blen
  have hn := hc.le
  obtain ⟨Ac, cc, rfl, _, _⟩ := hc.form0
  obtain ⟨bc, oc, rfl⟩ := hc.opn (by omega)
  obtain ⟨Ad, cd, rfl, _, _⟩ := hd.form0
  obtain ⟨bd, od, rfl⟩ := hd.opn (by omega)
  have hw : within ((i : Nat) : Int) 0 (((n : Nat) : Int) - 1) = true := within_iff.2 (by omega)
  refine enter (n := 50) (args := [.agg #[.int .i64 N, vg, .int .i64 Q, .slice (some ⟨bc, oc, none⟩) n cc, vp, .slice (some ⟨bd, od, none⟩) n cd], .int .i64 (((i : Nat) : Int))]) Try.func74 rfl rfl (St.empty _ _) ?_
  refine Run.seq ?_
  refine Run.region ?_
  refine Run.step rfl (OpStep.box (us := [.int .i64 N, vg, .int .i64 Q, .slice (some ⟨bc, oc, none⟩) n cc, vp, .slice (some ⟨bd, od, none⟩) n cd]) rfl fun b1 => ?_)
  refine Run.q (v := .bool false) rfl (OpQ.y (OpY.pure rfl)) ?_
  refine Run.done ?_
  refine Run.seq ?_
  refine Run.seq ?_
  refine Run.region ?_
  refine Run.q (v := .int .i64 (((i : Nat) : Int))) rfl (OpQ.y (OpY.pure rfl)) ?_
  refine Run.q (v := .pointer (some ⟨b1, 2, none⟩)) rfl (OpQ.y (OpY.fieldAddr Tfo_87_1 rfl rfl)) ?_
  refine Run.q (v := .pointer (some ⟨b1, 3, none⟩)) rfl (OpQ.y (OpY.fieldAddr Tfo_39_1 rfl rfl)) ?_
  refine Run.q (v := .slice (some ⟨bc, oc, none⟩) n cc) rfl (OpQ.y (OpY.load1 Tone_37 rfl (Cells.blk (.head _) ⟨rfl, trivial⟩))) ?_
  refine Run.q (v := .int .i64 (((n : Nat) : Int))) rfl (OpQ.y (OpY.len Tsl_37 rfl)) ?_
  refine Run.q (v := .int .i64 (((n : Nat) : Int) - 1)) rfl (OpQ.y (OpY.sub rfl rfl (by omega) (by omega) (by omega))) ?_
  refine Run.q (v := .bool true) rfl (OpQ.call (vs := [.int .i64 (((i : Nat) : Int)), .int .i64 0, .int .i64 (((n : Nat) : Int) - 1)]) (caps := []) Tcall_73 rfl rfl (fun w hs => (by have h := within_spec ((i : Nat) : Int) 0 (((n : Nat) : Int) - 1) w; rw [hw] at h; exact h))) ?_
  refine Run.q (v := .bool false) rfl (OpQ.y (OpY.pure rfl)) ?_
  refine Run.q (v := .bool false) rfl (OpQ.y (OpY.pure rfl)) ?_
  refine Run.q (v := .pointer (some ⟨b1, 5, none⟩)) rfl (OpQ.y (OpY.fieldAddr Tfo_87_3 rfl rfl)) ?_
  refine Run.q (v := .slice (some ⟨bd, od, none⟩) n cd) rfl (OpQ.y (OpY.load1 Tone_85 rfl (Cells.blk (.head _) ⟨rfl, trivial⟩))) ?_
  refine Run.q (v := .int .i64 (((i : Nat) : Int))) rfl (OpQ.y (OpY.pure rfl)) ?_
  refine Run.q (v := .pointer (some ⟨bd, od + i, none⟩)) rfl (OpQ.y (OpY.index (kk := i) Tsl_85 rfl rfl (by omega) (by omega) (by first | rfl | omega))) ?_
  refine Run.q (v := .bool (bx ds (i))) rfl (OpQ.y (OpY.load1 Tone_4 rfl (Cells.arg (k := i) hd rfl (by omega) (preBl (by omega))))) ?_
  refine Run.q (v := .bool (bx ds (i))) rfl (OpQ.y (OpY.pure rfl)) ?_
  refine Run.done ?_
  refine Run.cond (b := bx ds (i)) rfl (fun h21 => ?_) (fun h21 => ?_)
  · have p21 := h21; try simp only [bs] at p21
    have hres : rdy xs ds i = false := rdy_done (by simpa using h21)
    refine Run.seq ?_
    refine Run.region ?_
    refine Run.q (v := .bool false) rfl (OpQ.y (OpY.pure rfl)) ?_
    refine Run.done ?_
    refine Run.ret ?_
    refine ⟨.bool false, [], Out.one rfl rfl, (Some'.weak (.nil _)), ?_⟩
    show _ = _; rw [hres]
  · have p21 := h21; try simp only [bs] at p21
    have h0 : bx ds i = false := by simpa using h21
    refine Run.skip ?_
    refine Run.seq ?_
    refine Run.seq ?_
    refine Run.region ?_
    refine Run.q (v := .pointer (some ⟨b1, 2, none⟩)) rfl (OpQ.y (OpY.fieldAddr Tfo_87_1 rfl rfl)) ?_
    refine Run.q (v := .pointer (some ⟨b1, 3, none⟩)) rfl (OpQ.y (OpY.fieldAddr Tfo_39_1 rfl rfl)) ?_
    refine Run.q (v := .slice (some ⟨bc, oc, none⟩) n cc) rfl (OpQ.y (OpY.load1 Tone_37 rfl (Cells.blk (.head _) ⟨rfl, trivial⟩))) ?_
    refine Run.q (v := .int .i64 (((i : Nat) : Int))) rfl (OpQ.y (OpY.pure rfl)) ?_
    refine Run.q (v := .slice (some ⟨bc, oc, none⟩) i cc) rfl (OpQ.y (OpY.sliceHN (h := i) Tsl_37 rfl rfl rfl (by omega))) ?_
    refine Run.q (v := .int .i64 (((i : Nat) : Int))) rfl (OpQ.y (OpY.len Tsl_37 rfl)) ?_
    refine Run.q (v := .int .i64 0) rfl (OpQ.y (OpY.pure rfl)) ?_
    refine Run.done ?_
    refine Run.block ?_
    refine Run.loop (ι := Nat) [4, 5, 6, 28, 29, 30, 31, 32, 33, 34, 35, 36, 37, 38, 39, 40, 41, 42, 43, 44, 45, 46, 47, 48, 49] (fun j => [(28, .int .i64 (((j : Nat) : Int)))]) (fun j => [.blk b1 87 [.int .i64 N, vg, .int .i64 Q, .slice (some ⟨bc, oc, none⟩) n cc, vp, .slice (some ⟨bd, od, none⟩) n cd]]) (fun j => j ≤ i ∧ ∀ q, q < j → (!bx ds q && common (gq xs q) (gq xs i)) = false) (fun j => i - j) 0 ?_ ?_ ?_ ?_
    · exact ⟨Nat.zero_le _, fun q hq => by omega⟩
    · exact ⟨rfl, trivial⟩
    · exact (Some'.weak (.take (.nil _)))
    · rintro j fr hinv
      show Run _ _ (over _ _ [(28, .int .i64 (((j : Nat) : Int)))] fr) [.blk b1 87 [.int .i64 N, vg, .int .i64 Q, .slice (some ⟨bc, oc, none⟩) n cc, vp, .slice (some ⟨bd, od, none⟩) n cd]]
      try dsimp only at hinv
      refine Run.seq ?_
      refine Run.region ?_
      refine Run.q (v := .bool (decide ((((j : Nat) : Int)) < (((i : Nat) : Int))))) rfl (OpQ.y (OpY.pure rfl)) ?_
      refine Run.done ?_
      refine Run.seq ?_
      refine Run.cond (b := decide ((((j : Nat) : Int)) < (((i : Nat) : Int)))) rfl (fun h29 => ?_) (fun h29 => ?_)
      · have p29 := h29; try simp only [bs] at p29
        have hji : j < i := by omega
        refine Run.skip ?_
        refine Run.seq ?_
        refine Run.block ?_
        refine Run.seq ?_
        refine Run.region ?_
        refine Run.q (v := .int .i64 (((j : Nat) : Int))) rfl (OpQ.y (OpY.pure rfl)) ?_
        refine Run.q (v := .pointer (some ⟨bc, oc + j * 3, none⟩)) rfl (OpQ.y (OpY.index (kk := j) Tsl_37 rfl rfl (by omega) (by omega) (by first | rfl | omega))) ?_
        refine Run.q (v := .agg #[.int .i64 (ix xs (j * 3)), .int .i64 (ix xs (j * 3 + 1)), .int .i64 (ix xs (j * 3 + 2))]) rfl (OpQ.y (OpY.loadN (cs := [.int .i64 (ix xs (j * 3)), .int .i64 (ix xs (j * 3 + 1)), .int .i64 (ix xs (j * 3 + 2))]) Tagg_81 rfl (Cells.arg (k := j * 3) hc rfl (by omega) (pre3 (by omega))))) ?_
        refine Run.step rfl (OpStep.alloc (zs := [.int .i64 0, .int .i64 0, .int .i64 0]) Tzero_81 fun b2 => ?_)
        refine Run.q (v := .int .i64 (((j : Nat) : Int))) rfl (OpQ.y (OpY.pure rfl)) ?_
        refine Run.step rfl (OpStep.storeAll (us := [.int .i64 (ix xs (j * 3)), .int .i64 (ix xs (j * 3 + 1)), .int .i64 (ix xs (j * 3 + 2))]) Tsize_81 rfl rfl rfl (.here _) rfl ?_)
        refine Run.done ?_
        refine Run.seq ?_
        refine Run.draws (by kernel_rfl) (by kernel_rfl) ?_
        refine Lex.q (v := .pointer (some ⟨b1, 5, none⟩)) rfl (OpQ.y (OpY.fieldAddr Tfo_87_3 rfl rfl)) ?_
        refine Lex.q (v := .slice (some ⟨bd, od, none⟩) n cd) rfl (OpQ.y (OpY.load1 Tone_85 rfl (Cells.blk (.tail _ (List.Mem.head _)) ⟨rfl, trivial⟩))) ?_
        refine Lex.q (v := .int .i64 (((j : Nat) : Int))) rfl (OpQ.y (OpY.pure rfl)) ?_
        refine Lex.q (v := .pointer (some ⟨bd, od + j, none⟩)) rfl (OpQ.y (OpY.index (kk := j) Tsl_85 rfl rfl (by omega) (by omega) (by first | rfl | omega))) ?_
        refine Lex.q (v := .bool (bx ds (j))) rfl (OpQ.y (OpY.load1 Tone_4 rfl (Cells.arg (k := j) hd rfl (by omega) (preBl (by omega))))) ?_
        refine Lex.q (v := .bool (!(bx ds (j)))) rfl (OpQ.y (OpY.pure rfl)) ?_
        rcases Bool.eq_false_or_eq_true (!(bx ds (j))) with h39 | h39
        · refine Lex.q (v := .bool true) rfl (OpQ.y (OpY.moveB rfl h39)) ?_
          have p39 := h39; try simp only [bs] at p39
          refine Lex.q (v := .agg #[.int .i64 (ix xs (j * 3)), .int .i64 (ix xs (j * 3 + 1)), .int .i64 (ix xs (j * 3 + 2))]) rfl (OpQ.y (OpY.loadN (cs := [.int .i64 (ix xs (j * 3)), .int .i64 (ix xs (j * 3 + 1)), .int .i64 (ix xs (j * 3 + 2))]) Tagg_81 rfl (Cells.blk (.head _) ⟨rfl, rfl, rfl, trivial⟩))) ?_
          refine Lex.q (v := .pointer (some ⟨b1, 2, none⟩)) rfl (OpQ.y (OpY.fieldAddr Tfo_87_1 rfl rfl)) ?_
          refine Lex.q (v := .pointer (some ⟨b1, 3, none⟩)) rfl (OpQ.y (OpY.fieldAddr Tfo_39_1 rfl rfl)) ?_
          refine Lex.q (v := .slice (some ⟨bc, oc, none⟩) n cc) rfl (OpQ.y (OpY.load1 Tone_37 rfl (Cells.blk (.tail _ (List.Mem.head _)) ⟨rfl, trivial⟩))) ?_
          refine Lex.q (v := .int .i64 (((i : Nat) : Int))) rfl (OpQ.y (OpY.pure rfl)) ?_
          refine Lex.q (v := .pointer (some ⟨bc, oc + i * 3, none⟩)) rfl (OpQ.y (OpY.index (kk := i) Tsl_37 rfl rfl (by omega) (by omega) (by first | rfl | omega))) ?_
          refine Lex.q (v := .agg #[.int .i64 (ix xs (i * 3)), .int .i64 (ix xs (i * 3 + 1)), .int .i64 (ix xs (i * 3 + 2))]) rfl (OpQ.y (OpY.loadN (cs := [.int .i64 (ix xs (i * 3)), .int .i64 (ix xs (i * 3 + 1)), .int .i64 (ix xs (i * 3 + 2))]) Tagg_81 rfl (Cells.arg (k := i * 3) hc rfl (by omega) (pre3 (by omega))))) ?_
          refine Lex.q (v := .bool (common (gq xs j) (gq xs i))) rfl (OpQ.call (vs := [.agg #[.int .i64 (ix xs (j * 3)), .int .i64 (ix xs (j * 3 + 1)), .int .i64 (ix xs (j * 3 + 2))], .agg #[.int .i64 (ix xs (i * 3)), .int .i64 (ix xs (i * 3 + 1)), .int .i64 (ix xs (i * 3 + 2))]]) (caps := []) Tcall_89 rfl rfl (fun w hs => meet_spec _ _ _ _ _ _ w)) ?_
          refine Lex.q (v := .bool (common (gq xs j) (gq xs i))) rfl (OpQ.y (OpY.pure rfl)) ?_
          refine Lex.done ?_
          refine Run.cond (b := common (gq xs j) (gq xs i)) rfl (fun h48 => ?_) (fun h48 => ?_)
          · have p48 := h48; try simp only [bs] at p48
            refine Run.seq ?_
            have hres : rdy xs ds i = false := rdy_bad (j := j) hji (by simp_all)
            refine Run.region ?_
            refine Run.q (v := .bool false) rfl (OpQ.y (OpY.pure rfl)) ?_
            refine Run.done ?_
            refine Run.ret ?_
            refine ⟨.bool false, [], Out.one rfl rfl, (Some'.weak (.nil _)), ?_⟩
            show _ = _; rw [hres]
          · have p48 := h48; try simp only [bs] at p48
            refine Run.skip ?_
            refine Run.blockEnd ?_
            have hgood : (!bx ds j && common (gq xs j) (gq xs i)) = false := by simp_all
            refine Run.region ?_
            refine Run.q (v := .int .i64 ((((j : Nat) : Int)) + 1)) rfl (OpQ.y (OpY.add rfl rfl rfl (by omega) (by omega))) ?_
            refine Run.q (v := .int .i64 ((((j : Nat) : Int)) + 1)) rfl (OpQ.y (OpY.pure rfl)) ?_
            refine Run.done ?_
            refine Run.goal ⟨(by repeat (first | exact Same.refl _ _ | refine Same.put rfl ?_ | refine Same.over rfl rfl ?_)), j + 1, ?_, ?_, ?_, ?_⟩
            · refine ⟨by omega, fun q hq => ?_⟩
              rcases Nat.lt_succ_iff_lt_or_eq.1 hq with h | h
              · exact hinv.2 q h
              · rw [h]; exact hgood
            · omega
            · exact ⟨(by first | rfl | (congr 1; omega) | simp), trivial⟩
            · exact (Some'.weak (.skip (.take (.nil _))))
        · refine Lex.q (v := .bool false) rfl (OpQ.y (OpY.moveB rfl h39)) ?_
          have p39 := h39; try simp only [bs] at p39
          refine Lex.pass rfl ?_
          refine Lex.pass rfl ?_
          refine Lex.pass rfl ?_
          refine Lex.pass rfl ?_
          refine Lex.pass rfl ?_
          refine Lex.pass rfl ?_
          refine Lex.pass rfl ?_
          refine Lex.pass rfl ?_
          refine Lex.q (v := .bool false) rfl (OpQ.y (OpY.pure rfl)) ?_
          refine Lex.done ?_
          refine Run.cond (b := false) rfl (fun h => nomatch h) (fun _ => ?_)
          refine Run.skip ?_
          refine Run.blockEnd ?_
          have hgood : (!bx ds j && common (gq xs j) (gq xs i)) = false := by simp_all
          refine Run.region ?_
          refine Run.q (v := .int .i64 ((((j : Nat) : Int)) + 1)) rfl (OpQ.y (OpY.add rfl rfl rfl (by omega) (by omega))) ?_
          refine Run.q (v := .int .i64 ((((j : Nat) : Int)) + 1)) rfl (OpQ.y (OpY.pure rfl)) ?_
          refine Run.done ?_
          refine Run.goal ⟨(by repeat (first | exact Same.refl _ _ | refine Same.put rfl ?_ | refine Same.over rfl rfl ?_)), j + 1, ?_, ?_, ?_, ?_⟩
          · refine ⟨by omega, fun q hq => ?_⟩
            rcases Nat.lt_succ_iff_lt_or_eq.1 hq with h | h
            · exact hinv.2 q h
            · rw [h]; exact hgood
          · omega
          · exact ⟨(by first | rfl | (congr 1; omega) | simp), trivial⟩
          · exact (Some'.weak (.skip (.take (.nil _))))
      · have p29 := h29; try simp only [bs] at p29
        have hres : rdy xs ds i = true := rdy_good h0 fun q hq => hinv.2 q (by omega)
        refine Run.exit rfl ?_
        refine Run.seq ?_
        refine Run.region ?_
        refine Run.q (v := .bool true) rfl (OpQ.y (OpY.pure rfl)) ?_
        refine Run.done ?_
        refine Run.ret ?_
        refine ⟨.bool true, [], Out.one rfl rfl, (Some'.weak (.nil _)), ?_⟩
        show _ = _; rw [hres]

set_option maxHeartbeats 1000000 in
set_option maxRecDepth 20000 in
theorem l23Ready_spec {Q : Int} {vc vd : Value} {n i : Nat} {xs : List Int} {ds : List Bool} {w : World} (hi : i < n) (hc : Sl w vc 3 n (ints xs)) (hd : Sl w vd 1 n (bls ds)) : Calls Try.prog 82 #[.agg #[.int .i64 Q, vc], vd, .int .i64 (i : Nat)] w (Post No w fun v _ => v = .bool (rdy xs ds i)) := by
  have hcl := hc.len
  have hdl := hd.blen
  have hn := hc.le
  obtain ⟨Ac, cc, rfl, _, _⟩ := hc.form0
  obtain ⟨bc, oc, rfl⟩ := hc.opn (by omega)
  obtain ⟨Ad, cd, rfl, _, _⟩ := hd.form0
  obtain ⟨bd, od, rfl⟩ := hd.opn (by omega)
  have hw : within ((i : Nat) : Int) 0 (((n : Nat) : Int) - 1) = true := within_iff.2 (by omega)
  refine enter (n := 57) (args := [.agg #[.int .i64 Q, .slice (some ⟨bc, oc, none⟩) n cc], .slice (some ⟨bd, od, none⟩) n cd, .int .i64 (((i : Nat) : Int))]) Try.func82 rfl rfl (St.empty _ _) ?_
  refine Run.seq ?_
  refine Run.region ?_
  refine Run.step rfl (OpStep.box (us := [.int .i64 Q, .slice (some ⟨bc, oc, none⟩) n cc]) rfl fun b1 => ?_)
  refine Run.q (v := .bool false) rfl (OpQ.y (OpY.pure rfl)) ?_
  refine Run.done ?_
  refine Run.seq ?_
  refine Run.seq ?_
  refine Run.region ?_
  refine Run.q (v := .int .i64 (((i : Nat) : Int))) rfl (OpQ.y (OpY.pure rfl)) ?_
  refine Run.q (v := .pointer (some ⟨b1, 1, none⟩)) rfl (OpQ.y (OpY.fieldAddr Tfo_39_1 rfl rfl)) ?_
  refine Run.q (v := .slice (some ⟨bc, oc, none⟩) n cc) rfl (OpQ.y (OpY.load1 Tone_37 rfl (Cells.blk (.head _) ⟨rfl, trivial⟩))) ?_
  refine Run.q (v := .int .i64 (((n : Nat) : Int))) rfl (OpQ.y (OpY.len Tsl_37 rfl)) ?_
  refine Run.q (v := .int .i64 (((n : Nat) : Int) - 1)) rfl (OpQ.y (OpY.sub rfl rfl (by omega) (by omega) (by omega))) ?_
  refine Run.q (v := .bool true) rfl (OpQ.call (vs := [.int .i64 (((i : Nat) : Int)), .int .i64 0, .int .i64 (((n : Nat) : Int) - 1)]) (caps := []) Tcall_61 rfl rfl (fun w hs => (by have h := l1In_spec ((i : Nat) : Int) 0 (((n : Nat) : Int) - 1) w; rw [hw] at h; exact h))) ?_
  refine Run.q (v := .bool false) rfl (OpQ.y (OpY.pure rfl)) ?_
  refine Run.q (v := .bool false) rfl (OpQ.y (OpY.pure rfl)) ?_
  refine Run.q (v := .slice (some ⟨bd, od, none⟩) n cd) rfl (OpQ.y (OpY.pure rfl)) ?_
  refine Run.q (v := .int .i64 (((i : Nat) : Int))) rfl (OpQ.y (OpY.pure rfl)) ?_
  refine Run.q (v := .pointer (some ⟨bd, od + i, none⟩)) rfl (OpQ.y (OpY.index (kk := i) Tsl_85 rfl rfl (by omega) (by omega) (by first | rfl | omega))) ?_
  refine Run.q (v := .bool (bx ds (i))) rfl (OpQ.y (OpY.load1 Tone_4 rfl (Cells.arg (k := i) hd rfl (by omega) (preBl (by omega))))) ?_
  refine Run.q (v := .bool (bx ds (i))) rfl (OpQ.y (OpY.pure rfl)) ?_
  refine Run.done ?_
  refine Run.cond (b := bx ds (i)) rfl (fun h23 => ?_) (fun h23 => ?_)
  · have p23 := h23; try simp only [bs] at p23
    have hres : rdy xs ds i = false := rdy_done (by simpa using h23)
    refine Run.seq ?_
    refine Run.region ?_
    refine Run.q (v := .bool false) rfl (OpQ.y (OpY.pure rfl)) ?_
    refine Run.done ?_
    refine Run.ret ?_
    refine ⟨.bool false, [], Out.one rfl rfl, (Some'.weak (.nil _)), ?_⟩
    show _ = _; rw [hres]
  · have p23 := h23; try simp only [bs] at p23
    have h0 : bx ds i = false := by simpa using h23
    have hqi : (gq xs i).length ≤ 2 := qs_le _ _ _
    refine Run.skip ?_
    refine Run.seq ?_
    refine Run.region ?_
    refine Run.q (v := .pointer (some ⟨b1, 1, none⟩)) rfl (OpQ.y (OpY.fieldAddr Tfo_39_1 rfl rfl)) ?_
    refine Run.q (v := .slice (some ⟨bc, oc, none⟩) n cc) rfl (OpQ.y (OpY.load1 Tone_37 rfl (Cells.blk (.head _) ⟨rfl, trivial⟩))) ?_
    refine Run.q (v := .int .i64 (((i : Nat) : Int))) rfl (OpQ.y (OpY.pure rfl)) ?_
    refine Run.q (v := .pointer (some ⟨bc, oc + i * 3, none⟩)) rfl (OpQ.y (OpY.index (kk := i) Tsl_37 rfl rfl (by omega) (by omega) (by first | rfl | omega))) ?_
    refine Run.q (v := .agg #[.int .i64 (ix xs (i * 3)), .int .i64 (ix xs (i * 3 + 1)), .int .i64 (ix xs (i * 3 + 2))]) rfl (OpQ.y (OpY.loadN (cs := [.int .i64 (ix xs (i * 3)), .int .i64 (ix xs (i * 3 + 1)), .int .i64 (ix xs (i * 3 + 2))]) Tagg_81 rfl (Cells.arg (k := i * 3) hc rfl (by omega) (pre3 (by omega))))) ?_
    refine Run.step rfl (OpStep.call (vs := [.agg #[.int .i64 (ix xs (i * 3)), .int .i64 (ix xs (i * 3 + 1)), .int .i64 (ix xs (i * 3 + 2))]]) (caps := []) Tcall_92 rfl rfl (fun w hs => l23Qubits_spec _ _ _ w) ?_)
    rintro u1 _ rfl
    show Run _ _ (putF _ _ _ u1) [.own u1 3 1 ((gq xs i).length) (ints (gq xs i)), .blk b1 39 [.int .i64 Q, .slice (some ⟨bc, oc, none⟩) n cc]]
    refine Run.q (v := u1) rfl (OpQ.y (OpY.pure rfl)) ?_
    refine Run.done ?_
    refine Run.seq ?_
    refine Run.seq ?_
    refine Run.region ?_
    refine Run.q (v := .int .i64 0) rfl (OpQ.y (OpY.pure rfl)) ?_
    refine Run.done ?_
    refine Run.block ?_
    refine Run.loop (ι := Nat) [6, 8, 10, 30, 31, 32, 33, 34, 35, 36, 37, 38, 39, 40, 41, 42, 43, 44, 45, 46, 47, 48, 49, 50, 51, 52, 53, 54, 55, 56] (fun j => [(8, .int .i64 (((j : Nat) : Int)))]) (fun j => [.own u1 3 1 ((gq xs i).length) (ints (gq xs i)), .blk b1 39 [.int .i64 Q, .slice (some ⟨bc, oc, none⟩) n cc]]) (fun j => j ≤ i ∧ ∀ q, q < j → (!bx ds q && common (gq xs q) (gq xs i)) = false) (fun j => i - j) 0 ?_ ?_ ?_ ?_
    · exact ⟨Nat.zero_le _, fun q hq => by omega⟩
    · exact ⟨rfl, trivial⟩
    · exact (Some'.weak (.take (.take (.nil _))))
    · rintro j fr hinv
      show Run _ _ (over _ _ [(8, .int .i64 (((j : Nat) : Int)))] fr) [.own u1 3 1 ((gq xs i).length) (ints (gq xs i)), .blk b1 39 [.int .i64 Q, .slice (some ⟨bc, oc, none⟩) n cc]]
      try dsimp only at hinv
      refine Run.seq ?_
      refine Run.seq ?_
      refine Run.region ?_
      refine Run.q (v := .int .i64 (((j : Nat) : Int))) rfl (OpQ.y (OpY.pure rfl)) ?_
      refine Run.q (v := .int .i64 (((i : Nat) : Int))) rfl (OpQ.y (OpY.pure rfl)) ?_
      refine Run.q (v := .bool (decide ((((j : Nat) : Int)) < (((i : Nat) : Int))))) rfl (OpQ.y (OpY.pure rfl)) ?_
      refine Run.done ?_
      refine Run.cond (b := decide ((((j : Nat) : Int)) < (((i : Nat) : Int)))) rfl (fun h32 => ?_) (fun h32 => ?_)
      · have p32 := h32; try simp only [bs] at p32
        have hji : j < i := by omega
        have hinvA := hinv
        have hqj : (gq xs j).length ≤ 2 := qs_le _ _ _
        refine Run.skip ?_
        refine Run.seq ?_
        refine Run.block ?_
        refine Run.seq ?_
        refine Run.region ?_
        refine Run.q (v := .pointer (some ⟨b1, 1, none⟩)) rfl (OpQ.y (OpY.fieldAddr Tfo_39_1 rfl rfl)) ?_
        refine Run.q (v := .slice (some ⟨bc, oc, none⟩) n cc) rfl (OpQ.y (OpY.load1 Tone_37 rfl (Cells.blk (.tail _ (List.Mem.head _)) ⟨rfl, trivial⟩))) ?_
        refine Run.q (v := .int .i64 (((j : Nat) : Int))) rfl (OpQ.y (OpY.pure rfl)) ?_
        refine Run.q (v := .pointer (some ⟨bc, oc + j * 3, none⟩)) rfl (OpQ.y (OpY.index (kk := j) Tsl_37 rfl rfl (by omega) (by omega) (by first | rfl | omega))) ?_
        refine Run.q (v := .agg #[.int .i64 (ix xs (j * 3)), .int .i64 (ix xs (j * 3 + 1)), .int .i64 (ix xs (j * 3 + 2))]) rfl (OpQ.y (OpY.loadN (cs := [.int .i64 (ix xs (j * 3)), .int .i64 (ix xs (j * 3 + 1)), .int .i64 (ix xs (j * 3 + 2))]) Tagg_81 rfl (Cells.arg (k := j * 3) hc rfl (by omega) (pre3 (by omega))))) ?_
        refine Run.step rfl (OpStep.call (vs := [.agg #[.int .i64 (ix xs (j * 3)), .int .i64 (ix xs (j * 3 + 1)), .int .i64 (ix xs (j * 3 + 2))]]) (caps := []) Tcall_92 rfl rfl (fun w hs => l23Qubits_spec _ _ _ w) ?_)
        rintro u2 _ rfl
        show Run _ _ (putF _ _ _ u2) [.own u2 3 1 ((gq xs j).length) (ints (gq xs j)), .own u1 3 1 ((gq xs i).length) (ints (gq xs i)), .blk b1 39 [.int .i64 Q, .slice (some ⟨bc, oc, none⟩) n cc]]
        refine Run.formOwn (.head _) (fun A_u21 c_u21 hv hcapc_u21 hmaxc_u21 => ?_) (fun _ _ _ => ⟨nofun, nofun, nofun⟩)
        subst hv
        refine Run.q (v := .int .i64 ((((gq xs j).length : Nat) : Int))) rfl (OpQ.y (OpY.len Tsl_28 rfl)) ?_
        refine Run.q (v := .int .i64 0) rfl (OpQ.y (OpY.pure rfl)) ?_
        refine Run.done ?_
        refine Run.block ?_
        refine Run.loop (ι := Nat) [6, 10, 42, 43, 44, 45, 46, 47, 48, 49, 50, 51, 52, 53, 54, 55, 56] (fun m => [(42, .int .i64 (((m : Nat) : Int)))]) (fun m => [.own (.slice A_u21 ((gq xs j).length) c_u21) 3 1 ((gq xs j).length) (ints (gq xs j)), .own u1 3 1 ((gq xs i).length) (ints (gq xs i)), .blk b1 39 [.int .i64 Q, .slice (some ⟨bc, oc, none⟩) n cc]]) (fun m => m ≤ (gq xs j).length ∧ (∀ q, q < m → (!bx ds j && (gq xs i).contains (ix (gq xs j) q)) = false)) (fun m => (gq xs j).length - m) 0 ?_ ?_ ?_ ?_
        · exact ⟨Nat.zero_le _, by first | trivial | (intro i hi; omega)⟩
        · exact ⟨rfl, trivial⟩
        · exact (Some'.weak (.take (.take (.take (.nil _)))))
        · rintro m fr hinv
          show Run _ _ (over _ _ [(42, .int .i64 (((m : Nat) : Int)))] fr) [.own (.slice A_u21 ((gq xs j).length) c_u21) 3 1 ((gq xs j).length) (ints (gq xs j)), .own u1 3 1 ((gq xs i).length) (ints (gq xs i)), .blk b1 39 [.int .i64 Q, .slice (some ⟨bc, oc, none⟩) n cc]]
          try dsimp only at hinv
          refine Run.seq ?_
          refine Run.region ?_
          refine Run.q (v := .bool (decide ((((m : Nat) : Int)) < ((((gq xs j).length : Nat) : Int))))) rfl (OpQ.y (OpY.pure rfl)) ?_
          refine Run.done ?_
          refine Run.seq ?_
          refine Run.cond (b := decide ((((m : Nat) : Int)) < ((((gq xs j).length : Nat) : Int)))) rfl (fun h43 => ?_) (fun h43 => ?_)
          · have p43 := h43; try simp only [bs] at p43
            have hltm : m < (gq xs j).length := by omega
            refine Run.openOwn (.head _) (by omega) (fun g2 cg2 hvg2 hcapg2 _ => ?_) (fun _ _ _ => ⟨nofun, nofun, nofun⟩)
            injection hvg2 with hAg2 _ hcg2; subst hAg2; subst hcg2
            refine Run.skip ?_
            refine Run.seq ?_
            refine Run.block ?_
            refine Run.seq ?_
            refine Run.region ?_
            refine Run.q (v := .pointer (some ⟨g2, m, none⟩)) rfl (OpQ.y (OpY.index (kk := m) Tsl_28 rfl rfl (by omega) (by omega) (by first | rfl | omega))) ?_
            refine Run.q (v := .int .i64 (ix (gq xs j) (m))) rfl (OpQ.y (OpY.load1 Tone_3 rfl (Cells.own0 (.head _) (pre1 (by omega))))) ?_
            refine Run.q (v := .int .i64 (ix (gq xs j) (m))) rfl (OpQ.y (OpY.pure rfl)) ?_
            refine Run.done ?_
            refine Run.seq ?_
            refine Run.region ?_
            refine Run.q (v := .slice (some ⟨bd, od, none⟩) n cd) rfl (OpQ.y (OpY.pure rfl)) ?_
            refine Run.q (v := .int .i64 (((j : Nat) : Int))) rfl (OpQ.y (OpY.pure rfl)) ?_
            refine Run.q (v := .pointer (some ⟨bd, od + j, none⟩)) rfl (OpQ.y (OpY.index (kk := j) Tsl_85 rfl rfl (by omega) (by omega) (by first | rfl | omega))) ?_
            refine Run.q (v := .bool (bx ds (j))) rfl (OpQ.y (OpY.load1 Tone_4 rfl (Cells.arg (k := j) hd rfl (by omega) (preBl (by omega))))) ?_
            refine Run.q (v := .bool (!(bx ds (j)))) rfl (OpQ.y (OpY.pure rfl)) ?_
            rcases Bool.eq_false_or_eq_true (!(bx ds (j))) with h51 | h51
            · refine Run.q (v := .bool true) rfl (OpQ.y (OpY.moveB rfl h51)) ?_
              have p51 := h51; try simp only [bs] at p51
              refine Run.q (v := u1) rfl (OpQ.y (OpY.pure rfl)) ?_
              refine Run.q (v := .int .i64 (ix (gq xs j) (m))) rfl (OpQ.y (OpY.pure rfl)) ?_
              refine Run.q (v := .bool ((gq xs i).contains (ix (gq xs j) m))) rfl (OpQ.call (vs := [u1, .int .i64 (ix (gq xs j) (m))]) (caps := []) Tcall_62 rfl rfl (fun w hs => (by have h := l1Has_spec (x := ix (gq xs j) m) (hs.slOwn (.tail _ (List.Mem.head _))); rw [hasI_contains] at h; exact h))) ?_
              refine Run.q (v := .bool ((gq xs i).contains (ix (gq xs j) m))) rfl (OpQ.y (OpY.pure rfl)) ?_
              refine Run.done ?_
              refine Run.cond (b := (gq xs i).contains (ix (gq xs j) m)) rfl (fun h55 => ?_) (fun h55 => ?_)
              · have p55 := h55; try simp only [bs] at p55
                refine Run.seq ?_
                have hres : rdy xs ds i = false := rdy_bad (j := j) hji (by
                  have hcm : common (gq xs j) (gq xs i) = true := common_true hltm (by simp_all)
                  rw [hcm]; simp_all)
                refine Run.region ?_
                refine Run.q (v := .bool false) rfl (OpQ.y (OpY.pure rfl)) ?_
                refine Run.done ?_
                refine Run.ret ?_
                refine ⟨.bool false, [], Out.one rfl rfl, (Some'.weak (.nil _)), ?_⟩
                show _ = _; rw [hres]
              · have p55 := h55; try simp only [bs] at p55
                refine Run.skip ?_
                refine Run.blockEnd ?_
                have hgood : (!bx ds j && (gq xs i).contains (ix (gq xs j) m)) = false := by simp_all
                refine Run.region ?_
                refine Run.q (v := .int .i64 ((((m : Nat) : Int)) + 1)) rfl (OpQ.y (OpY.add rfl rfl rfl (by omega) (by omega))) ?_
                refine Run.q (v := .int .i64 ((((m : Nat) : Int)) + 1)) rfl (OpQ.y (OpY.pure rfl)) ?_
                refine Run.done ?_
                refine Run.goal ⟨(by repeat (first | exact Same.refl _ _ | refine Same.put rfl ?_ | refine Same.over rfl rfl ?_)), m + 1, ?_, ?_, ?_, ?_⟩
                · refine ⟨by omega, ?_⟩
                  intro i hi
                  rcases Nat.lt_succ_iff_lt_or_eq.1 hi with h | h
                  · exact hinv.2 i h
                  · rw [h]; exact hgood
                · omega
                · exact ⟨(by first | rfl | (congr 1; omega) | simp), trivial⟩
                · exact (Some'.weak (.takeEq (by first | rfl | simp) (.takeEq (by first | rfl | simp) (.take (.nil _)))))
            · refine Run.q (v := .bool false) rfl (OpQ.y (OpY.moveB rfl h51)) ?_
              have p51 := h51; try simp only [bs] at p51
              refine Run.pass rfl ?_
              refine Run.pass rfl ?_
              refine Run.pass rfl ?_
              refine Run.q (v := .bool false) rfl (OpQ.y (OpY.pure rfl)) ?_
              refine Run.done ?_
              refine Run.cond (b := false) rfl (fun h => nomatch h) (fun _ => ?_)
              refine Run.skip ?_
              refine Run.blockEnd ?_
              have hgood : (!bx ds j && (gq xs i).contains (ix (gq xs j) m)) = false := by simp_all
              refine Run.region ?_
              refine Run.q (v := .int .i64 ((((m : Nat) : Int)) + 1)) rfl (OpQ.y (OpY.add rfl rfl rfl (by omega) (by omega))) ?_
              refine Run.q (v := .int .i64 ((((m : Nat) : Int)) + 1)) rfl (OpQ.y (OpY.pure rfl)) ?_
              refine Run.done ?_
              refine Run.goal ⟨(by repeat (first | exact Same.refl _ _ | refine Same.put rfl ?_ | refine Same.over rfl rfl ?_)), m + 1, ?_, ?_, ?_, ?_⟩
              · refine ⟨by omega, ?_⟩
                intro i hi
                rcases Nat.lt_succ_iff_lt_or_eq.1 hi with h | h
                · exact hinv.2 i h
                · rw [h]; exact hgood
              · omega
              · exact ⟨(by first | rfl | (congr 1; omega) | simp), trivial⟩
              · exact (Some'.weak (.takeEq (by first | rfl | simp) (.takeEq (by first | rfl | simp) (.take (.nil _)))))
          · have p43 := h43; try simp only [bs] at p43
            have hknm : m = (gq xs j).length := by omega
            have hgoodJ : (!bx ds j && common (gq xs j) (gq xs i)) = false := by
              cases hb : bx ds j with
              | true => rfl
              | false =>
                rw [common_false fun q hq => by have h := hinv.2 q (by omega); rw [hb] at h; simpa using h]; rfl
            refine Run.exit rfl ?_
            refine Run.blockEnd ?_
            refine Run.region ?_
            refine Run.q (v := .int .i64 (((j : Nat) : Int))) rfl (OpQ.y (OpY.pure rfl)) ?_
            refine Run.q (v := .int .i64 ((((j : Nat) : Int)) + 1)) rfl (OpQ.y (OpY.add rfl rfl rfl (by omega) (by omega))) ?_
            refine Run.q (v := .int .i64 ((((j : Nat) : Int)) + 1)) rfl (OpQ.y (OpY.pure rfl)) ?_
            refine Run.done ?_
            refine Run.goal ⟨(by repeat (first | exact Same.refl _ _ | refine Same.put rfl ?_ | refine Same.over rfl rfl ?_)), j + 1, ?_, ?_, ?_, ?_⟩
            · refine ⟨by omega, fun q hq => ?_⟩
              rcases Nat.lt_succ_iff_lt_or_eq.1 hq with h | h
              · exact hinvA.2 q h
              · rw [h]; exact hgoodJ
            · omega
            · exact ⟨(by first | rfl | (congr 1; omega) | simp), trivial⟩
            · exact (Some'.weak (.skip (.takeEq (by first | rfl | simp) (.take (.nil _)))))
      · have p32 := h32; try simp only [bs] at p32
        have hres : rdy xs ds i = true := rdy_good h0 fun q hq => hinv.2 q (by omega)
        refine Run.exit rfl ?_
        refine Run.seq ?_
        refine Run.region ?_
        refine Run.q (v := .bool true) rfl (OpQ.y (OpY.pure rfl)) ?_
        refine Run.done ?_
        refine Run.ret ?_
        refine ⟨.bool true, [], Out.one rfl rfl, (Some'.weak (.nil _)), ?_⟩
        show _ = _; rw [hres]

end Go.Proofs.Ytekikmdjldincaa
