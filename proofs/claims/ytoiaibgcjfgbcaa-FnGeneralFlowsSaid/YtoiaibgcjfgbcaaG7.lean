/- Walks: open graphs: layers, sets, what is before. -/
import Derived.Test.YtoiaibgcjfgbcaaG6
import Derived.Test.YtoiaibgcjfgbcaaProg
set_option linter.unusedSimpArgs false
set_option linter.unusedVariables false
namespace Go.Proofs.Ytoiaibgcjfgbcaa
open Go Go.RowKit
namespace FwbT
theorem Tcall_25 : callable Try.prog 25 = true := by kernel_rfl
theorem Tcall_60 : callable Try.prog 60 = true := by kernel_rfl
theorem Tcall_62 : callable Try.prog 62 = true := by kernel_rfl
theorem Tfo_26_0 : fieldOff Try.prog 26 0 = some 0 := by kernel_rfl
theorem Tfo_26_3 : fieldOff Try.prog 26 3 = some 3 := by kernel_rfl
theorem Tint_52 : Try.prog.underlying 52 = some (.int .u64) := by kernel_rfl
theorem Tone_24 : oneOf Try.prog 24 = true := by kernel_rfl
theorem Tone_3 : oneOf Try.prog 3 = true := by kernel_rfl
theorem Tsize_3 : (Try.prog.info? 3).map (·.size) = some 1 := by kernel_rfl
theorem Tsl_24 : sliceOf Try.prog 24 = some (3, 1, 8, [.int .i64 0]) := by kernel_rfl
theorem Tsome_3 : (Try.prog.underlying 3).isSome = true := by kernel_rfl
end FwbT
open FwbT
/-- -1 everywhere but 0 at the first k nodes of a list. -/
def lyO (os : List Int) (k n : Nat) : List Int := mapN (fun v => if hasI os v k then 0 else -1) n
theorem lyO_zero (os : List Int) (n : Nat) : lyO os 0 n = List.replicate n (-1) := by
  have e : (fun v : Nat => if hasI os (v : Int) 0 = true then (0 : Int) else -1) = fun _ => -1 := by funext v; rfl
  rw [lyO, e, mapN]; exact List.map_const' .. |>.trans (by simp)
theorem mapN_ext {f g : Nat → Int} {n : Nat} (h : ∀ v, v < n → f v = g v) : mapN f n = mapN g n := List.map_congr_left fun v hv => h v (List.mem_range.1 hv)
theorem list_mapN {l : List Int} {n : Nat} (h : l.length = n) : l = mapN (fun v => ix l v) n := by
  refine List.ext_getElem (by simp [h]) fun i h1 h2 => ?_
  simp [mapN, ix, List.getD, h1]
theorem ix_lset {l : List Int} {i v : Nat} {x : Int} (hi : i < l.length) : ix (l.set i x) v = if v = i then x else ix l v := by
  simp only [ix, List.getD, List.getElem?_set]
  by_cases e : i = v
  · subst e; simp [hi]
  · rw [if_neg e, if_neg (fun h => e h.symm)]
theorem eq_mapN {l : List Int} {f : Nat → Int} {n : Nat} (hl : l.length = n) (h : ∀ v, v < n → ix l v = f v) : l = mapN f n := by
  rw [list_mapN hl]; exact mapN_ext h
theorem lyO_set {os : List Int} {k n u : Nat} (hu : u < n) (h : ix os k = (u : Int)) : (lyO os k n).set u 0 = lyO os (k + 1) n := by
  refine eq_mapN (by simp [lyO]) fun v hv => ?_
  rw [ix_lset (by simpa [lyO] using hu), hasI_succ, h]
  by_cases e : v = u
  · subst e; simp
  · rw [if_neg e, lyO, ix_mapN hv, decide_eq_false (by omega), Bool.or_false]
/-- 0 everywhere, and -1 at those below k that are not in the list. -/
def lyS (os : List Int) (no k n : Nat) : List Int := mapN (fun v => if v < k ∧ hasI os v no = false then -1 else 0) n
theorem lyS_zero (os : List Int) (no n : Nat) : lyS os no 0 n = List.replicate n 0 := by
  have e : (fun v : Nat => if v < 0 ∧ hasI os (v : Int) no = false then (-1 : Int) else 0) = fun _ => 0 := by funext v; simp
  rw [lyS, e, mapN]; exact List.map_const' .. |>.trans (by simp)
theorem lyS_all (os : List Int) (no n : Nat) : lyS os no n n = ly0 os no n := mapN_ext fun v hv => by
  cases h : hasI os (v : Int) no <;> simp [hv]
theorem lyS_set {os : List Int} {no k n : Nat} (hk : k < n) (h : hasI os (k : Int) no = false) : (lyS os no k n).set k (-1) = lyS os no (k + 1) n := by
  refine eq_mapN (by simp [lyS]) fun v hv => ?_
  rw [ix_lset (by simpa [lyS] using hk)]
  by_cases e : v = k
  · subst e; simp [h]
  · rw [if_neg e, lyS, ix_mapN hv]
    have : (v < k + 1) ↔ (v < k) := by omega
    simp only [this]
theorem lyS_keep {os : List Int} {no k n : Nat} (h : hasI os (k : Int) no = true) : lyS os no (k + 1) n = lyS os no k n := mapN_ext fun v hv => by
  by_cases e : v = k
  · subst e; simp [h]
  · have : (v < k + 1) ↔ (v < k) := by omega
    simp only [this]
@[simp] theorem lyO_length (os : List Int) (k n : Nat) : (lyO os k n).length = n := by simp [lyO]
@[simp] theorem lyS_length (os : List Int) (no k n : Nat) : (lyS os no k n).length = n := by simp [lyS]
theorem befK {ly : List Int} {v set n : Nat} : befB ly v set n = allI (fun u => !(set.testBit u && decide (ix ly v ≤ ix ly u))) n := rfl
theorem rep0 (n : Nat) : (List.replicate n ([.int .i64 0] : List Value)).flatten = ints (List.replicate n 0) := by
  induction n with
  | zero => rfl
  | succ n ih => rw [List.replicate_succ, List.flatten_cons, ih, List.replicate_succ]; rfl

set_option maxHeartbeats 1000000 in
set_option maxRecDepth 20000 in
theorem firstLayer_spec {ve vi vo : Value} {n no : Nat} {os : List Int} {w : World} (hn1 : 1 ≤ n) (hn10 : n ≤ 10) (hos : risB os n no = true) (ho : Sl w vo 1 no (ints os)) : Calls Try.prog 26 #[.agg #[.int .i64 (n : Int), ve, vi, vo]] w (Post No w fun v H => H = [.own v 3 1 n (ints (ly0 os no n))]) := by
 have hxo := ho.len
 have hxo2 := ho.le
 obtain ⟨Ao, co, rfl, _, _⟩ := ho.form0
 refine enter (n := 22) (args := [.agg #[.int .i64 (((n : Nat) : Int)), ve, vi, .slice Ao no co]]) Try.func26 rfl rfl (St.empty _ _) ?_
 refine Run.sr ?_
 refine Run.step rfl (OpStep.box (us := [.int .i64 (((n : Nat) : Int)), ve, vi, .slice Ao no co]) rfl fun b1 => ?_)
 refine Run.p (.slice none 0 0) rfl rfl ?_
 refine Run.dsr ?_
 refine Run.step rfl (OpStep.buildSlice (us := [.int .i64 (-1)]) Tsl_24 (by decide) (by decide) ⟨rfl, [.int .i64 (-1)], _, rfl, rfl, rfl, rfl⟩ rfl fun b2 => ?_)
 refine Run.y (.pointer (some ⟨b1, 0, none⟩)) rfl (OpY.fieldAddr Tfo_26_0 rfl rfl) ?_
 refine Run.y (.int .i64 (((n : Nat) : Int))) rfl (OpY.load1 Tone_3 rfl (Cells.blk (.tail _ (List.Mem.head _)) ⟨rfl, trivial⟩)) ?_
 refine Run.step rfl (OpStep.call (vs := [.slice (some ⟨b2, 0, none⟩) 1 1, .int .i64 (((n : Nat) : Int))]) (caps := []) Tcall_25 rfl rfl (fun w hs => Repeat_spec hn1 hn10 (hs.slOwn (.head _))) ?_)
 rintro ur _ rfl
 show Run _ _ (putF _ _ _ ur) [.own ur 3 1 n (ints (List.replicate n (-1))), .own (.slice (some ⟨b2, 0, none⟩) 1 1) 3 1 1 ([.int .i64 (-1)]), .blk b1 26 [.int .i64 (((n : Nat) : Int)), ve, vi, .slice Ao no co]]
 refine Run.p (ur) rfl rfl ?_
 refine Run.done ?_
 refine Run.seq ?_
 refine Run.sr ?_
 refine Run.y (.pointer (some ⟨b1, 3, none⟩)) rfl (OpY.fieldAddr Tfo_26_3 rfl rfl) ?_
 refine Run.y (.slice Ao no co) rfl (OpY.load1 Tone_24 rfl (Cells.blk (.tail _ (.tail _ (List.Mem.head _))) ⟨rfl, trivial⟩)) ?_
 refine Run.y (.int .i64 (((no : Nat) : Int))) rfl (OpY.len Tsl_24 rfl) ?_
 refine Run.p (.int .i64 0) rfl rfl ?_
 refine Run.done ?_
 refine Run.block ?_
 refine Run.loop (ι := Nat) [5, 13, 14, 15, 16, 17, 18, 19, 20] (fun k => [(13, .int .i64 (((k : Nat) : Int)))]) (fun k => [.own ur 3 1 n (ints (lyO os k n)), .blk b1 26 [.int .i64 (((n : Nat) : Int)), ve, vi, .slice Ao no co]]) (fun k => k ≤ no ∧ (True)) (fun k => no - k) 0 ?_ ?_ ?_ ?_
 ·exact ⟨Nat.zero_le _, by first | trivial | (intro i hi; omega)⟩
 ·exact ⟨rfl, trivial⟩
 ·exact ((Weak.selF [0, 1]).trans (Some'.weak (.takeEq (by first | rfl | (rw [lyO_zero]) | (rw [lyO_set (by omega) hu])) (.take (.nil _)))))
 ·rintro k fr hinv
  show Run _ _ (over _ _ [(13, .int .i64 (((k : Nat) : Int)))] fr) [.own ur 3 1 n (ints (lyO os k n)), .blk b1 26 [.int .i64 (((n : Nat) : Int)), ve, vi, .slice Ao no co]]
  try dsimp only at hinv
  refine Run.sr ?_
  refine Run.p (.bool (decide ((((k : Nat) : Int)) < (((no : Nat) : Int))))) rfl rfl ?_
  refine Run.done ?_
  refine Run.seq ?_
  refine Run.cond (b := decide ((((k : Nat) : Int)) < (((no : Nat) : Int)))) rfl (fun h14 => ?_) (fun h14 => ?_)
  ·have p14 := h14; try simp only [bs] at p14
   have hltk : k < no := by omega
   obtain ⟨b, o, rfl⟩ := ho.opn (by omega)
   obtain ⟨hu0, hun⟩ := ris_in hos k hltk
   obtain ⟨u, hu⟩ : ∃ u : Nat, ix os k = (u : Int) := ⟨(ix os k).toNat, by omega⟩
   refine Run.openOwn (.head _) (by omega) (fun gr cr hvgr hcapgr _ => ?_) (fun _ _ _ => ⟨nofun, nofun, nofun⟩)
   subst hvgr
   refine Run.skip ?_
   refine Run.seq ?_
   refine Run.block ?_
   refine Run.sr ?_
   refine Run.y (.pointer (some ⟨b, o + k, none⟩)) rfl (OpY.index (kk := k) Tsl_24 rfl rfl (by omega) (by omega) (by first | rfl | omega)) ?_
   refine Run.y (.int .i64 (ix os (k))) rfl (OpY.load1 Tone_3 rfl (Cells.arg (k := k) ho rfl (by omega) (pre1 (by omega)))) ?_
   refine Run.p (.int .i64 (ix os (k))) rfl rfl ?_
   refine Run.dr ?_
   refine Run.p (.slice (some ⟨gr, 0, none⟩) n cr) rfl rfl ?_
   refine Run.p (.int .i64 (ix os (k))) rfl rfl ?_
   refine Run.y (.pointer (some ⟨gr, u, none⟩)) rfl (OpY.index (kk := u) Tsl_24 rfl rfl (by omega) (by omega) (by first | rfl | omega)) ?_
   refine Run.step rfl (OpStep.storeOwnInt (o := u) (a := 0) Tsize_3 rfl rfl (.here _) (by first | omega | (simp only [lyO_length]; omega) | (simp; omega)) ?_)
   refine Run.done ?_
   refine Run.blockEnd ?_
   refine Run.region ?_
   refine Run.y (.int .i64 ((((k : Nat) : Int)) + 1)) rfl (OpY.add rfl rfl rfl (by omega) (by omega)) ?_
   refine Run.p (.int .i64 ((((k : Nat) : Int)) + 1)) rfl rfl ?_
   refine Run.done ?_
   refine Run.goal ⟨(by repeat (first | exact Same.refl _ _ | refine Same.put rfl ?_ | refine Same.over rfl rfl ?_)), k + 1, ?_, ?_, ?_, ?_⟩
   ·refine ⟨by omega, ?_⟩
    trivial
   ·omega
   ·exact ⟨(by first | rfl | (congr 1; omega) | simp), trivial⟩
   ·exact ((Weak.refl _).trans (Some'.weak (.takeEq (by first | rfl | (rw [lyO_zero]) | (rw [lyO_set (by omega) hu])) (.takeEq (by first | rfl | (rw [lyO_zero]) | (rw [lyO_set (by omega) hu])) (.nil _)))))
  ·have p14 := h14; try simp only [bs] at p14
   have hknk : k = no := by omega
   refine Run.exit rfl ?_
   refine Run.sr ?_
   refine Run.p (ur) rfl rfl ?_
   refine Run.p (ur) rfl rfl ?_
   refine Run.done ?_
   refine Run.ret ?_
   refine ⟨ur, [.own ur 3 1 n (ints (ly0 os no n))], Out.one rfl rfl, (Some'.weak (.takeEq (by first | rfl | (rw [hknk]; rfl)) (.nil _))), ?_⟩
   rfl

set_option maxHeartbeats 1000000 in
set_option maxRecDepth 20000 in
theorem l19Start_spec {ve vi vo : Value} {n no : Nat} {os : List Int} {w : World} (hn1 : 1 ≤ n) (hn10 : n ≤ 10) (ho : Sl w vo 1 no (ints os)) : Calls Try.prog 57 #[.agg #[.int .i64 (n : Int), ve, vi, vo]] w (Post No w fun v H => H = [.own v 3 1 n (ints (ly0 os no n))]) := by
 refine enter (n := 23) (args := [.agg #[.int .i64 (((n : Nat) : Int)), ve, vi, vo]]) Try.func57 rfl rfl (St.empty _ _) ?_
 refine Run.sr ?_
 refine Run.step rfl (OpStep.box (us := [.int .i64 (((n : Nat) : Int)), ve, vi, vo]) rfl fun b1 => ?_)
 refine Run.p (.slice none 0 0) rfl rfl ?_
 refine Run.dsr ?_
 refine Run.y (.pointer (some ⟨b1, 0, none⟩)) rfl (OpY.fieldAddr Tfo_26_0 rfl rfl) ?_
 refine Run.y (.int .i64 (((n : Nat) : Int))) rfl (OpY.load1 Tone_3 rfl (Cells.blk (.head _) ⟨rfl, trivial⟩)) ?_
 refine Run.step rfl (OpStep.makeSlice (n := n) Tsl_24 rfl (by decide) (by first | rfl | omega) (by first | rfl | omega) (by omega) (by simp only [maxLen]; omega) fun b2 => ?_)
 refine Run.p (.slice (some ⟨b2, 0, none⟩) n n) rfl rfl ?_
 refine Run.done ?_
 refine Run.seq ?_
 refine Run.sr ?_
 refine Run.p (.slice (some ⟨b2, 0, none⟩) n n) rfl rfl ?_
 refine Run.y (.int .i64 (((n : Nat) : Int))) rfl (OpY.len Tsl_24 rfl) ?_
 refine Run.p (.int .i64 0) rfl rfl ?_
 refine Run.done ?_
 refine Run.block ?_
 refine Run.loop (ι := Nat) [4, 10, 11, 12, 13, 14, 15, 16, 17, 18, 19, 20, 21] (fun k => [(10, .int .i64 (((k : Nat) : Int)))]) (fun k => [.own (.slice (some ⟨b2, 0, none⟩) n n) 3 1 n (ints (lyS os no k n)), .blk b1 26 [.int .i64 (((n : Nat) : Int)), ve, vi, vo]]) (fun k => k ≤ n) (fun k => n - k) 0 ?_ ?_ ?_ ?_
 ·exact Nat.zero_le _
 ·exact ⟨rfl, trivial⟩
 ·exact ((Weak.refl _).trans (Some'.weak (.takeEq (by first | rfl | (rw [lyS_zero, rep0]) | (rw [lyS_set hkn hh]) | (rw [lyS_keep hh])) (.take (.nil _)))))
 ·rintro k fr hinv
  show Run _ _ (over _ _ [(10, .int .i64 (((k : Nat) : Int)))] fr) [.own (.slice (some ⟨b2, 0, none⟩) n n) 3 1 n (ints (lyS os no k n)), .blk b1 26 [.int .i64 (((n : Nat) : Int)), ve, vi, vo]]
  try dsimp only at hinv
  refine Run.sr ?_
  refine Run.p (.bool (decide ((((k : Nat) : Int)) < (((n : Nat) : Int))))) rfl rfl ?_
  refine Run.done ?_
  refine Run.seq ?_
  refine Run.cond (b := decide ((((k : Nat) : Int)) < (((n : Nat) : Int)))) rfl (fun h11 => ?_) (fun h11 => ?_)
  ·have p11 := h11; try simp only [bs] at p11
   have hkn : k < n := by omega
   refine Run.skip ?_
   refine Run.seq ?_
   refine Run.block ?_
   refine Run.sr ?_
   refine Run.p (.int .i64 (((k : Nat) : Int))) rfl rfl ?_
   refine Run.p (.int .i64 (((k : Nat) : Int))) rfl rfl ?_
   refine Run.dsr ?_
   refine Run.y (.pointer (some ⟨b1, 3, none⟩)) rfl (OpY.fieldAddr Tfo_26_3 rfl rfl) ?_
   refine Run.y (vo) rfl (OpY.load1 Tone_24 rfl (Cells.blk (.tail _ (List.Mem.head _)) ⟨rfl, trivial⟩)) ?_
   refine Run.p (.int .i64 (((k : Nat) : Int))) rfl rfl ?_
   refine Run.q (v := .bool (hasI os (k : Int) no)) rfl (OpQ.call (vs := [vo, .int .i64 (((k : Nat) : Int))]) (caps := []) Tcall_62 rfl rfl (fun w hs => l1Has_spec (hs.sl ho))) ?_
   refine Run.p (.bool (!(hasI os (k : Int) no))) rfl rfl ?_
   refine Run.done ?_
   refine Run.cond (b := !(hasI os (k : Int) no)) rfl (fun h17 => ?_) (fun h17 => ?_)
   ·have p17 := h17; try simp only [bs] at p17
    have hh : hasI os (k : Int) no = false := by simpa using p17
    refine Run.region ?_
    refine Run.p (.slice (some ⟨b2, 0, none⟩) n n) rfl rfl ?_
    refine Run.p (.int .i64 (((k : Nat) : Int))) rfl rfl ?_
    refine Run.y (.pointer (some ⟨b2, k, none⟩)) rfl (OpY.index (kk := k) Tsl_24 rfl rfl (by omega) (by omega) (by first | rfl | omega)) ?_
    refine Run.step rfl (OpStep.storeOwnInt (o := k) (a := -1) Tsize_3 rfl rfl (.here _) (by first | omega | (simp only [lyS_length]; omega) | (simp; omega)) ?_)
    refine Run.done ?_
    refine Run.blockEnd ?_
    refine Run.region ?_
    refine Run.y (.int .i64 ((((k : Nat) : Int)) + 1)) rfl (OpY.add rfl rfl rfl (by omega) (by omega)) ?_
    refine Run.p (.int .i64 ((((k : Nat) : Int)) + 1)) rfl rfl ?_
    refine Run.done ?_
    refine Run.goal ⟨(by repeat (first | exact Same.refl _ _ | refine Same.put rfl ?_ | refine Same.over rfl rfl ?_)), k + 1, ?_, ?_, ?_, ?_⟩
    ·omega
    ·omega
    ·exact ⟨(by first | rfl | (congr 1; omega) | simp), trivial⟩
    ·exact ((Weak.refl _).trans (Some'.weak (.takeEq (by first | rfl | (rw [lyS_zero, rep0]) | (rw [lyS_set hkn hh]) | (rw [lyS_keep hh])) (.take (.nil _)))))
   ·have p17 := h17; try simp only [bs] at p17
    have hh : hasI os (k : Int) no = true := by simpa using p17
    refine Run.skip ?_
    refine Run.blockEnd ?_
    refine Run.region ?_
    refine Run.y (.int .i64 ((((k : Nat) : Int)) + 1)) rfl (OpY.add rfl rfl rfl (by omega) (by omega)) ?_
    refine Run.p (.int .i64 ((((k : Nat) : Int)) + 1)) rfl rfl ?_
    refine Run.done ?_
    refine Run.goal ⟨(by repeat (first | exact Same.refl _ _ | refine Same.put rfl ?_ | refine Same.over rfl rfl ?_)), k + 1, ?_, ?_, ?_, ?_⟩
    ·omega
    ·omega
    ·exact ⟨(by first | rfl | (congr 1; omega) | simp), trivial⟩
    ·exact ((Weak.refl _).trans (Some'.weak (.takeEq (by first | rfl | (rw [lyS_zero, rep0]) | (rw [lyS_set hkn hh]) | (rw [lyS_keep hh])) (.take (.nil _)))))
  ·have p11 := h11; try simp only [bs] at p11
   have hkn : k = n := by omega
   refine Run.exit rfl ?_
   refine Run.sr ?_
   refine Run.p (.slice (some ⟨b2, 0, none⟩) n n) rfl rfl ?_
   refine Run.p (.slice (some ⟨b2, 0, none⟩) n n) rfl rfl ?_
   refine Run.done ?_
   refine Run.ret ?_
   refine ⟨.slice (some ⟨b2, 0, none⟩) n n, [.own (.slice (some ⟨b2, 0, none⟩) n n) 3 1 n (ints (ly0 os no n))], Out.one rfl rfl, (Some'.weak (.takeEq (by first | rfl | (rw [hkn, lyS_all])) (.nil _))), ?_⟩
   rfl

set_option maxHeartbeats 1000000 in
set_option maxRecDepth 20000 in
theorem unlayered_spec {va : Value} {n : Nat} {ly : List Int} {w : World} (hn10 : n ≤ 10) (ha : Sl w va 1 n (ints ly)) : Calls Try.prog 27 #[va] w (Post No w fun v _ => v = .int .i64 ((unl ly n : Nat) : Int)) := by
 have hxl := ha.len
 obtain ⟨A, c, rfl, _, _⟩ := ha.form0
 refine enter (n := 21) (args := [.slice A n c]) Try.func27 rfl rfl (St.empty _ _) ?_
 refine Run.sr ?_
 refine Run.p (.int .i64 0) rfl rfl ?_
 refine Run.dsr ?_
 refine Run.p (.int .i64 0) rfl rfl ?_
 refine Run.done ?_
 refine Run.seq ?_
 refine Run.sr ?_
 refine Run.p (.slice A n c) rfl rfl ?_
 refine Run.y (.int .i64 (((n : Nat) : Int))) rfl (OpY.len Tsl_24 rfl) ?_
 refine Run.p (.int .i64 0) rfl rfl ?_
 refine Run.done ?_
 refine Run.block ?_
 refine Run.loop (ι := Nat) [3, 4, 5, 8, 9, 10, 11, 12, 13, 14, 15, 16, 17, 18, 19] (fun k => [(3, .int .i64 (((unl ly k : Nat) : Int))), (8, .int .i64 (((k : Nat) : Int)))]) (fun k => []) (fun k => k ≤ n ∧ (True)) (fun k => n - k) 0 ?_ ?_ ?_ ?_
 ·exact ⟨Nat.zero_le _, by first | trivial | (intro i hi; omega)⟩
 ·exact ⟨rfl, rfl, trivial⟩
 ·exact (Some'.weak (.nil _))
 ·rintro k fr hinv
  show Run _ _ (over _ _ [(3, .int .i64 (((unl ly k : Nat) : Int))), (8, .int .i64 (((k : Nat) : Int)))] fr) []
  try dsimp only at hinv
  refine Run.sr ?_
  refine Run.p (.bool (decide ((((k : Nat) : Int)) < (((n : Nat) : Int))))) rfl rfl ?_
  refine Run.done ?_
  refine Run.seq ?_
  refine Run.cond (b := decide ((((k : Nat) : Int)) < (((n : Nat) : Int)))) rfl (fun h9 => ?_) (fun h9 => ?_)
  ·have p9 := h9; try simp only [bs] at p9
   have hltk : k < n := by omega
   obtain ⟨b, o, rfl⟩ := ha.opn (by omega)
   have hul := unl_lt ly k
   have hkp := pow10 (n := k) (by omega)
   obtain ⟨q, hq, hq1, hq2⟩ := pow_q hn10 hltk
   refine Run.skip ?_
   refine Run.seq ?_
   refine Run.block ?_
   refine Run.sr ?_
   refine Run.p (.int .i64 (((k : Nat) : Int))) rfl rfl ?_
   refine Run.y (.pointer (some ⟨b, o + k, none⟩)) rfl (OpY.index (kk := k) Tsl_24 rfl rfl (by omega) (by omega) (by first | rfl | omega)) ?_
   refine Run.y (.int .i64 (ix ly (k))) rfl (OpY.load1 Tone_3 rfl (Cells.arg (k := k) ha rfl (by omega) (pre1 (by omega)))) ?_
   refine Run.p (.int .i64 (((k : Nat) : Int))) rfl rfl ?_
   refine Run.p (.int .i64 (ix ly (k))) rfl rfl ?_
   refine Run.dsr ?_
   refine Run.p (.int .i64 (ix ly (k))) rfl rfl ?_
   refine Run.p (.bool (decide ((ix ly (k)) < 0))) rfl rfl ?_
   refine Run.done ?_
   refine Run.cond (b := decide ((ix ly (k)) < 0)) rfl (fun h14 => ?_) (fun h14 => ?_)
   ·have p14 := h14; try simp only [bs] at p14
    refine Run.region ?_
    refine Run.p (.int .i64 (((unl ly k : Nat) : Int))) rfl rfl ?_
    refine Run.p (.int .i64 (((k : Nat) : Int))) rfl rfl ?_
    refine Run.y (.int .i64 (((q : Nat) : Int))) rfl (OpY.shlOne rfl rfl rfl (by omega) hq) ?_
    refine Run.y (.int .i64 (((unl ly k ||| q : Nat) : Int))) rfl (OpY.orNat rfl rfl rfl rfl (by omega) (by omega)) ?_
    refine Run.p (.int .i64 (((unl ly k ||| q : Nat) : Int))) rfl rfl ?_
    refine Run.done ?_
    refine Run.blockEnd ?_
    refine Run.region ?_
    refine Run.y (.int .i64 ((((k : Nat) : Int)) + 1)) rfl (OpY.add rfl rfl rfl (by omega) (by omega)) ?_
    refine Run.p (.int .i64 ((((k : Nat) : Int)) + 1)) rfl rfl ?_
    refine Run.done ?_
    refine Run.goal ⟨(by repeat (first | exact Same.refl _ _ | refine Same.put rfl ?_ | refine Same.over rfl rfl ?_)), k + 1, ?_, ?_, ?_, ?_⟩
    ·refine ⟨by omega, ?_⟩
     trivial
    ·omega
    ·exact ⟨(by show Value.int _ _ = Value.int _ _; congr 1; rw [unl]; first | (rw [if_pos (by omega), hq]; done) | (rw [if_neg (by omega)]; done)), (by first | rfl | (congr 1; omega) | simp), trivial⟩
    ·exact (Some'.weak (.nil _))
   ·have p14 := h14; try simp only [bs] at p14
    refine Run.skip ?_
    refine Run.blockEnd ?_
    refine Run.region ?_
    refine Run.y (.int .i64 ((((k : Nat) : Int)) + 1)) rfl (OpY.add rfl rfl rfl (by omega) (by omega)) ?_
    refine Run.p (.int .i64 ((((k : Nat) : Int)) + 1)) rfl rfl ?_
    refine Run.done ?_
    refine Run.goal ⟨(by repeat (first | exact Same.refl _ _ | refine Same.put rfl ?_ | refine Same.over rfl rfl ?_)), k + 1, ?_, ?_, ?_, ?_⟩
    ·refine ⟨by omega, ?_⟩
     trivial
    ·omega
    ·exact ⟨(by show Value.int _ _ = Value.int _ _; congr 1; rw [unl]; first | (rw [if_pos (by omega), hq]; done) | (rw [if_neg (by omega)]; done)), (by first | rfl | (congr 1; omega) | simp), trivial⟩
    ·exact (Some'.weak (.nil _))
  ·have p9 := h9; try simp only [bs] at p9
   have hknk : k = n := by omega
   refine Run.exit rfl ?_
   refine Run.sr ?_
   refine Run.p (.int .i64 (((unl ly k : Nat) : Int))) rfl rfl ?_
   refine Run.p (.int .i64 (((unl ly k : Nat) : Int))) rfl rfl ?_
   refine Run.done ?_
   refine Run.ret ?_
   refine ⟨.int .i64 (((unl ly k : Nat) : Int)), [], Out.one rfl rfl, (Some'.weak (.nil _)), ?_⟩
   show _ = _; rw [hknk]

set_option maxHeartbeats 1000000 in
set_option maxRecDepth 20000 in
theorem l19Open_spec {va : Value} {n : Nat} {ly : List Int} {w : World} (hn10 : n ≤ 10) (ha : Sl w va 1 n (ints ly)) : Calls Try.prog 58 #[va] w (Post No w fun v _ => v = .int .i64 ((unl ly n : Nat) : Int)) := by
 have hxl := ha.len
 obtain ⟨A, c, rfl, _, _⟩ := ha.form0
 refine enter (n := 22) (args := [.slice A n c]) Try.func58 rfl rfl (St.empty _ _) ?_
 refine Run.sr ?_
 refine Run.p (.int .i64 0) rfl rfl ?_
 refine Run.dsr ?_
 refine Run.p (.int .i64 0) rfl rfl ?_
 refine Run.done ?_
 refine Run.seq ?_
 refine Run.sr ?_
 refine Run.p (.slice A n c) rfl rfl ?_
 refine Run.y (.int .i64 (((n : Nat) : Int))) rfl (OpY.len Tsl_24 rfl) ?_
 refine Run.p (.int .i64 0) rfl rfl ?_
 refine Run.done ?_
 refine Run.block ?_
 refine Run.loop (ι := Nat) [3, 4, 5, 8, 9, 10, 11, 12, 13, 14, 15, 16, 17, 18, 19, 20] (fun k => [(3, .int .i64 (((unl ly k : Nat) : Int))), (8, .int .i64 (((k : Nat) : Int)))]) (fun k => []) (fun k => k ≤ n ∧ (True)) (fun k => n - k) 0 ?_ ?_ ?_ ?_
 ·exact ⟨Nat.zero_le _, by first | trivial | (intro i hi; omega)⟩
 ·exact ⟨rfl, rfl, trivial⟩
 ·exact (Some'.weak (.nil _))
 ·rintro k fr hinv
  show Run _ _ (over _ _ [(3, .int .i64 (((unl ly k : Nat) : Int))), (8, .int .i64 (((k : Nat) : Int)))] fr) []
  try dsimp only at hinv
  refine Run.sr ?_
  refine Run.p (.bool (decide ((((k : Nat) : Int)) < (((n : Nat) : Int))))) rfl rfl ?_
  refine Run.done ?_
  refine Run.seq ?_
  refine Run.cond (b := decide ((((k : Nat) : Int)) < (((n : Nat) : Int)))) rfl (fun h9 => ?_) (fun h9 => ?_)
  ·have p9 := h9; try simp only [bs] at p9
   have hltk : k < n := by omega
   obtain ⟨b, o, rfl⟩ := ha.opn (by omega)
   have hul := unl_lt ly k
   have hkp := pow10 (n := k) (by omega)
   obtain ⟨q, hq, hq1, hq2⟩ := pow_q hn10 hltk
   refine Run.skip ?_
   refine Run.seq ?_
   refine Run.block ?_
   refine Run.sr ?_
   refine Run.p (.int .i64 (((k : Nat) : Int))) rfl rfl ?_
   refine Run.y (.pointer (some ⟨b, o + k, none⟩)) rfl (OpY.index (kk := k) Tsl_24 rfl rfl (by omega) (by omega) (by first | rfl | omega)) ?_
   refine Run.y (.int .i64 (ix ly (k))) rfl (OpY.load1 Tone_3 rfl (Cells.arg (k := k) ha rfl (by omega) (pre1 (by omega)))) ?_
   refine Run.p (.int .i64 (((k : Nat) : Int))) rfl rfl ?_
   refine Run.p (.int .i64 (ix ly (k))) rfl rfl ?_
   refine Run.dsr ?_
   refine Run.p (.int .i64 (ix ly (k))) rfl rfl ?_
   refine Run.p (.bool (decide ((ix ly (k)) < 0))) rfl rfl ?_
   refine Run.done ?_
   refine Run.cond (b := decide ((ix ly (k)) < 0)) rfl (fun h14 => ?_) (fun h14 => ?_)
   ·have p14 := h14; try simp only [bs] at p14
    refine Run.region ?_
    refine Run.p (.int .i64 (((unl ly k : Nat) : Int))) rfl rfl ?_
    refine Run.p (.int .i64 (((k : Nat) : Int))) rfl rfl ?_
    refine Run.y (.int .u64 (((k : Nat) : Int))) rfl (OpY.convIntEq Tsome_3 Tint_52 rfl (by rw [IntKind.wrap_u64]; omega)) ?_
    refine Run.y (.int .i64 (((q : Nat) : Int))) rfl (OpY.shlOne rfl rfl rfl (by omega) hq) ?_
    refine Run.y (.int .i64 (((unl ly k ||| q : Nat) : Int))) rfl (OpY.orNat rfl rfl rfl rfl (by omega) (by omega)) ?_
    refine Run.p (.int .i64 (((unl ly k ||| q : Nat) : Int))) rfl rfl ?_
    refine Run.done ?_
    refine Run.blockEnd ?_
    refine Run.region ?_
    refine Run.y (.int .i64 ((((k : Nat) : Int)) + 1)) rfl (OpY.add rfl rfl rfl (by omega) (by omega)) ?_
    refine Run.p (.int .i64 ((((k : Nat) : Int)) + 1)) rfl rfl ?_
    refine Run.done ?_
    refine Run.goal ⟨(by repeat (first | exact Same.refl _ _ | refine Same.put rfl ?_ | refine Same.over rfl rfl ?_)), k + 1, ?_, ?_, ?_, ?_⟩
    ·refine ⟨by omega, ?_⟩
     trivial
    ·omega
    ·exact ⟨(by show Value.int _ _ = Value.int _ _; congr 1; rw [unl]; first | (rw [if_pos (by omega), hq]; done) | (rw [if_neg (by omega)]; done)), (by first | rfl | (congr 1; omega) | simp), trivial⟩
    ·exact (Some'.weak (.nil _))
   ·have p14 := h14; try simp only [bs] at p14
    refine Run.skip ?_
    refine Run.blockEnd ?_
    refine Run.region ?_
    refine Run.y (.int .i64 ((((k : Nat) : Int)) + 1)) rfl (OpY.add rfl rfl rfl (by omega) (by omega)) ?_
    refine Run.p (.int .i64 ((((k : Nat) : Int)) + 1)) rfl rfl ?_
    refine Run.done ?_
    refine Run.goal ⟨(by repeat (first | exact Same.refl _ _ | refine Same.put rfl ?_ | refine Same.over rfl rfl ?_)), k + 1, ?_, ?_, ?_, ?_⟩
    ·refine ⟨by omega, ?_⟩
     trivial
    ·omega
    ·exact ⟨(by show Value.int _ _ = Value.int _ _; congr 1; rw [unl]; first | (rw [if_pos (by omega), hq]; done) | (rw [if_neg (by omega)]; done)), (by first | rfl | (congr 1; omega) | simp), trivial⟩
    ·exact (Some'.weak (.nil _))
  ·have p9 := h9; try simp only [bs] at p9
   have hknk : k = n := by omega
   refine Run.exit rfl ?_
   refine Run.sr ?_
   refine Run.p (.int .i64 (((unl ly k : Nat) : Int))) rfl rfl ?_
   refine Run.p (.int .i64 (((unl ly k : Nat) : Int))) rfl rfl ?_
   refine Run.done ?_
   refine Run.ret ?_
   refine ⟨.int .i64 (((unl ly k : Nat) : Int)), [], Out.one rfl rfl, (Some'.weak (.nil _)), ?_⟩
   show _ = _; rw [hknk]

set_option maxHeartbeats 1000000 in
set_option maxRecDepth 20000 in
theorem maskOf_spec {va : Value} {n k0 : Nat} {xs : List Int} {w : World} (hn10 : n ≤ 10) (hr : ∀ i, i < k0 → 0 ≤ ix xs i ∧ ix xs i < n) (ha : Sl w va 1 k0 (ints xs)) : Calls Try.prog 38 #[va] w (Post No w fun v _ => v = .int .i64 ((mskK xs k0 : Nat) : Int)) := by
 have hxl := ha.len
 have hk0l := ha.le
 obtain ⟨A, c, rfl, _, _⟩ := ha.form0
 have hp10 := pow10 hn10
 refine enter (n := 18) (args := [.slice A k0 c]) Try.func38 rfl rfl (St.empty _ _) ?_
 refine Run.sr ?_
 refine Run.p (.int .i64 0) rfl rfl ?_
 refine Run.dsr ?_
 refine Run.p (.int .i64 0) rfl rfl ?_
 refine Run.done ?_
 refine Run.seq ?_
 refine Run.sr ?_
 refine Run.p (.slice A k0 c) rfl rfl ?_
 refine Run.y (.int .i64 (((k0 : Nat) : Int))) rfl (OpY.len Tsl_24 rfl) ?_
 refine Run.p (.int .i64 0) rfl rfl ?_
 refine Run.done ?_
 refine Run.block ?_
 refine Run.loop (ι := Nat) [3, 5, 8, 9, 10, 11, 12, 13, 14, 15, 16] (fun k => [(3, .int .i64 (((mskK xs k : Nat) : Int))), (8, .int .i64 (((k : Nat) : Int)))]) (fun k => []) (fun k => k ≤ k0 ∧ (True)) (fun k => k0 - k) 0 ?_ ?_ ?_ ?_
 ·exact ⟨Nat.zero_le _, by first | trivial | (intro i hi; omega)⟩
 ·exact ⟨rfl, rfl, trivial⟩
 ·exact (Some'.weak (.nil _))
 ·rintro k fr hinv
  show Run _ _ (over _ _ [(3, .int .i64 (((mskK xs k : Nat) : Int))), (8, .int .i64 (((k : Nat) : Int)))] fr) []
  try dsimp only at hinv
  refine Run.sr ?_
  refine Run.p (.bool (decide ((((k : Nat) : Int)) < (((k0 : Nat) : Int))))) rfl rfl ?_
  refine Run.done ?_
  refine Run.seq ?_
  refine Run.cond (b := decide ((((k : Nat) : Int)) < (((k0 : Nat) : Int)))) rfl (fun h9 => ?_) (fun h9 => ?_)
  ·have p9 := h9; try simp only [bs] at p9
   have hltk : k < k0 := by omega
   obtain ⟨b, o, rfl⟩ := ha.opn (by omega)
   obtain ⟨hu0, hun⟩ := hr k hltk
   obtain ⟨u, hu⟩ : ∃ u : Nat, ix xs k = (u : Int) := ⟨(ix xs k).toNat, by omega⟩
   have hul := mskK_lt (n := n) (k := k) (l := xs) fun i hi => hr i (by omega)
   obtain ⟨q, hq, hq1, hq2⟩ := pow_q (k := u) hn10 (by omega)
   refine Run.skip ?_
   refine Run.seq ?_
   refine Run.block ?_
   refine Run.sr ?_
   refine Run.y (.pointer (some ⟨b, o + k, none⟩)) rfl (OpY.index (kk := k) Tsl_24 rfl rfl (by omega) (by omega) (by first | rfl | omega)) ?_
   refine Run.y (.int .i64 (ix xs (k))) rfl (OpY.load1 Tone_3 rfl (Cells.arg (k := k) ha rfl (by omega) (pre1 (by omega)))) ?_
   refine Run.p (.int .i64 (ix xs (k))) rfl rfl ?_
   refine Run.dr ?_
   refine Run.p (.int .i64 (((mskK xs k : Nat) : Int))) rfl rfl ?_
   refine Run.p (.int .i64 (ix xs (k))) rfl rfl ?_
   refine Run.y (.int .i64 (((q : Nat) : Int))) rfl (OpY.shlOne rfl rfl hu (by omega) hq) ?_
   refine Run.y (.int .i64 (((mskK xs k ||| q : Nat) : Int))) rfl (OpY.orNat rfl rfl rfl rfl (by omega) (by omega)) ?_
   refine Run.p (.int .i64 (((mskK xs k ||| q : Nat) : Int))) rfl rfl ?_
   refine Run.done ?_
   refine Run.blockEnd ?_
   refine Run.region ?_
   refine Run.y (.int .i64 ((((k : Nat) : Int)) + 1)) rfl (OpY.add rfl rfl rfl (by omega) (by omega)) ?_
   refine Run.p (.int .i64 ((((k : Nat) : Int)) + 1)) rfl rfl ?_
   refine Run.done ?_
   refine Run.goal ⟨(by repeat (first | exact Same.refl _ _ | refine Same.put rfl ?_ | refine Same.over rfl rfl ?_)), k + 1, ?_, ?_, ?_, ?_⟩
   ·refine ⟨by omega, ?_⟩
    trivial
   ·omega
   ·exact ⟨(by show Value.int _ _ = Value.int _ _; congr 1; rw [mskK, hu, Int.toNat_natCast, hq]), (by first | rfl | (congr 1; omega) | simp), trivial⟩
   ·exact (Some'.weak (.nil _))
  ·have p9 := h9; try simp only [bs] at p9
   have hknk : k = k0 := by omega
   refine Run.exit rfl ?_
   refine Run.sr ?_
   refine Run.p (.int .i64 (((mskK xs k : Nat) : Int))) rfl rfl ?_
   refine Run.p (.int .i64 (((mskK xs k : Nat) : Int))) rfl rfl ?_
   refine Run.done ?_
   refine Run.ret ?_
   refine ⟨.int .i64 (((mskK xs k : Nat) : Int)), [], Out.one rfl rfl, (Some'.weak (.nil _)), ?_⟩
   show _ = _; rw [hknk]

set_option maxHeartbeats 1000000 in
set_option maxRecDepth 20000 in
theorem l19Mask_spec {va : Value} {n k0 : Nat} {xs : List Int} {w : World} (hn10 : n ≤ 10) (hr : ∀ i, i < k0 → 0 ≤ ix xs i ∧ ix xs i < n) (ha : Sl w va 1 k0 (ints xs)) : Calls Try.prog 68 #[va] w (Post No w fun v _ => v = .int .i64 ((mskK xs k0 : Nat) : Int)) := by
 have hxl := ha.len
 have hk0l := ha.le
 obtain ⟨A, c, rfl, _, _⟩ := ha.form0
 have hp10 := pow10 hn10
 refine enter (n := 19) (args := [.slice A k0 c]) Try.func68 rfl rfl (St.empty _ _) ?_
 refine Run.sr ?_
 refine Run.p (.int .i64 0) rfl rfl ?_
 refine Run.dsr ?_
 refine Run.p (.int .i64 0) rfl rfl ?_
 refine Run.done ?_
 refine Run.seq ?_
 refine Run.sr ?_
 refine Run.p (.slice A k0 c) rfl rfl ?_
 refine Run.y (.int .i64 (((k0 : Nat) : Int))) rfl (OpY.len Tsl_24 rfl) ?_
 refine Run.p (.int .i64 0) rfl rfl ?_
 refine Run.done ?_
 refine Run.block ?_
 refine Run.loop (ι := Nat) [3, 5, 8, 9, 10, 11, 12, 13, 14, 15, 16, 17] (fun k => [(3, .int .i64 (((mskK xs k : Nat) : Int))), (8, .int .i64 (((k : Nat) : Int)))]) (fun k => []) (fun k => k ≤ k0 ∧ (True)) (fun k => k0 - k) 0 ?_ ?_ ?_ ?_
 ·exact ⟨Nat.zero_le _, by first | trivial | (intro i hi; omega)⟩
 ·exact ⟨rfl, rfl, trivial⟩
 ·exact (Some'.weak (.nil _))
 ·rintro k fr hinv
  show Run _ _ (over _ _ [(3, .int .i64 (((mskK xs k : Nat) : Int))), (8, .int .i64 (((k : Nat) : Int)))] fr) []
  try dsimp only at hinv
  refine Run.sr ?_
  refine Run.p (.bool (decide ((((k : Nat) : Int)) < (((k0 : Nat) : Int))))) rfl rfl ?_
  refine Run.done ?_
  refine Run.seq ?_
  refine Run.cond (b := decide ((((k : Nat) : Int)) < (((k0 : Nat) : Int)))) rfl (fun h9 => ?_) (fun h9 => ?_)
  ·have p9 := h9; try simp only [bs] at p9
   have hltk : k < k0 := by omega
   obtain ⟨b, o, rfl⟩ := ha.opn (by omega)
   obtain ⟨hu0, hun⟩ := hr k hltk
   obtain ⟨u, hu⟩ : ∃ u : Nat, ix xs k = (u : Int) := ⟨(ix xs k).toNat, by omega⟩
   have hul := mskK_lt (n := n) (k := k) (l := xs) fun i hi => hr i (by omega)
   obtain ⟨q, hq, hq1, hq2⟩ := pow_q (k := u) hn10 (by omega)
   refine Run.skip ?_
   refine Run.seq ?_
   refine Run.block ?_
   refine Run.sr ?_
   refine Run.y (.pointer (some ⟨b, o + k, none⟩)) rfl (OpY.index (kk := k) Tsl_24 rfl rfl (by omega) (by omega) (by first | rfl | omega)) ?_
   refine Run.y (.int .i64 (ix xs (k))) rfl (OpY.load1 Tone_3 rfl (Cells.arg (k := k) ha rfl (by omega) (pre1 (by omega)))) ?_
   refine Run.p (.int .i64 (ix xs (k))) rfl rfl ?_
   refine Run.dr ?_
   refine Run.p (.int .i64 (((mskK xs k : Nat) : Int))) rfl rfl ?_
   refine Run.p (.int .i64 (ix xs (k))) rfl rfl ?_
   refine Run.y (.int .u64 (((u : Nat) : Int))) rfl (OpY.convIntEq Tsome_3 Tint_52 rfl (by rw [hu, IntKind.wrap_u64]; omega)) ?_
   refine Run.y (.int .i64 (((q : Nat) : Int))) rfl (OpY.shlOne rfl rfl rfl (by omega) hq) ?_
   refine Run.y (.int .i64 (((mskK xs k ||| q : Nat) : Int))) rfl (OpY.orNat rfl rfl rfl rfl (by omega) (by omega)) ?_
   refine Run.p (.int .i64 (((mskK xs k ||| q : Nat) : Int))) rfl rfl ?_
   refine Run.done ?_
   refine Run.blockEnd ?_
   refine Run.region ?_
   refine Run.y (.int .i64 ((((k : Nat) : Int)) + 1)) rfl (OpY.add rfl rfl rfl (by omega) (by omega)) ?_
   refine Run.p (.int .i64 ((((k : Nat) : Int)) + 1)) rfl rfl ?_
   refine Run.done ?_
   refine Run.goal ⟨(by repeat (first | exact Same.refl _ _ | refine Same.put rfl ?_ | refine Same.over rfl rfl ?_)), k + 1, ?_, ?_, ?_, ?_⟩
   ·refine ⟨by omega, ?_⟩
    trivial
   ·omega
   ·exact ⟨(by show Value.int _ _ = Value.int _ _; congr 1; rw [mskK, hu, Int.toNat_natCast, hq]), (by first | rfl | (congr 1; omega) | simp), trivial⟩
   ·exact (Some'.weak (.nil _))
  ·have p9 := h9; try simp only [bs] at p9
   have hknk : k = k0 := by omega
   refine Run.exit rfl ?_
   refine Run.sr ?_
   refine Run.p (.int .i64 (((mskK xs k : Nat) : Int))) rfl rfl ?_
   refine Run.p (.int .i64 (((mskK xs k : Nat) : Int))) rfl rfl ?_
   refine Run.done ?_
   refine Run.ret ?_
   refine ⟨.int .i64 (((mskK xs k : Nat) : Int)), [], Out.one rfl rfl, (Some'.weak (.nil _)), ?_⟩
   show _ = _; rw [hknk]

set_option maxHeartbeats 1000000 in
set_option maxRecDepth 20000 in
theorem isBefore_spec {ve vi vo : Value} {n v set : Nat} {vl : Value} {ly : List Int} {w : World} (hn10 : n ≤ 10) (hv : v < n) (hset : set < 2 ^ n) (hl : Sl w vl 1 n (ints ly)) : Calls Try.prog 65 #[.agg #[.int .i64 (n : Int), ve, vi, vo], vl, .int .i64 (v : Int), .int .i64 (set : Int)] w (Post No w fun r _ => r = .bool (befB ly v set n)) := by
 have hll := hl.len
 have hp10 := pow10 hn10
 obtain ⟨A, c, rfl, _, _⟩ := hl.form0
 refine enter (n := 32) (args := [.agg #[.int .i64 (((n : Nat) : Int)), ve, vi, vo], .slice A n c, .int .i64 (((v : Nat) : Int)), .int .i64 (((set : Nat) : Int))]) Try.func65 rfl rfl (St.empty _ _) ?_
 refine Run.sr ?_
 refine Run.step rfl (OpStep.box (us := [.int .i64 (((n : Nat) : Int)), ve, vi, vo]) rfl fun b1 => ?_)
 refine Run.p (.bool false) rfl rfl ?_
 refine Run.done ?_
 refine Run.seq ?_
 refine Run.sr ?_
 refine Run.y (.pointer (some ⟨b1, 0, none⟩)) rfl (OpY.fieldAddr Tfo_26_0 rfl rfl) ?_
 refine Run.y (.int .i64 (((n : Nat) : Int))) rfl (OpY.load1 Tone_3 rfl (Cells.blk (.head _) ⟨rfl, trivial⟩)) ?_
 refine Run.p (.int .i64 0) rfl rfl ?_
 refine Run.done ?_
 refine Run.block ?_
 refine Run.loop (ι := Nat) [8, 9, 12, 13, 14, 15, 16, 17, 18, 19, 20, 21, 22, 23, 24, 25, 26, 27, 28, 29, 30, 31] (fun k => [(12, .int .i64 (((k : Nat) : Int)))]) (fun k => [.blk b1 26 [.int .i64 (((n : Nat) : Int)), ve, vi, vo]]) (fun k => k ≤ n ∧ ∀ u, u < k → (!(set.testBit u && decide (ix ly v ≤ ix ly u))) = true) (fun k => n - k) 0 ?_ ?_ ?_ ?_
 ·exact ⟨Nat.zero_le _, fun i hi => by omega⟩
 ·exact ⟨rfl, trivial⟩
 ·exact (Some'.weak (.take (.nil _)))
 ·rintro k fr hinv
  show Run _ _ (over _ _ [(12, .int .i64 (((k : Nat) : Int)))] fr) [.blk b1 26 [.int .i64 (((n : Nat) : Int)), ve, vi, vo]]
  try dsimp only at hinv
  refine Run.sr ?_
  refine Run.p (.bool (decide ((((k : Nat) : Int)) < (((n : Nat) : Int))))) rfl rfl ?_
  refine Run.done ?_
  refine Run.seq ?_
  refine Run.cond (b := decide ((((k : Nat) : Int)) < (((n : Nat) : Int)))) rfl (fun h13 => ?_) (fun h13 => ?_)
  ·have p13 := h13; try simp only [bs] at p13
   have hkn : k < n := by omega
   obtain ⟨b, o, rfl⟩ := hl.opn (by omega)
   refine Run.skip ?_
   refine Run.seq ?_
   refine Run.block ?_
   refine Run.sr ?_
   refine Run.p (.int .i64 (((k : Nat) : Int))) rfl rfl ?_
   refine Run.p (.int .i64 (((k : Nat) : Int))) rfl rfl ?_
   refine Run.done ?_
   refine Run.seq ?_
   refine Run.draws (by kernel_rfl) (by kernel_rfl) ?_
   refine Lex.q (v := .int .i64 (((set : Nat) : Int))) rfl (OpQ.y (OpY.pure rfl)) ?_
   refine Lex.q (v := .int .i64 (((k : Nat) : Int))) rfl (OpQ.y (OpY.pure rfl)) ?_
   refine Lex.q (v := .int .i64 ((((set : Nat) : Int)) >>> k)) rfl (OpQ.y (OpY.shr rfl rfl (by first | rfl | omega) (by omega))) ?_
   refine Lex.q (v := .int .i64 (((((set : Nat) : Int)) >>> k) % 2)) rfl (OpQ.y (OpY.and1 rfl rfl)) ?_
   refine Lex.q (v := .bool ((((((set : Nat) : Int)) >>> k) % 2) == 1)) rfl (OpQ.y (OpY.pure rfl)) ?_
   rcases Bool.eq_false_or_eq_true ((((((set : Nat) : Int)) >>> k) % 2) == 1) with h20 | h20
   ·refine Lex.q (v := .bool true) rfl (OpQ.y (OpY.moveB rfl h20)) ?_
    have p20 := h20; try simp only [bs] at p20
    have hbit : set.testBit k = true := by rw [← bitN]; exact bitI_true p20
    refine Lex.q (v := .slice (some ⟨b, o, none⟩) n c) rfl (OpQ.y (OpY.pure rfl)) ?_
    refine Lex.q (v := .int .i64 (((v : Nat) : Int))) rfl (OpQ.y (OpY.pure rfl)) ?_
    refine Lex.q (v := .pointer (some ⟨b, o + v, none⟩)) rfl (OpQ.y (OpY.index (kk := v) Tsl_24 rfl rfl (by omega) (by omega) (by first | rfl | omega))) ?_
    refine Lex.q (v := .int .i64 (ix ly (v))) rfl (OpQ.y (OpY.load1 Tone_3 rfl (Cells.arg (k := v) hl rfl (by omega) (pre1 (by omega))))) ?_
    refine Lex.q (v := .slice (some ⟨b, o, none⟩) n c) rfl (OpQ.y (OpY.pure rfl)) ?_
    refine Lex.q (v := .int .i64 (((k : Nat) : Int))) rfl (OpQ.y (OpY.pure rfl)) ?_
    refine Lex.q (v := .pointer (some ⟨b, o + k, none⟩)) rfl (OpQ.y (OpY.index (kk := k) Tsl_24 rfl rfl (by omega) (by omega) (by first | rfl | omega))) ?_
    refine Lex.q (v := .int .i64 (ix ly (k))) rfl (OpQ.y (OpY.load1 Tone_3 rfl (Cells.arg (k := k) hl rfl (by omega) (pre1 (by omega))))) ?_
    refine Lex.q (v := .bool (decide ((ix ly (v)) ≤ (ix ly (k))))) rfl (OpQ.y (OpY.pure rfl)) ?_
    refine Lex.q (v := .bool (decide ((ix ly (v)) ≤ (ix ly (k))))) rfl (OpQ.y (OpY.pure rfl)) ?_
    refine Lex.done ?_
    refine Run.cond (b := decide ((ix ly (v)) ≤ (ix ly (k)))) rfl (fun h30 => ?_) (fun h30 => ?_)
    ·have p30 := h30; try simp only [bs] at p30
     refine Run.seq ?_
     have hres : befB ly v set n = false := by rw [befK]; exact allI_false hkn (by rw [hbit]; simp; omega)
     refine Run.region ?_
     refine Run.p (.bool false) rfl rfl ?_
     refine Run.done ?_
     refine Run.ret ?_
     refine ⟨.bool false, [], Out.one rfl rfl, (Some'.weak (.nil _)), ?_⟩
     show _ = _; rw [hres]
    ·have p30 := h30; try simp only [bs] at p30
     refine Run.skip ?_
     refine Run.blockEnd ?_
     have hgood : (!(set.testBit k && decide (ix ly v ≤ ix ly k))) = true := by first | (rw [hbit]; rfl) | (rw [hbit]; simp; omega)
     refine Run.region ?_
     refine Run.y (.int .i64 ((((k : Nat) : Int)) + 1)) rfl (OpY.add rfl rfl rfl (by omega) (by omega)) ?_
     refine Run.p (.int .i64 ((((k : Nat) : Int)) + 1)) rfl rfl ?_
     refine Run.done ?_
     refine Run.goal ⟨(by repeat (first | exact Same.refl _ _ | refine Same.put rfl ?_ | refine Same.over rfl rfl ?_)), k + 1, ?_, ?_, ?_, ?_⟩
     ·refine ⟨by omega, ?_⟩
      intro i hi
      rcases Nat.lt_succ_iff_lt_or_eq.1 hi with h | h
      ·exact hinv.2 i h
      ·rw [h]; exact hgood
     ·omega
     ·exact ⟨(by first | rfl | (congr 1; omega) | simp), trivial⟩
     ·exact (Some'.weak (.take (.nil _)))
   ·refine Lex.q (v := .bool false) rfl (OpQ.y (OpY.moveB rfl h20)) ?_
    have p20 := h20; try simp only [bs] at p20
    have hbit : set.testBit k = false := by rw [← bitN]; exact bitI_ne1 p20
    refine Lex.pass rfl ?_
    refine Lex.pass rfl ?_
    refine Lex.pass rfl ?_
    refine Lex.pass rfl ?_
    refine Lex.pass rfl ?_
    refine Lex.pass rfl ?_
    refine Lex.pass rfl ?_
    refine Lex.pass rfl ?_
    refine Lex.pass rfl ?_
    refine Lex.q (v := .bool false) rfl (OpQ.y (OpY.pure rfl)) ?_
    refine Lex.done ?_
    refine Run.cond (b := false) rfl (fun h => nomatch h) (fun _ => ?_)
    refine Run.skip ?_
    refine Run.blockEnd ?_
    have hgood : (!(set.testBit k && decide (ix ly v ≤ ix ly k))) = true := by first | (rw [hbit]; rfl) | (rw [hbit]; simp; omega)
    refine Run.region ?_
    refine Run.y (.int .i64 ((((k : Nat) : Int)) + 1)) rfl (OpY.add rfl rfl rfl (by omega) (by omega)) ?_
    refine Run.p (.int .i64 ((((k : Nat) : Int)) + 1)) rfl rfl ?_
    refine Run.done ?_
    refine Run.goal ⟨(by repeat (first | exact Same.refl _ _ | refine Same.put rfl ?_ | refine Same.over rfl rfl ?_)), k + 1, ?_, ?_, ?_, ?_⟩
    ·refine ⟨by omega, ?_⟩
     intro i hi
     rcases Nat.lt_succ_iff_lt_or_eq.1 hi with h | h
     ·exact hinv.2 i h
     ·rw [h]; exact hgood
    ·omega
    ·exact ⟨(by first | rfl | (congr 1; omega) | simp), trivial⟩
    ·exact (Some'.weak (.take (.nil _)))
  ·have p13 := h13; try simp only [bs] at p13
   have hkn : k = n := by omega
   have hres : befB ly v set n = true := by rw [befK]; exact allI_iff.2 (by rw [← hkn]; exact hinv.2)
   refine Run.exit rfl ?_
   refine Run.sr ?_
   refine Run.p (.bool true) rfl rfl ?_
   refine Run.done ?_
   refine Run.ret ?_
   refine ⟨.bool true, [], Out.one rfl rfl, (Some'.weak (.nil _)), ?_⟩
   show _ = _; rw [hres]

set_option maxHeartbeats 1000000 in
set_option maxRecDepth 20000 in
theorem l19Before_spec {n v set : Nat} {vl : Value} {ly : List Int} {w : World} (hn10 : n ≤ 10) (hv : v < n) (hset : set < 2 ^ n) (hl : Sl w vl 1 n (ints ly)) : Calls Try.prog 67 #[vl, .int .i64 (v : Int), .int .i64 (set : Int)] w (Post No w fun r _ => r = .bool (befB ly v (clr set v) n)) := by
 have hll := hl.len
 have hp10 := pow10 hn10
 obtain ⟨A, c, rfl, _, _⟩ := hl.form0
 obtain ⟨q, hq, hq1, hq2⟩ := pow_q hn10 hv
 have hslt : clr set v < 2 ^ n := clr_lt hset
 have hcl : set ^^^ (set &&& q) = clr set v := by rw [hq]; rfl
 refine enter (n := 30) (args := [.slice A n c, .int .i64 (((v : Nat) : Int)), .int .i64 (((set : Nat) : Int))]) Try.func67 rfl rfl (St.empty _ _) ?_
 refine Run.sr ?_
 refine Run.p (.bool false) rfl rfl ?_
 refine Run.done ?_
 refine Run.seq ?_
 refine Run.sr ?_
 refine Run.p (.int .i64 (((set : Nat) : Int))) rfl rfl ?_
 refine Run.p (.int .i64 (((v : Nat) : Int))) rfl rfl ?_
 refine Run.y (.int .u64 (((v : Nat) : Int))) rfl (OpY.convIntEq Tsome_3 Tint_52 rfl (by rw [IntKind.wrap_u64]; omega)) ?_
 refine Run.y (.int .i64 (((q : Nat) : Int))) rfl (OpY.shlOne rfl rfl rfl (by omega) hq) ?_
 refine Run.y (.int .i64 (((clr set v : Nat) : Int))) rfl (OpY.andNotNat rfl rfl (by omega) (by omega) hcl) ?_
 refine Run.step rfl (OpStep.call (vs := [.int .i64 (((clr set v : Nat) : Int))]) (caps := []) Tcall_60 rfl rfl (fun w hs => (by have h := l1Set_spec (x := ((clr set v : Nat) : Int)) (w := w) (by omega) (by omega); rw [setL_nat hslt (by omega)] at h; exact h)) ?_)
 rintro us _ ⟨hs24, rfl⟩
 show Run _ _ (putF _ _ _ us) [.own us 3 1 ((setN (clr set v) n).length) (ints (setN (clr set v) n))]
 refine Run.formOwn (.head _) (fun A_us1 c_us1 hv hcapc_us1 hmaxc_us1 => ?_) (fun _ _ _ => ⟨nofun, nofun, nofun⟩)
 subst hv
 refine Run.y (.int .i64 ((((setN (clr set v) n).length : Nat) : Int))) rfl (OpY.len Tsl_24 rfl) ?_
 refine Run.p (.int .i64 0) rfl rfl ?_
 refine Run.done ?_
 refine Run.block ?_
 refine Run.loop (ι := Nat) [6, 8, 16, 17, 18, 19, 20, 21, 22, 23, 24, 25, 26, 27, 28, 29] (fun k => [(16, .int .i64 (((k : Nat) : Int)))]) (fun k => [.own (.slice A_us1 ((setN (clr set v) n).length) c_us1) 3 1 ((setN (clr set v) n).length) (ints (setN (clr set v) n))]) (fun k => k ≤ (setN (clr set v) n).length ∧ ∀ i, i < k → ix ly v > ix ly (ix (setN (clr set v) n) i).toNat) (fun k => (setN (clr set v) n).length - k) 0 ?_ ?_ ?_ ?_
 ·exact ⟨Nat.zero_le _, fun i hi => by omega⟩
 ·exact ⟨rfl, trivial⟩
 ·exact (Some'.weak (.take (.nil _)))
 ·rintro k fr hinv
  show Run _ _ (over _ _ [(16, .int .i64 (((k : Nat) : Int)))] fr) [.own (.slice A_us1 ((setN (clr set v) n).length) c_us1) 3 1 ((setN (clr set v) n).length) (ints (setN (clr set v) n))]
  try dsimp only at hinv
  refine Run.sr ?_
  refine Run.p (.bool (decide ((((k : Nat) : Int)) < ((((setN (clr set v) n).length : Nat) : Int))))) rfl rfl ?_
  refine Run.done ?_
  refine Run.seq ?_
  refine Run.cond (b := decide ((((k : Nat) : Int)) < ((((setN (clr set v) n).length : Nat) : Int)))) rfl (fun h17 => ?_) (fun h17 => ?_)
  ·have p17 := h17; try simp only [bs] at p17
   have hkl : k < (setN (clr set v) n).length := by omega
   obtain ⟨u, hun, hub, hu⟩ := set_at hkl
   obtain ⟨b, o, rfl⟩ := hl.opn (by omega)
   refine Run.openOwn (.head _) (by omega) (fun gs cs hvgs hcapgs _ => ?_) (fun _ _ _ => ⟨nofun, nofun, nofun⟩)
   injection hvgs with hAgs _ hcgs; subst hAgs; subst hcgs
   refine Run.skip ?_
   refine Run.seq ?_
   refine Run.block ?_
   refine Run.sr ?_
   refine Run.y (.pointer (some ⟨gs, k, none⟩)) rfl (OpY.index (kk := k) Tsl_24 rfl rfl (by omega) (by omega) (by first | rfl | omega)) ?_
   refine Run.y (.int .i64 (ix (setN (clr set v) n) (k))) rfl (OpY.load1 Tone_3 rfl (Cells.own0 (.head _) (pre1 (by omega)))) ?_
   refine Run.p (.int .i64 (ix (setN (clr set v) n) (k))) rfl rfl ?_
   refine Run.done ?_
   refine Run.seq ?_
   refine Run.draws (by kernel_rfl) (by kernel_rfl) ?_
   refine Lex.q (v := .slice (some ⟨b, o, none⟩) n c) rfl (OpQ.y (OpY.pure rfl)) ?_
   refine Lex.q (v := .int .i64 (((v : Nat) : Int))) rfl (OpQ.y (OpY.pure rfl)) ?_
   refine Lex.q (v := .pointer (some ⟨b, o + v, none⟩)) rfl (OpQ.y (OpY.index (kk := v) Tsl_24 rfl rfl (by omega) (by omega) (by first | rfl | omega))) ?_
   refine Lex.q (v := .int .i64 (ix ly (v))) rfl (OpQ.y (OpY.load1 Tone_3 rfl (Cells.arg (k := v) hl rfl (by omega) (pre1 (by omega))))) ?_
   refine Lex.q (v := .slice (some ⟨b, o, none⟩) n c) rfl (OpQ.y (OpY.pure rfl)) ?_
   refine Lex.q (v := .int .i64 (ix (setN (clr set v) n) (k))) rfl (OpQ.y (OpY.pure rfl)) ?_
   refine Lex.q (v := .pointer (some ⟨b, o + u, none⟩)) rfl (OpQ.y (OpY.index (kk := u) Tsl_24 rfl rfl (by omega) (by omega) (by first | rfl | omega))) ?_
   refine Lex.q (v := .int .i64 (ix ly (u))) rfl (OpQ.y (OpY.load1 Tone_3 rfl (Cells.arg (k := u) hl rfl (by omega) (pre1 (by omega))))) ?_
   refine Lex.q (v := .bool (decide ((ix ly (v)) ≤ (ix ly (u))))) rfl (OpQ.y (OpY.pure rfl)) ?_
   refine Lex.done ?_
   refine Run.cond (b := decide ((ix ly (v)) ≤ (ix ly (u)))) rfl (fun h28 => ?_) (fun h28 => ?_)
   ·have p28 := h28; try simp only [bs] at p28
    refine Run.seq ?_
    have hres : befB ly v (clr set v) n = false := by
     cases hb : befB ly v (clr set v) n with
     | false => rfl
     | true => have h := (bef_set hslt).1 hb k hkl; rw [hu, Int.toNat_natCast] at h; omega
    refine Run.region ?_
    refine Run.p (.bool false) rfl rfl ?_
    refine Run.done ?_
    refine Run.ret ?_
    refine ⟨.bool false, [], Out.one rfl rfl, (Some'.weak (.nil _)), ?_⟩
    show _ = _; rw [hres]
   ·have p28 := h28; try simp only [bs] at p28
    refine Run.skip ?_
    refine Run.blockEnd ?_
    have hgood : ix ly v > ix ly (ix (setN (clr set v) n) k).toNat := by rw [hu, Int.toNat_natCast]; omega
    refine Run.region ?_
    refine Run.y (.int .i64 ((((k : Nat) : Int)) + 1)) rfl (OpY.add rfl rfl rfl (by omega) (by omega)) ?_
    refine Run.p (.int .i64 ((((k : Nat) : Int)) + 1)) rfl rfl ?_
    refine Run.done ?_
    refine Run.goal ⟨(by repeat (first | exact Same.refl _ _ | refine Same.put rfl ?_ | refine Same.over rfl rfl ?_)), k + 1, ?_, ?_, ?_, ?_⟩
    ·refine ⟨by omega, ?_⟩
     intro i hi
     rcases Nat.lt_succ_iff_lt_or_eq.1 hi with h | h
     ·exact hinv.2 i h
     ·rw [h]; exact hgood
    ·omega
    ·exact ⟨(by first | rfl | (congr 1; omega) | simp), trivial⟩
    ·exact (Some'.weak (.takeEq (by first | rfl | simp) (.nil _)))
  ·have p17 := h17; try simp only [bs] at p17
   have hkn : k = (setN (clr set v) n).length := by omega
   have hres : befB ly v (clr set v) n = true := (bef_set hslt).2 (by rw [← hkn]; exact hinv.2)
   refine Run.exit rfl ?_
   refine Run.sr ?_
   refine Run.p (.bool true) rfl rfl ?_
   refine Run.done ?_
   refine Run.ret ?_
   refine ⟨.bool true, [], Out.one rfl rfl, (Some'.weak (.nil _)), ?_⟩
   show _ = _; rw [hres]

end Go.Proofs.Ytoiaibgcjfgbcaa
/- Walks: causal flows and generalised flows are recognised. -/
set_option linter.unusedSimpArgs false
set_option linter.unusedVariables false
namespace Go.Proofs.Ytoiaibgcjfgbcaa
open Go Go.RowKit
namespace FwcT
theorem Tagg_26 : aggOf Try.prog 26 = some 4 := by kernel_rfl
theorem Tcall_29 : callable Try.prog 29 = true := by kernel_rfl
theorem Tcall_30 : callable Try.prog 30 = true := by kernel_rfl
theorem Tcall_48 : callable Try.prog 48 = true := by kernel_rfl
theorem Tcall_55 : callable Try.prog 55 = true := by kernel_rfl
theorem Tcall_61 : callable Try.prog 61 = true := by kernel_rfl
theorem Tcall_62 : callable Try.prog 62 = true := by kernel_rfl
theorem Tcall_64 : callable Try.prog 64 = true := by kernel_rfl
theorem Tcall_65 : callable Try.prog 65 = true := by kernel_rfl
theorem Tcall_66 : callable Try.prog 66 = true := by kernel_rfl
theorem Tcall_67 : callable Try.prog 67 = true := by kernel_rfl
theorem Tcall_79 : callable Try.prog 79 = true := by kernel_rfl
theorem Tcall_80 : callable Try.prog 80 = true := by kernel_rfl
theorem Tcall_83 : callable Try.prog 83 = true := by kernel_rfl
theorem Tfo_26_0 : fieldOff Try.prog 26 0 = some 0 := by kernel_rfl
theorem Tfo_26_2 : fieldOff Try.prog 26 2 = some 2 := by kernel_rfl
theorem Tfo_26_3 : fieldOff Try.prog 26 3 = some 3 := by kernel_rfl
theorem Tint_52 : Try.prog.underlying 52 = some (.int .u64) := by kernel_rfl
theorem Tone_24 : oneOf Try.prog 24 = true := by kernel_rfl
theorem Tone_3 : oneOf Try.prog 3 = true := by kernel_rfl
theorem Tsl_24 : sliceOf Try.prog 24 = some (3, 1, 8, [.int .i64 0]) := by kernel_rfl
theorem Tsome_3 : (Try.prog.underlying 3).isSome = true := by kernel_rfl
end FwcT
open FwcT
section
variable {E : Env} {f : Fr} {H : List Res} {d : Option Tmp} {ty : TypeId} {pos : String} {after : Array Edge} {gd : Option (Nat × Bool)} {t t' : TypeId} {x y : Operand} {a b : Int} {m n : Nat}
theorem OpY.andNatE (hx : f.eval x = .int .i64 a) (hy : f.eval y = .int .i64 b) (ha : a = (m : Nat)) (hb : b = (n : Nat)) (hm : m < 9223372036854775808) (hn : n < 9223372036854775808) :
    OpY E ⟨d, .binOp .and t x y t', ty, pos, after, gd⟩ f H (.int .i64 ((m &&& n : Nat) : Int)) := by subst ha; subst hb; exact OpY.andNat2 hx hy hm hn
end
theorem clr_or {s o k : Nat} (h : s.testBit k = false) : clr (s ||| o) k = s ||| clr o k := by
  refine Nat.eq_of_testBit_eq fun i => ?_
  rw [clr_bit, Nat.testBit_or, Nat.testBit_or, clr_bit]
  by_cases e : k = i
  · subst e; rw [h]; simp
  · rw [decide_eq_false e]; simp
theorem not_any (p : Nat → Bool) (n : Nat) : (!anyI (fun i => !p i) n) = allI p n := by
  rw [Bool.eq_iff_iff, Bool.not_eq_true', allI_iff]
  constructor
  · intro h i hi
    cases hw : p i with
    | true => rfl
    | false => rw [anyI_true hi (by rw [hw]; rfl)] at h; cases h
  · intro h; exact anyI_false fun i hi => by rw [h i hi]; rfl
theorem Sl.cnt {w : World} {v : Value} {size n n2 : Nat} {xs : List Value} (e : n = n2) (h : Sl w v size n xs) : Sl w v size n2 xs := e ▸ h
theorem gfB_at {es is os ss ly : List Int} {m n ni no nn nl k : Nat} (hk : k < nn) (h : gfAt es m n is ni os no ss ly k = false) : gfB es m n is ni os no ss nn ly nl = false := by
  unfold gfB; rw [allI_false hk h]; simp

set_option maxHeartbeats 1000000 in
set_option maxRecDepth 20000 in
theorem layClo_spec (x : Int) (w : World) : Calls Try.prog 80 #[.int .i64 x] w (Post No w fun v _ => v = .bool (!within x 0 100)) := by
 refine enter (n := 6) (args := [.int .i64 x]) Try.func80 rfl rfl (St.empty _ _) ?_
 refine Run.sr ?_
 refine Run.p (.bool false) rfl rfl ?_
 refine Run.dsr ?_
 refine Run.p (.int .i64 x) rfl rfl ?_
 refine Run.q (v := .bool (within x 0 100)) rfl (OpQ.call (vs := [.int .i64 x, .int .i64 0, .int .i64 100]) (caps := []) Tcall_48 rfl rfl (fun w hs => within_spec _ _ _ w)) ?_
 refine Run.p (.bool (!(within x 0 100))) rfl rfl ?_
 refine Run.p (.bool (!(within x 0 100))) rfl rfl ?_
 refine Run.done ?_
 refine Run.ret ?_
 refine ⟨.bool (!(within x 0 100)), [], Out.one rfl rfl, (Some'.weak (.nil _)), ?_⟩
 rfl

set_option maxHeartbeats 1000000 in
set_option maxRecDepth 20000 in
theorem IndexFuncLay_spec  {va : Value} {n : Nat} {xs : List Int} {w : World} (ha : Sl w va 1 n (ints xs))  : Calls Try.prog 83 #[va, .func (.func 80) #[] #[]] w (Post No w fun v _ => v = .int .i64 (findI (fun i => !within (ix xs i) 0 100) n)) := by
 have hxl := ha.len
 have hn := ha.le
 obtain ⟨A, c, rfl, _, _⟩ := ha.form0
 refine enter (n := 19) (args := [.slice A n c, .func (.func 80) #[] #[]]) Try.func83 rfl rfl (St.empty _ _) ?_
 refine Run.sr ?_
 refine Run.p (.int .i64 0) rfl rfl ?_
 refine Run.done ?_
 refine Run.seq ?_
 refine Run.sr ?_
 refine Run.p (.slice A n c) rfl rfl ?_
 refine Run.y (.int .i64 (((n : Nat) : Int))) rfl (OpY.len Tsl_24 rfl) ?_
 refine Run.p (.int .i64 0) rfl rfl ?_
 refine Run.done ?_
 refine Run.block ?_
 refine Run.loop (ι := Nat) [4, 5, 8, 9, 10, 11, 12, 13, 14, 15, 16, 17, 18] (fun k => [(8, .int .i64 (((k : Nat) : Int)))]) (fun k => []) (fun k => k ≤ n ∧ (∀ i, i < k → (!within (ix xs i) 0 100) = false)) (fun k => n - k) 0 ?_ ?_ ?_ ?_
 ·exact ⟨Nat.zero_le _, by first | trivial | (intro i hi; omega)⟩
 ·exact ⟨rfl, trivial⟩
 ·exact (Some'.weak (.nil _))
 ·rintro k fr hinv
  show Run _ _ (over _ _ [(8, .int .i64 (((k : Nat) : Int)))] fr) []
  try dsimp only at hinv
  refine Run.sr ?_
  refine Run.p (.bool (decide ((((k : Nat) : Int)) < (((n : Nat) : Int))))) rfl rfl ?_
  refine Run.done ?_
  refine Run.seq ?_
  refine Run.cond (b := decide ((((k : Nat) : Int)) < (((n : Nat) : Int)))) rfl (fun h9 => ?_) (fun h9 => ?_)
  ·have p9 := h9; try simp only [bs] at p9
   have hltk : k < n := by omega
   obtain ⟨b, o, rfl⟩ := ha.opn (by omega)
   refine Run.skip ?_
   refine Run.seq ?_
   refine Run.block ?_
   refine Run.sr ?_
   refine Run.p (.int .i64 (((k : Nat) : Int))) rfl rfl ?_
   refine Run.p (.int .i64 (((k : Nat) : Int))) rfl rfl ?_
   refine Run.dsr ?_
   refine Run.p (.func (.func 80) #[] #[]) rfl rfl ?_
   refine Run.p (.slice (some ⟨b, o, none⟩) n c) rfl rfl ?_
   refine Run.p (.int .i64 (((k : Nat) : Int))) rfl rfl ?_
   refine Run.y (.pointer (some ⟨b, o + k, none⟩)) rfl (OpY.index (kk := k) Tsl_24 rfl rfl (by omega) (by omega) (by first | rfl | omega)) ?_
   refine Run.y (.int .i64 (ix xs (k))) rfl (OpY.load1 Tone_3 rfl (Cells.arg (k := k) ha rfl (by omega) (pre1 (by omega)))) ?_
   refine Run.q (v := .bool (!within (ix xs k) 0 100)) rfl (OpQ.call (vs := [.int .i64 (ix xs (k))]) (caps := []) Tcall_80 rfl rfl (fun w hs => layClo_spec _ w)) ?_
   refine Run.done ?_
   refine Run.cond (b := !within (ix xs k) 0 100) rfl (fun h16 => ?_) (fun h16 => ?_)
   ·have p16 := h16; try simp only [bs] at p16
    refine Run.seq ?_
    have hres : findI (fun i => !within (ix xs i) 0 100) n = k := findI_hit hinv.2 h16 hltk
    refine Run.region ?_
    refine Run.p (.int .i64 (((k : Nat) : Int))) rfl rfl ?_
    refine Run.p (.int .i64 (((k : Nat) : Int))) rfl rfl ?_
    refine Run.done ?_
    refine Run.ret ?_
    refine ⟨.int .i64 (((k : Nat) : Int)), [], Out.one rfl rfl, (Some'.weak (.nil _)), ?_⟩
    show _ = _; rw [hres]
   ·have p16 := h16; try simp only [bs] at p16
    refine Run.skip ?_
    refine Run.blockEnd ?_
    have hgood : (!within (ix xs k) 0 100) = false := h16
    refine Run.region ?_
    refine Run.y (.int .i64 ((((k : Nat) : Int)) + 1)) rfl (OpY.add rfl rfl rfl (by omega) (by omega)) ?_
    refine Run.p (.int .i64 ((((k : Nat) : Int)) + 1)) rfl rfl ?_
    refine Run.done ?_
    refine Run.goal ⟨(by repeat (first | exact Same.refl _ _ | refine Same.put rfl ?_ | refine Same.over rfl rfl ?_)), k + 1, ?_, ?_, ?_, ?_⟩
    ·refine ⟨by omega, ?_⟩
     intro i hi
     rcases Nat.lt_succ_iff_lt_or_eq.1 hi with h | h
     ·exact hinv.2 i h
     ·rw [h]; exact hgood
    ·omega
    ·exact ⟨(by first | rfl | (congr 1; omega) | simp), trivial⟩
    ·exact (Some'.weak (.nil _))
  ·have p9 := h9; try simp only [bs] at p9
   have hknk : k = n := by omega
   have hres : findI (fun i => !within (ix xs i) 0 100) n = -1 := by rw [← hknk]; exact findI_none hinv.2
   refine Run.exit rfl ?_
   refine Run.sr ?_
   refine Run.p (.int .i64 (-1)) rfl rfl ?_
   refine Run.done ?_
   refine Run.ret ?_
   refine ⟨.int .i64 (-1), [], Out.one rfl rfl, (Some'.weak (.nil _)), ?_⟩
   show _ = _; rw [hres]

set_option maxHeartbeats 1000000 in
set_option maxRecDepth 20000 in
theorem ContainsFuncLay_spec  {va : Value} {n : Nat} {xs : List Int} {w : World} (ha : Sl w va 1 n (ints xs))  : Calls Try.prog 79 #[va, .func (.func 80) #[] #[]] w (Post No w fun v _ => v = .bool (anyI (fun i => !within (ix xs i) 0 100) n)) := by
 refine enter (n := 9) (args := [va, .func (.func 80) #[] #[]]) Try.func79 rfl rfl (St.empty _ _) ?_
 refine Run.sr ?_
 refine Run.p (.bool false) rfl rfl ?_
 refine Run.dsr ?_
 refine Run.p (va) rfl rfl ?_
 refine Run.p (.func (.func 80) #[] #[]) rfl rfl ?_
 refine Run.q (v := .int .i64 (findI (fun i => !within (ix xs i) 0 100) n)) rfl (OpQ.call (vs := [va, .func (.func 80) #[] #[]]) (caps := []) Tcall_83 rfl rfl (fun w hs => IndexFuncLay_spec (hs.sl ha) )) ?_
 refine Run.p (.bool (decide ((findI (fun i => !within (ix xs i) 0 100) n) ≥ 0))) rfl rfl ?_
 refine Run.p (.bool (decide ((findI (fun i => !within (ix xs i) 0 100) n) ≥ 0))) rfl rfl ?_
 refine Run.done ?_
 refine Run.ret ?_
 refine ⟨.bool (decide ((findI (fun i => !within (ix xs i) 0 100) n) ≥ 0)), [], Out.one rfl rfl, (Some'.weak (.nil _)), ?_⟩
 show _ = _; rw [findI_ge]

set_option maxHeartbeats 1000000 in
set_option maxRecDepth 20000 in
theorem areLayers_spec {ve vi vo vl : Value} {n nl : Nat} {ly : List Int} {w : World} (hl : Sl w vl 1 nl (ints ly)) : Calls Try.prog 64 #[.agg #[.int .i64 (n : Int), ve, vi, vo], vl] w (Post No w fun v _ => v = .bool (layB ly nl n)) := by
 obtain ⟨A, c, rfl, _, _⟩ := hl.form0
 refine enter (n := 15) (args := [.agg #[.int .i64 (((n : Nat) : Int)), ve, vi, vo], .slice A nl c]) Try.func64 rfl rfl (St.empty _ _) ?_
 refine Run.sr ?_
 refine Run.step rfl (OpStep.box (us := [.int .i64 (((n : Nat) : Int)), ve, vi, vo]) rfl fun b1 => ?_)
 refine Run.p (.bool false) rfl rfl ?_
 refine Run.dsr ?_
 refine Run.p (.slice A nl c) rfl rfl ?_
 refine Run.y (.int .i64 (((nl : Nat) : Int))) rfl (OpY.len Tsl_24 rfl) ?_
 refine Run.y (.pointer (some ⟨b1, 0, none⟩)) rfl (OpY.fieldAddr Tfo_26_0 rfl rfl) ?_
 refine Run.y (.int .i64 (((n : Nat) : Int))) rfl (OpY.load1 Tone_3 rfl (Cells.blk (.head _) ⟨rfl, trivial⟩)) ?_
 refine Run.p (.bool ((((nl : Nat) : Int)) == (((n : Nat) : Int)))) rfl rfl ?_
 rcases Bool.eq_false_or_eq_true ((((nl : Nat) : Int)) == (((n : Nat) : Int))) with h10 | h10
 ·refine Run.q (v := .bool true) rfl (OpQ.y (OpY.moveB rfl h10)) ?_
  have p10 := h10; try simp only [bs] at p10
  have hnn : nl = n := by omega
  refine Run.p (.slice A nl c) rfl rfl ?_
  refine Run.q (v := .bool (anyI (fun i => !within (ix ly i) 0 100) nl)) rfl (OpQ.call (vs := [.slice A nl c, .func (.func 80) #[] #[]]) (caps := []) Tcall_79 rfl rfl (fun w hs => ContainsFuncLay_spec (hs.sl hl))) ?_
  refine Run.p (.bool (!(anyI (fun i => !within (ix ly i) 0 100) nl))) rfl rfl ?_
  refine Run.p (.bool (!(anyI (fun i => !within (ix ly i) 0 100) nl))) rfl rfl ?_
  refine Run.p (.bool (!(anyI (fun i => !within (ix ly i) 0 100) nl))) rfl rfl ?_
  refine Run.done ?_
  refine Run.ret ?_
  refine ⟨.bool (!(anyI (fun i => !within (ix ly i) 0 100) nl)), [], Out.one rfl rfl, (Some'.weak (.nil _)), ?_⟩
  show _ = _; unfold layB; first | (rw [decide_eq_false hnn]; rfl) | (rw [decide_eq_true hnn, Bool.true_and]; exact congrArg Value.bool (not_any _ _))
 ·refine Run.q (v := .bool false) rfl (OpQ.y (OpY.moveB rfl h10)) ?_
  have p10 := h10; try simp only [bs] at p10
  have hnn : ¬ nl = n := by omega
  refine Run.pass rfl ?_
  refine Run.pass rfl ?_
  refine Run.pass rfl ?_
  refine Run.p (.bool false) rfl rfl ?_
  refine Run.p (.bool false) rfl rfl ?_
  refine Run.done ?_
  refine Run.ret ?_
  refine ⟨.bool false, [], Out.one rfl rfl, (Some'.weak (.nil _)), ?_⟩
  show _ = _; unfold layB; first | (rw [decide_eq_false hnn]; rfl) | (rw [decide_eq_true hnn, Bool.true_and]; exact congrArg Value.bool (not_any _ _))

end Go.Proofs.Ytoiaibgcjfgbcaa
/- Walks: generalised flows are recognised. -/
set_option linter.unusedSimpArgs false
set_option linter.unusedVariables false
namespace Go.Proofs.Ytoiaibgcjfgbcaa
open Go Go.RowKit
namespace FwdT
theorem Tagg_26 : aggOf Try.prog 26 = some 4 := by kernel_rfl
theorem Tagg_38 : aggOf Try.prog 38 = some 2 := by kernel_rfl
theorem Tcall_24 : callable Try.prog 24 = true := by kernel_rfl
theorem Tcall_30 : callable Try.prog 30 = true := by kernel_rfl
theorem Tcall_32 : callable Try.prog 32 = true := by kernel_rfl
theorem Tcall_37 : callable Try.prog 37 = true := by kernel_rfl
theorem Tcall_38 : callable Try.prog 38 = true := by kernel_rfl
theorem Tcall_45 : callable Try.prog 45 = true := by kernel_rfl
theorem Tcall_48 : callable Try.prog 48 = true := by kernel_rfl
theorem Tcall_49 : callable Try.prog 49 = true := by kernel_rfl
theorem Tcall_55 : callable Try.prog 55 = true := by kernel_rfl
theorem Tcall_62 : callable Try.prog 62 = true := by kernel_rfl
theorem Tcall_64 : callable Try.prog 64 = true := by kernel_rfl
theorem Tcall_65 : callable Try.prog 65 = true := by kernel_rfl
theorem Tcall_66 : callable Try.prog 66 = true := by kernel_rfl
theorem Tcall_67 : callable Try.prog 67 = true := by kernel_rfl
theorem Tcall_68 : callable Try.prog 68 = true := by kernel_rfl
theorem Tcall_69 : callable Try.prog 69 = true := by kernel_rfl
theorem Tfo_26_0 : fieldOff Try.prog 26 0 = some 0 := by kernel_rfl
theorem Tfo_26_2 : fieldOff Try.prog 26 2 = some 2 := by kernel_rfl
theorem Tfo_26_3 : fieldOff Try.prog 26 3 = some 3 := by kernel_rfl
theorem Tfo_38_0 : fieldOff Try.prog 38 0 = some 0 := by kernel_rfl
theorem Tfo_38_1 : fieldOff Try.prog 38 1 = some 1 := by kernel_rfl
theorem Tint_52 : Try.prog.underlying 52 = some (.int .u64) := by kernel_rfl
theorem Tone_24 : oneOf Try.prog 24 = true := by kernel_rfl
theorem Tone_3 : oneOf Try.prog 3 = true := by kernel_rfl
theorem Tsl_24 : sliceOf Try.prog 24 = some (3, 1, 8, [.int .i64 0]) := by kernel_rfl
theorem Tsome_3 : (Try.prog.underlying 3).isSome = true := by kernel_rfl
end FwdT
open FwdT
section
variable {E : Env} {f : Fr} {H : List Res} {d : Option Tmp} {ty : TypeId} {pos : String} {after : Array Edge} {gd : Option (Nat × Bool)} {t t' : TypeId} {x y : Operand} {a : Int} {m n q : Nat}
theorem OpY.orNatE (hx : f.eval x = .int .i64 a) (hy : f.eval y = .int .i64 (n : Nat)) (ha : a = (m : Nat)) (hm : m < 9223372036854775808) (hn : n < 9223372036854775808) :
    OpY E ⟨d, .binOp .or t x y t', ty, pos, after, gd⟩ f H (.int .i64 ((m ||| n : Nat) : Int)) := OpY.orNat hx hy ha rfl hm hn
end
set_option maxHeartbeats 2000000 in
set_option maxRecDepth 20000 in
theorem isGFlow_spec {ve vi vo vx vy : Value} {n m ni no nn nl : Nat} {es is os nx ly : List Int} {w : World} (hn1 : 1 ≤ n) (hn10 : n ≤ 10) (hes : edgesOk (n : Int) es m = true) (hri : risB is n ni = true) (he : Sl w ve 2 m (ints es)) (hi : Sl w vi 1 ni (ints is)) (ho : Sl w vo 1 no (ints os)) (hx : Sl w vx 1 nn (ints nx)) (hy : Sl w vy 1 nl (ints ly)) : Calls Try.prog 37 #[.agg #[.int .i64 (n : Int), ve, vi, vo], .agg #[vx, vy]] w (Post No w fun v _ => v = .bool (gfB es m n is ni os no nx nn ly nl)) := by
 have hp10 := pow10 hn10
 obtain ⟨Ax, cx_, rfl, _, _⟩ := hx.form0
 have hxl := hx.len
 obtain ⟨Ay, cy_, rfl, _, _⟩ := hy.form0
 obtain ⟨qn, hqn⟩ : ∃ q : Nat, q = 2 ^ n := ⟨_, rfl⟩
 have hqn1 : 1 ≤ qn := by rw [hqn]; exact Nat.two_pow_pos _
 have hmk := mskK_lt (n := n) (k := ni) (l := is) (ris_in hri)
 refine enter (n := 80) (args := [.agg #[.int .i64 (((n : Nat) : Int)), ve, vi, vo], .agg #[.slice Ax nn cx_, .slice Ay nl cy_]]) Try.func37 rfl rfl (St.empty _ _) ?_
 refine Run.sr ?_
 refine Run.step rfl (OpStep.box (us := [.int .i64 (((n : Nat) : Int)), ve, vi, vo]) rfl fun b1 => ?_)
 refine Run.step rfl (OpStep.box (us := [.slice Ax nn cx_, .slice Ay nl cy_]) rfl fun b2 => ?_)
 refine Run.p (.bool false) rfl rfl ?_
 refine Run.done ?_
 refine Run.seq ?_
 refine Run.sr ?_
 refine Run.y (.pointer (some ⟨b2, 0, none⟩)) rfl (OpY.fieldAddr Tfo_38_0 rfl rfl) ?_
 refine Run.y (.slice Ax nn cx_) rfl (OpY.load1 Tone_24 rfl (Cells.blk (.head _) ⟨rfl, trivial⟩)) ?_
 refine Run.y (.int .i64 (((nn : Nat) : Int))) rfl (OpY.len Tsl_24 rfl) ?_
 refine Run.y (.pointer (some ⟨b1, 0, none⟩)) rfl (OpY.fieldAddr Tfo_26_0 rfl rfl) ?_
 refine Run.y (.int .i64 (((n : Nat) : Int))) rfl (OpY.load1 Tone_3 rfl (Cells.blk (.tail _ (List.Mem.head _)) ⟨rfl, trivial⟩)) ?_
 refine Run.p (.bool ((((nn : Nat) : Int)) != (((n : Nat) : Int)))) rfl rfl ?_
 rcases Bool.eq_false_or_eq_true ((((nn : Nat) : Int)) != (((n : Nat) : Int))) with h14 | h14
 ·refine Run.q (v := .bool true) rfl (OpQ.y (OpY.moveB rfl h14)) ?_
  have p14 := h14; try simp only [bs] at p14
  refine Run.pass rfl ?_
  refine Run.pass rfl ?_
  refine Run.pass rfl ?_
  refine Run.pass rfl ?_
  refine Run.pass rfl ?_
  refine Run.p (.bool true) rfl rfl ?_
  refine Run.done ?_
  refine Run.cond (b := true) rfl (fun _ => ?_) (fun h => nomatch h)
  refine Run.seq ?_
  have hres : gfB es m n is ni os no nx nn ly nl = false := by
   unfold gfB
   first | (rw [decide_eq_false (show ¬ nn = n by omega)]; rfl) | (rw [show layB ly nl n = false by simpa using p20]; simp)
  refine Run.region ?_
  refine Run.p (.bool false) rfl rfl ?_
  refine Run.done ?_
  refine Run.ret ?_
  refine ⟨.bool false, [], Out.one rfl rfl, (Some'.weak (.nil _)), ?_⟩
  show _ = _; rw [hres]
 ·refine Run.q (v := .bool false) rfl (OpQ.y (OpY.moveB rfl h14)) ?_
  have p14 := h14; try simp only [bs] at p14
  refine Run.y (.agg #[.int .i64 (((n : Nat) : Int)), ve, vi, vo]) rfl (OpY.loadN (cs := [.int .i64 (((n : Nat) : Int)), ve, vi, vo]) Tagg_26 rfl (Cells.blk (.tail _ (List.Mem.head _)) ⟨rfl, rfl, rfl, rfl, trivial⟩)) ?_
  refine Run.y (.pointer (some ⟨b2, 1, none⟩)) rfl (OpY.fieldAddr Tfo_38_1 rfl rfl) ?_
  refine Run.y (.slice Ay nl cy_) rfl (OpY.load1 Tone_24 rfl (Cells.blk (.head _) ⟨rfl, trivial⟩)) ?_
  refine Run.q (v := .bool (layB ly nl n)) rfl (OpQ.call (vs := [.agg #[.int .i64 (((n : Nat) : Int)), ve, vi, vo], .slice Ay nl cy_]) (caps := []) Tcall_64 rfl rfl (fun w hs => areLayers_spec (hs.sl hy))) ?_
  refine Run.p (.bool (!(layB ly nl n))) rfl rfl ?_
  refine Run.p (.bool (!(layB ly nl n))) rfl rfl ?_
  refine Run.done ?_
  refine Run.cond (b := !(layB ly nl n)) rfl (fun h20 => ?_) (fun h20 => ?_)
  ·have p20 := h20; try simp only [bs] at p20
   refine Run.seq ?_
   have hres : gfB es m n is ni os no nx nn ly nl = false := by
    unfold gfB
    first | (rw [decide_eq_false (show ¬ nn = n by omega)]; rfl) | (rw [show layB ly nl n = false by simpa using p20]; simp)
   refine Run.region ?_
   refine Run.p (.bool false) rfl rfl ?_
   refine Run.done ?_
   refine Run.ret ?_
   refine ⟨.bool false, [], Out.one rfl rfl, (Some'.weak (.nil _)), ?_⟩
   show _ = _; rw [hres]
  ·have p20 := h20; try simp only [bs] at p20
   have hnn : nn = n := by omega
   have hlay : layB ly nl n = true := by simpa using p20
   have hnl : nl = n := by simp only [layB, Bool.and_eq_true, decide_eq_true_eq] at hlay; exact hlay.1
   refine Run.skip ?_
   refine Run.seq ?_
   refine Run.sr ?_
   refine Run.y (.pointer (some ⟨b2, 0, none⟩)) rfl (OpY.fieldAddr Tfo_38_0 rfl rfl) ?_
   refine Run.y (.slice Ax nn cx_) rfl (OpY.load1 Tone_24 rfl (Cells.blk (.head _) ⟨rfl, trivial⟩)) ?_
   refine Run.y (.int .i64 (((nn : Nat) : Int))) rfl (OpY.len Tsl_24 rfl) ?_
   refine Run.p (.int .i64 0) rfl rfl ?_
   refine Run.done ?_
   refine Run.block ?_
   refine Run.loop (ι := Nat) ([4, 5, 6, 7, 24, 25, 26, 27, 28, 29, 30, 31, 32, 33, 34, 35, 36, 37, 38, 39, 40, 41, 42, 43, 44, 45, 46, 47, 48, 49, 50, 51, 52, 53, 54, 55, 56, 57, 58, 59, 60, 61, 62, 63, 64, 65, 66, 67, 68, 69] ++ [70, 71, 72, 73, 74, 75, 76, 77, 78, 79]) (fun k => [(24, .int .i64 (((k : Nat) : Int)))]) (fun k => [.blk b2 38 [.slice Ax nn cx_, .slice Ay nl cy_], .blk b1 26 [.int .i64 (((n : Nat) : Int)), ve, vi, vo]]) (fun k => k ≤ nn ∧ (∀ i, i < k → gfAt es m n is ni os no nx ly i = true)) (fun k => nn - k) 0 ?_ ?_ ?_ ?_
   ·exact ⟨Nat.zero_le _, by first | trivial | (intro i hi; omega)⟩
   ·exact ⟨rfl, trivial⟩
   ·exact (Some'.weak (.take (.take (.nil _))))
   ·rintro k fr hinv
    show Run _ _ (over _ _ [(24, .int .i64 (((k : Nat) : Int)))] fr) [.blk b2 38 [.slice Ax nn cx_, .slice Ay nl cy_], .blk b1 26 [.int .i64 (((n : Nat) : Int)), ve, vi, vo]]
    try dsimp only at hinv
    refine Run.sr ?_
    refine Run.p (.bool (decide ((((k : Nat) : Int)) < (((nn : Nat) : Int))))) rfl rfl ?_
    refine Run.done ?_
    refine Run.seq ?_
    refine Run.cond (b := decide ((((k : Nat) : Int)) < (((nn : Nat) : Int)))) rfl (fun h25 => ?_) (fun h25 => ?_)
    ·have p25 := h25; try simp only [bs] at p25
     have hltk : k < nn := by omega
     obtain ⟨bq, oq, rfl⟩ := hx.opn (by omega)
     have hkn : k < n := by omega
     obtain ⟨q2, hq2, hq21, hq22⟩ := pow_q (k := k) hn10 hkn
     refine Run.skip ?_
     refine Run.seq ?_
     refine Run.block ?_
     refine Run.sr ?_
     refine Run.p (.int .i64 (((k : Nat) : Int))) rfl rfl ?_
     refine Run.y (.pointer (some ⟨bq, oq + k, none⟩)) rfl (OpY.index (kk := k) Tsl_24 rfl rfl (by omega) (by omega) (by first | rfl | omega)) ?_
     refine Run.y (.int .i64 (ix nx (k))) rfl (OpY.load1 Tone_3 rfl (Cells.arg (k := k) hx rfl (by omega) (pre1 (by omega)))) ?_
     refine Run.p (.int .i64 (((k : Nat) : Int))) rfl rfl ?_
     refine Run.p (.int .i64 (ix nx (k))) rfl rfl ?_
     refine Run.done ?_
     refine Run.seq ?_
     refine Run.sr ?_
     refine Run.y (.pointer (some ⟨b1, 3, none⟩)) rfl (OpY.fieldAddr Tfo_26_3 rfl rfl) ?_
     refine Run.y (vo) rfl (OpY.load1 Tone_24 rfl (Cells.blk (.tail _ (List.Mem.head _)) ⟨rfl, trivial⟩)) ?_
     refine Run.p (.int .i64 (((k : Nat) : Int))) rfl rfl ?_
     refine Run.q (v := .bool (hasI os (k : Int) no)) rfl (OpQ.call (vs := [vo, .int .i64 (((k : Nat) : Int))]) (caps := []) Tcall_30 rfl rfl (fun w hs => ContainsInt_spec (hs.sl ho))) ?_
     refine Run.done ?_
     refine Run.cond (b := hasI os (k : Int) no) rfl (fun h32 => ?_) (fun h32 => ?_)
     ·have p32 := h32; try simp only [bs] at p32
      have hno : hasI os (k : Int) no = true := by simpa using p32
      refine Run.seq ?_
      refine Run.sr ?_
      refine Run.p (.int .i64 (ix nx (k))) rfl rfl ?_
      refine Run.p (.bool ((ix nx (k)) != 0)) rfl rfl ?_
      refine Run.done ?_
      refine Run.cond (b := (ix nx (k)) != 0) rfl (fun h34 => ?_) (fun h34 => ?_)
      ·have p34 := h34; try simp only [bs] at p34
       have hres : gfB es m n is ni os no nx nn ly nl = false := gfB_at hltk (by unfold gfAt; rw [if_pos hno]; exact decide_eq_false (by omega))
       refine Run.sr ?_
       refine Run.p (.bool false) rfl rfl ?_
       refine Run.done ?_
       refine Run.ret ?_
       refine ⟨.bool false, [], Out.one rfl rfl, (Some'.weak (.nil _)), ?_⟩
       show _ = _; rw [hres]
      ·have p34 := h34; try simp only [bs] at p34
       have hgood : gfAt es m n is ni os no nx ly k = true := by unfold gfAt; rw [if_pos hno]; exact decide_eq_true (by omega)
       refine Run.skip ?_
       refine Run.exit rfl ?_
       refine Run.region ?_
       refine Run.y (.int .i64 ((((k : Nat) : Int)) + 1)) rfl (OpY.add rfl rfl rfl (by omega) (by omega)) ?_
       refine Run.p (.int .i64 ((((k : Nat) : Int)) + 1)) rfl rfl ?_
       refine Run.done ?_
       refine Run.goal ⟨(by repeat (first | exact Same.refl _ _ | refine Same.put rfl ?_ | refine Same.over rfl rfl ?_)), k + 1, ?_, ?_, ?_, ?_⟩
       ·refine ⟨by omega, ?_⟩
        intro i hi
        rcases Nat.lt_succ_iff_lt_or_eq.1 hi with h | h
        ·exact hinv.2 i h
        ·rw [h]; exact hgood
       ·omega
       ·exact ⟨(by first | rfl | (congr 1; omega) | simp), trivial⟩
       ·exact (Some'.weak (.takeEq (by first | rfl | simp) (.take (.nil _))))
     ·have p32 := h32; try simp only [bs] at p32
      have hno : hasI os (k : Int) no = false := by simpa using p32
      refine Run.skip ?_
      refine Run.seq ?_
      refine Run.sr ?_
      refine Run.p (.int .i64 (ix nx (k))) rfl rfl ?_
      refine Run.y (.pointer (some ⟨b1, 0, none⟩)) rfl (OpY.fieldAddr Tfo_26_0 rfl rfl) ?_
      refine Run.y (.int .i64 (((n : Nat) : Int))) rfl (OpY.load1 Tone_3 rfl (Cells.blk (.tail _ (List.Mem.head _)) ⟨rfl, trivial⟩)) ?_
      refine Run.y (.int .i64 (((qn : Nat) : Int))) rfl (OpY.shlOne rfl rfl rfl (by omega) hqn) ?_
      refine Run.y (.int .i64 ((((qn : Nat) : Int)) - 1)) rfl (OpY.sub rfl rfl rfl (by omega) (by omega)) ?_
      refine Run.q (v := .bool (within (ix nx k) 0 ((qn : Int) - 1))) rfl (OpQ.call (vs := [.int .i64 (ix nx (k)), .int .i64 0, .int .i64 ((((qn : Nat) : Int)) - 1)]) (caps := []) Tcall_48 rfl rfl (fun w hs => within_spec _ _ _ w)) ?_
      refine Run.p (.bool (!(within (ix nx k) 0 ((qn : Int) - 1)))) rfl rfl ?_
      rcases Bool.eq_false_or_eq_true (!(within (ix nx k) 0 ((qn : Int) - 1))) with h42 | h42
      ·refine Run.q (v := .bool true) rfl (OpQ.y (OpY.moveB rfl h42)) ?_
       have p42 := h42; try simp only [bs] at p42
       have hz1 : within (ix nx k) 0 (((2 ^ n : Nat) : Int) - 1) = false := by rw [← hqn]; simpa using p42
       refine Run.pass rfl ?_
       refine Run.pass rfl ?_
       refine Run.pass rfl ?_
       refine Run.pass rfl ?_
       refine Run.pass rfl ?_
       refine Run.pass rfl ?_
       refine Run.p (.bool true) rfl rfl ?_
       refine Run.p (.bool true) rfl rfl ?_
       refine Run.pass rfl ?_
       refine Run.pass rfl ?_
       refine Run.pass rfl ?_
       refine Run.pass rfl ?_
       refine Run.pass rfl ?_
       refine Run.p (.bool true) rfl rfl ?_
       refine Run.done ?_
       refine Run.cond (b := true) rfl (fun _ => ?_) (fun h => nomatch h)
       refine Run.seq ?_
       have hres : gfB es m n is ni os no nx nn ly nl = false := gfB_at hltk (by unfold gfAt; rw [if_neg (by rw [hno]; decide)]; first | (rw [hz1]; rfl) | (rw [hut, decide_eq_false hz2]; simp; done) | (simp only [hut, hz3, Bool.not_true, Bool.and_false, Bool.false_and]))
       refine Run.region ?_
       refine Run.p (.bool false) rfl rfl ?_
       refine Run.done ?_
       refine Run.ret ?_
       refine ⟨.bool false, [], Out.one rfl rfl, (Some'.weak (.nil _)), ?_⟩
       show _ = _; rw [hres]
      ·refine Run.q (v := .bool false) rfl (OpQ.y (OpY.moveB rfl h42)) ?_
       have p42 := h42; try simp only [bs] at p42
       have hw1 : within (ix nx k) 0 (((2 ^ n : Nat) : Int) - 1) = true := by rw [← hqn]; simpa using p42
       have hw1i := within_iff.1 hw1
       obtain ⟨s, hs_⟩ : ∃ u : Nat, ix nx k = (u : Int) := ⟨(ix nx k).toNat, by omega⟩
       have hut : (ix nx k).toNat = s := by rw [hs_, Int.toNat_natCast]
       have hsn : s < 2 ^ n := by omega
       have hodl := oddM_lt es m n s n
       have hsand : s &&& mskK is ni < 2 ^ n := Nat.lt_of_le_of_lt Nat.and_le_left hsn
       refine Run.p (.int .i64 (ix nx (k))) rfl rfl ?_
       refine Run.y (.pointer (some ⟨b1, 2, none⟩)) rfl (OpY.fieldAddr Tfo_26_2 rfl rfl) ?_
       refine Run.y (vi) rfl (OpY.load1 Tone_24 rfl (Cells.blk (.tail _ (List.Mem.head _)) ⟨rfl, trivial⟩)) ?_
       refine Run.q (v := .int .i64 (((mskK is ni : Nat) : Int))) rfl (OpQ.call (vs := [vi]) (caps := []) Tcall_38 rfl rfl (fun w hs => maskOf_spec hn10 (ris_in hri) (hs.sl hi))) ?_
       refine Run.y (.int .i64 (((s &&& mskK is ni : Nat) : Int))) rfl (OpY.andNatE rfl rfl hs_ rfl (by omega) (by omega)) ?_
       refine Run.p (.bool ((((s &&& mskK is ni : Nat) : Int)) != 0)) rfl rfl ?_
       refine Run.p (.bool ((((s &&& mskK is ni : Nat) : Int)) != 0)) rfl rfl ?_
       rcases Bool.eq_false_or_eq_true ((((s &&& mskK is ni : Nat) : Int)) != 0) with h50 | h50
       ·refine Run.q (v := .bool true) rfl (OpQ.y (OpY.moveB rfl h50)) ?_
        have p50 := h50; try simp only [bs] at p50
        have hz2 : ¬ s &&& mskK is ni = 0 := by omega
        refine Run.pass rfl ?_
        refine Run.pass rfl ?_
        refine Run.pass rfl ?_
        refine Run.pass rfl ?_
        refine Run.pass rfl ?_
        refine Run.p (.bool true) rfl rfl ?_
        refine Run.done ?_
        refine Run.cond (b := true) rfl (fun _ => ?_) (fun h => nomatch h)
        refine Run.seq ?_
        have hres : gfB es m n is ni os no nx nn ly nl = false := gfB_at hltk (by unfold gfAt; rw [if_neg (by rw [hno]; decide)]; first | (rw [hz1]; rfl) | (rw [hut, decide_eq_false hz2]; simp; done) | (simp only [hut, hz3, Bool.not_true, Bool.and_false, Bool.false_and]))
        refine Run.region ?_
        refine Run.p (.bool false) rfl rfl ?_
        refine Run.done ?_
        refine Run.ret ?_
        refine ⟨.bool false, [], Out.one rfl rfl, (Some'.weak (.nil _)), ?_⟩
        show _ = _; rw [hres]
       ·refine Run.q (v := .bool false) rfl (OpQ.y (OpY.moveB rfl h50)) ?_
        have p50 := h50; try simp only [bs] at p50
        have hw2 : s &&& mskK is ni = 0 := by omega
        refine Run.p (.int .i64 (ix nx (k))) rfl rfl ?_
        refine Run.p (.int .i64 (((k : Nat) : Int))) rfl rfl ?_
        refine Run.y (.int .i64 ((ix nx (k)) >>> k)) rfl (OpY.shr rfl rfl (by first | rfl | omega) (by omega)) ?_
        refine Run.y (.int .i64 (((ix nx (k)) >>> k) % 2)) rfl (OpY.and1 rfl rfl) ?_
        refine Run.p (.bool ((((ix nx (k)) >>> k) % 2) == 1)) rfl rfl ?_
        refine Run.p (.bool ((((ix nx (k)) >>> k) % 2) == 1)) rfl rfl ?_
        refine Run.done ?_
        refine Run.cond (b := (((ix nx (k)) >>> k) % 2) == 1) rfl (fun h56 => ?_) (fun h56 => ?_)
        ·have p56 := h56; try simp only [bs] at p56
         have hz3 : s.testBit k = true := by rw [← bitN, ← hs_]; exact bitI_true p56
         refine Run.seq ?_
         have hres : gfB es m n is ni os no nx nn ly nl = false := gfB_at hltk (by unfold gfAt; rw [if_neg (by rw [hno]; decide)]; first | (rw [hz1]; rfl) | (rw [hut, decide_eq_false hz2]; simp; done) | (simp only [hut, hz3, Bool.not_true, Bool.and_false, Bool.false_and]))
         refine Run.region ?_
         refine Run.p (.bool false) rfl rfl ?_
         refine Run.done ?_
         refine Run.ret ?_
         refine ⟨.bool false, [], Out.one rfl rfl, (Some'.weak (.nil _)), ?_⟩
         show _ = _; rw [hres]
        ·have p56 := h56; try simp only [bs] at p56
         have hw3 : s.testBit k = false := by rw [← bitN, ← hs_]; exact bitI_ne1 p56
         refine Run.skip ?_
         refine Run.sr ?_
         refine Run.y (.agg #[.int .i64 (((n : Nat) : Int)), ve, vi, vo]) rfl (OpY.loadN (cs := [.int .i64 (((n : Nat) : Int)), ve, vi, vo]) Tagg_26 rfl (Cells.blk (.tail _ (List.Mem.head _)) ⟨rfl, rfl, rfl, rfl, trivial⟩)) ?_
         refine Run.p (.int .i64 (ix nx (k))) rfl rfl ?_
         refine Run.q (v := .int .i64 (((oddM es m n s n : Nat) : Int))) rfl (OpQ.call (vs := [.agg #[.int .i64 (((n : Nat) : Int)), ve, vi, vo], .int .i64 (ix nx (k))]) (caps := []) Tcall_49 rfl rfl (fun w hs => (by have h := odd_spec (set := s) (ve := ve) (vi := vi) (vo := vo) hn10 hsn hes (hs.sl he); rw [← hs_] at h; exact h))) ?_
         refine Run.p (.int .i64 (((oddM es m n s n : Nat) : Int))) rfl rfl ?_
         refine Run.done ?_
         refine Run.seq ?_
         refine Run.draws (by kernel_rfl) (by kernel_rfl) ?_
         refine Lex.q (v := .int .i64 (((oddM es m n s n : Nat) : Int))) rfl (OpQ.y (OpY.pure rfl)) ?_
         refine Lex.q (v := .int .i64 (((k : Nat) : Int))) rfl (OpQ.y (OpY.pure rfl)) ?_
         refine Lex.q (v := .int .i64 ((((oddM es m n s n : Nat) : Int)) >>> k)) rfl (OpQ.y (OpY.shr rfl rfl (by first | rfl | omega) (by omega))) ?_
         refine Lex.q (v := .int .i64 (((((oddM es m n s n : Nat) : Int)) >>> k) % 2)) rfl (OpQ.y (OpY.and1 rfl rfl)) ?_
         refine Lex.q (v := .bool ((((((oddM es m n s n : Nat) : Int)) >>> k) % 2) == 0)) rfl (OpQ.y (OpY.pure rfl)) ?_
         rcases Bool.eq_false_or_eq_true ((((((oddM es m n s n : Nat) : Int)) >>> k) % 2) == 0) with h65 | h65
         ·refine Lex.q (v := .bool true) rfl (OpQ.y (OpY.moveB rfl h65)) ?_
          have p65 := h65; try simp only [bs] at p65
          have hz4 : (oddM es m n s n).testBit k = false := by rw [← bitN]; exact bitI_false p65
          refine Lex.pass rfl ?_
          refine Lex.pass rfl ?_
          refine Lex.pass rfl ?_
          refine Lex.pass rfl ?_
          refine Lex.pass rfl ?_
          refine Lex.pass rfl ?_
          refine Lex.pass rfl ?_
          refine Lex.pass rfl ?_
          refine Lex.pass rfl ?_
          refine Lex.pass rfl ?_
          refine Lex.pass rfl ?_
          refine Lex.pass rfl ?_
          refine Lex.q (v := .bool true) rfl (OpQ.y (OpY.pure rfl)) ?_
          refine Lex.done ?_
          refine Run.cond (b := true) rfl (fun _ => ?_) (fun h => nomatch h)
          refine Run.seq ?_
          have hres : gfB es m n is ni os no nx nn ly nl = false := gfB_at hltk (by unfold gfAt; rw [if_neg (by rw [hno]; decide)]; first | (simp only [hut, hz4, Bool.and_false, Bool.false_and]; done) | (simp only [hut, hz5, Bool.and_false]; done))
          refine Run.region ?_
          refine Run.p (.bool false) rfl rfl ?_
          refine Run.done ?_
          refine Run.ret ?_
          refine ⟨.bool false, [], Out.one rfl rfl, (Some'.weak (.nil _)), ?_⟩
          show _ = _; rw [hres]
         ·refine Lex.q (v := .bool false) rfl (OpQ.y (OpY.moveB rfl h65)) ?_
          have p65 := h65; try simp only [bs] at p65
          have hw4 : (oddM es m n s n).testBit k = true := by rw [← bitN]; exact bitI_ne p65
          have hcl : (oddM es m n s n) ^^^ ((oddM es m n s n) &&& q2) = clr (oddM es m n s n) k := by rw [hq2]; rfl
          have hcll := clr_lt (v := k) hodl
          have hor : s ||| clr (oddM es m n s n) k < 2 ^ n := Nat.or_lt_two_pow hsn hcll
          refine Lex.q (v := .agg #[.int .i64 (((n : Nat) : Int)), ve, vi, vo]) rfl (OpQ.y (OpY.loadN (cs := [.int .i64 (((n : Nat) : Int)), ve, vi, vo]) Tagg_26 rfl (Cells.blk (.tail _ (List.Mem.head _)) ⟨rfl, rfl, rfl, rfl, trivial⟩))) ?_
          refine Lex.q (v := .pointer (some ⟨b2, 1, none⟩)) rfl (OpQ.y (OpY.fieldAddr Tfo_38_1 rfl rfl)) ?_
          refine Lex.q (v := .slice Ay nl cy_) rfl (OpQ.y (OpY.load1 Tone_24 rfl (Cells.blk (.head _) ⟨rfl, trivial⟩))) ?_
          refine Lex.q (v := .int .i64 (((k : Nat) : Int))) rfl (OpQ.y (OpY.pure rfl)) ?_
          refine Lex.q (v := .int .i64 (ix nx (k))) rfl (OpQ.y (OpY.pure rfl)) ?_
          refine Lex.q (v := .int .i64 (((oddM es m n s n : Nat) : Int))) rfl (OpQ.y (OpY.pure rfl)) ?_
          refine Lex.q (v := .int .i64 (((k : Nat) : Int))) rfl (OpQ.y (OpY.pure rfl)) ?_
          refine Lex.q (v := .int .i64 (((q2 : Nat) : Int))) rfl (OpQ.y (OpY.shlOne rfl rfl rfl (by omega) hq2)) ?_
          refine Lex.q (v := .int .i64 (((clr (oddM es m n s n) k : Nat) : Int))) rfl (OpQ.y (OpY.andNotNat rfl rfl (by omega) (by omega) hcl)) ?_
          refine Lex.q (v := .int .i64 (((s ||| clr (oddM es m n s n) k : Nat) : Int))) rfl (OpQ.y (OpY.orNatE rfl rfl hs_ (by omega) (by omega))) ?_
          refine Lex.q (v := .bool (befB ly k (s ||| clr (oddM es m n s n) k) n)) rfl (OpQ.call (vs := [.agg #[.int .i64 (((n : Nat) : Int)), ve, vi, vo], .slice Ay nl cy_, .int .i64 (((k : Nat) : Int)), .int .i64 (((s ||| clr (oddM es m n s n) k : Nat) : Int))]) (caps := []) Tcall_65 rfl rfl (fun w hs => (by have h := isBefore_spec (v := k) (set := s ||| clr (oddM es m n s n) k) (ve := ve) (vi := vi) (vo := vo) hn10 hkn hor (Sl.cnt hnl (hs.sl hy)); exact h))) ?_
          refine Lex.q (v := .bool (!(befB ly k (s ||| clr (oddM es m n s n) k) n))) rfl (OpQ.y (OpY.pure rfl)) ?_
          refine Lex.q (v := .bool (!(befB ly k (s ||| clr (oddM es m n s n) k) n))) rfl (OpQ.y (OpY.pure rfl)) ?_
          refine Lex.done ?_
          refine Run.cond (b := !(befB ly k (s ||| clr (oddM es m n s n) k) n)) rfl (fun h78 => ?_) (fun h78 => ?_)
          ·have p78 := h78; try simp only [bs] at p78
           have hz5 : befB ly k (s ||| clr (oddM es m n s n) k) n = false := by simpa using p78
           refine Run.seq ?_
           have hres : gfB es m n is ni os no nx nn ly nl = false := gfB_at hltk (by unfold gfAt; rw [if_neg (by rw [hno]; decide)]; first | (simp only [hut, hz4, Bool.and_false, Bool.false_and]; done) | (simp only [hut, hz5, Bool.and_false]; done))
           refine Run.region ?_
           refine Run.p (.bool false) rfl rfl ?_
           refine Run.done ?_
           refine Run.ret ?_
           refine ⟨.bool false, [], Out.one rfl rfl, (Some'.weak (.nil _)), ?_⟩
           show _ = _; rw [hres]
          ·have p78 := h78; try simp only [bs] at p78
           have hw5 : befB ly k (s ||| clr (oddM es m n s n) k) n = true := by simpa using p78
           have hgood : gfAt es m n is ni os no nx ly k = true := by unfold gfAt; rw [if_neg (by rw [hno]; decide)]; simp only [hut, hw1, hw2, hw3, hw4, hw5, decide_true, Bool.not_false, Bool.and_self]
           refine Run.skip ?_
           refine Run.blockEnd ?_
           refine Run.region ?_
           refine Run.y (.int .i64 ((((k : Nat) : Int)) + 1)) rfl (OpY.add rfl rfl rfl (by omega) (by omega)) ?_
           refine Run.p (.int .i64 ((((k : Nat) : Int)) + 1)) rfl rfl ?_
           refine Run.done ?_
           refine Run.goal ⟨(by repeat (first | exact Same.refl _ _ | refine Same.put rfl ?_ | refine Same.over rfl rfl ?_)), k + 1, ?_, ?_, ?_, ?_⟩
           ·refine ⟨by omega, ?_⟩
            intro i hi
            rcases Nat.lt_succ_iff_lt_or_eq.1 hi with h | h
            ·exact hinv.2 i h
            ·rw [h]; exact hgood
           ·omega
           ·exact ⟨(by first | rfl | (congr 1; omega) | simp), trivial⟩
           ·exact (Some'.weak (.takeEq (by first | rfl | simp) (.take (.nil _))))
    ·have p25 := h25; try simp only [bs] at p25
     have hknk : k = nn := by omega
     have hres : gfB es m n is ni os no nx nn ly nl = true := by
      unfold gfB; rw [decide_eq_true hnn, hlay, Bool.true_and, Bool.true_and]; exact allI_iff.2 (by rw [← hknk]; exact hinv.2)
     refine Run.exit rfl ?_
     refine Run.sr ?_
     refine Run.p (.bool true) rfl rfl ?_
     refine Run.done ?_
     refine Run.ret ?_
     refine ⟨.bool true, [], Out.one rfl rfl, (Some'.weak (.nil _)), ?_⟩
     show _ = _; rw [hres]

set_option maxHeartbeats 2000000 in
set_option maxRecDepth 20000 in
theorem l19GFlow_spec {ve vi vo vx vy : Value} {n m ni no nn nl : Nat} {es is os nx ly : List Int} {w : World} (hn1 : 1 ≤ n) (hn10 : n ≤ 10) (hes : edgesOk (n : Int) es m = true) (hri : risB is n ni = true) (he : Sl w ve 2 m (ints es)) (hi : Sl w vi 1 ni (ints is)) (ho : Sl w vo 1 no (ints os)) (hx : Sl w vx 1 nn (ints nx)) (hy : Sl w vy 1 nl (ints ly)) : Calls Try.prog 45 #[.agg #[.int .i64 (n : Int), ve, vi, vo], .agg #[vx, vy]] w (Post No w fun v _ => v = .bool (gfB es m n is ni os no nx nn ly nl)) := by
 have hp10 := pow10 hn10
 obtain ⟨Ax, cx_, rfl, _, _⟩ := hx.form0
 have hxl := hx.len
 obtain ⟨Ay, cy_, rfl, _, _⟩ := hy.form0
 obtain ⟨qn, hqn⟩ : ∃ q : Nat, q = 2 ^ n := ⟨_, rfl⟩
 have hqn1 : 1 ≤ qn := by rw [hqn]; exact Nat.two_pow_pos _
 have hmk := mskK_lt (n := n) (k := ni) (l := is) (ris_in hri)
 refine enter (n := 86) (args := [.agg #[.int .i64 (((n : Nat) : Int)), ve, vi, vo], .agg #[.slice Ax nn cx_, .slice Ay nl cy_]]) Try.func45 rfl rfl (St.empty _ _) ?_
 refine Run.sr ?_
 refine Run.step rfl (OpStep.box (us := [.int .i64 (((n : Nat) : Int)), ve, vi, vo]) rfl fun b1 => ?_)
 refine Run.step rfl (OpStep.box (us := [.slice Ax nn cx_, .slice Ay nl cy_]) rfl fun b2 => ?_)
 refine Run.p (.bool false) rfl rfl ?_
 refine Run.done ?_
 refine Run.seq ?_
 refine Run.sr ?_
 refine Run.y (.pointer (some ⟨b2, 0, none⟩)) rfl (OpY.fieldAddr Tfo_38_0 rfl rfl) ?_
 refine Run.y (.slice Ax nn cx_) rfl (OpY.load1 Tone_24 rfl (Cells.blk (.head _) ⟨rfl, trivial⟩)) ?_
 refine Run.y (.int .i64 (((nn : Nat) : Int))) rfl (OpY.len Tsl_24 rfl) ?_
 refine Run.y (.pointer (some ⟨b1, 0, none⟩)) rfl (OpY.fieldAddr Tfo_26_0 rfl rfl) ?_
 refine Run.y (.int .i64 (((n : Nat) : Int))) rfl (OpY.load1 Tone_3 rfl (Cells.blk (.tail _ (List.Mem.head _)) ⟨rfl, trivial⟩)) ?_
 refine Run.p (.bool ((((nn : Nat) : Int)) != (((n : Nat) : Int)))) rfl rfl ?_
 rcases Bool.eq_false_or_eq_true ((((nn : Nat) : Int)) != (((n : Nat) : Int))) with h14 | h14
 ·refine Run.q (v := .bool true) rfl (OpQ.y (OpY.moveB rfl h14)) ?_
  have p14 := h14; try simp only [bs] at p14
  refine Run.pass rfl ?_
  refine Run.pass rfl ?_
  refine Run.pass rfl ?_
  refine Run.pass rfl ?_
  refine Run.pass rfl ?_
  refine Run.pass rfl ?_
  refine Run.p (.bool true) rfl rfl ?_
  refine Run.p (.bool true) rfl rfl ?_
  refine Run.pass rfl ?_
  refine Run.pass rfl ?_
  refine Run.pass rfl ?_
  refine Run.pass rfl ?_
  refine Run.p (.bool true) rfl rfl ?_
  refine Run.done ?_
  refine Run.cond (b := true) rfl (fun _ => ?_) (fun h => nomatch h)
  refine Run.seq ?_
  have hres : gfB es m n is ni os no nx nn ly nl = false := by
   unfold gfB layB
   first | (rw [decide_eq_false (show ¬ nn = n by omega)]; rfl) | (rw [decide_eq_false (show ¬ nl = n by omega)]; simp; done) | (rw [show allI (fun i => within (ix ly i) 0 100) nl = false by simpa using p27]; simp)
  refine Run.region ?_
  refine Run.p (.bool false) rfl rfl ?_
  refine Run.done ?_
  refine Run.ret ?_
  refine ⟨.bool false, [], Out.one rfl rfl, (Some'.weak (.nil _)), ?_⟩
  show _ = _; rw [hres]
 ·refine Run.q (v := .bool false) rfl (OpQ.y (OpY.moveB rfl h14)) ?_
  have p14 := h14; try simp only [bs] at p14
  refine Run.y (.pointer (some ⟨b2, 1, none⟩)) rfl (OpY.fieldAddr Tfo_38_1 rfl rfl) ?_
  refine Run.y (.slice Ay nl cy_) rfl (OpY.load1 Tone_24 rfl (Cells.blk (.head _) ⟨rfl, trivial⟩)) ?_
  refine Run.y (.int .i64 (((nl : Nat) : Int))) rfl (OpY.len Tsl_24 rfl) ?_
  refine Run.y (.pointer (some ⟨b1, 0, none⟩)) rfl (OpY.fieldAddr Tfo_26_0 rfl rfl) ?_
  refine Run.y (.int .i64 (((n : Nat) : Int))) rfl (OpY.load1 Tone_3 rfl (Cells.blk (.tail _ (List.Mem.head _)) ⟨rfl, trivial⟩)) ?_
  refine Run.p (.bool ((((nl : Nat) : Int)) != (((n : Nat) : Int)))) rfl rfl ?_
  refine Run.p (.bool ((((nl : Nat) : Int)) != (((n : Nat) : Int)))) rfl rfl ?_
  rcases Bool.eq_false_or_eq_true ((((nl : Nat) : Int)) != (((n : Nat) : Int))) with h22 | h22
  ·refine Run.q (v := .bool true) rfl (OpQ.y (OpY.moveB rfl h22)) ?_
   have p22 := h22; try simp only [bs] at p22
   refine Run.pass rfl ?_
   refine Run.pass rfl ?_
   refine Run.pass rfl ?_
   refine Run.pass rfl ?_
   refine Run.p (.bool true) rfl rfl ?_
   refine Run.done ?_
   refine Run.cond (b := true) rfl (fun _ => ?_) (fun h => nomatch h)
   refine Run.seq ?_
   have hres : gfB es m n is ni os no nx nn ly nl = false := by
    unfold gfB layB
    first | (rw [decide_eq_false (show ¬ nn = n by omega)]; rfl) | (rw [decide_eq_false (show ¬ nl = n by omega)]; simp; done) | (rw [show allI (fun i => within (ix ly i) 0 100) nl = false by simpa using p27]; simp)
   refine Run.region ?_
   refine Run.p (.bool false) rfl rfl ?_
   refine Run.done ?_
   refine Run.ret ?_
   refine ⟨.bool false, [], Out.one rfl rfl, (Some'.weak (.nil _)), ?_⟩
   show _ = _; rw [hres]
  ·refine Run.q (v := .bool false) rfl (OpQ.y (OpY.moveB rfl h22)) ?_
   have p22 := h22; try simp only [bs] at p22
   refine Run.y (.pointer (some ⟨b2, 1, none⟩)) rfl (OpY.fieldAddr Tfo_38_1 rfl rfl) ?_
   refine Run.y (.slice Ay nl cy_) rfl (OpY.load1 Tone_24 rfl (Cells.blk (.head _) ⟨rfl, trivial⟩)) ?_
   refine Run.q (v := .bool (allI (fun i => within (ix ly i) 0 100) nl)) rfl (OpQ.call (vs := [.slice Ay nl cy_, .int .i64 0, .int .i64 100]) (caps := []) Tcall_66 rfl rfl (fun w hs => (by have h := l1All_spec (lo := 0) (hi := 100) (hs.sl hy); rw [not_any] at h; exact h))) ?_
   refine Run.p (.bool (!(allI (fun i => within (ix ly i) 0 100) nl))) rfl rfl ?_
   refine Run.p (.bool (!(allI (fun i => within (ix ly i) 0 100) nl))) rfl rfl ?_
   refine Run.done ?_
   refine Run.cond (b := !(allI (fun i => within (ix ly i) 0 100) nl)) rfl (fun h27 => ?_) (fun h27 => ?_)
   ·have p27 := h27; try simp only [bs] at p27
    refine Run.seq ?_
    have hres : gfB es m n is ni os no nx nn ly nl = false := by
     unfold gfB layB
     first | (rw [decide_eq_false (show ¬ nn = n by omega)]; rfl) | (rw [decide_eq_false (show ¬ nl = n by omega)]; simp; done) | (rw [show allI (fun i => within (ix ly i) 0 100) nl = false by simpa using p27]; simp)
    refine Run.region ?_
    refine Run.p (.bool false) rfl rfl ?_
    refine Run.done ?_
    refine Run.ret ?_
    refine ⟨.bool false, [], Out.one rfl rfl, (Some'.weak (.nil _)), ?_⟩
    show _ = _; rw [hres]
   ·have p27 := h27; try simp only [bs] at p27
    have hnn : nn = n := by omega
    have hnl : nl = n := by omega
    have hlay : layB ly nl n = true := by unfold layB; rw [decide_eq_true hnl, Bool.true_and]; simpa using p27
    refine Run.skip ?_
    refine Run.seq ?_
    refine Run.sr ?_
    refine Run.y (.pointer (some ⟨b2, 0, none⟩)) rfl (OpY.fieldAddr Tfo_38_0 rfl rfl) ?_
    refine Run.y (.slice Ax nn cx_) rfl (OpY.load1 Tone_24 rfl (Cells.blk (.head _) ⟨rfl, trivial⟩)) ?_
    refine Run.y (.int .i64 (((nn : Nat) : Int))) rfl (OpY.len Tsl_24 rfl) ?_
    refine Run.p (.int .i64 0) rfl rfl ?_
    refine Run.done ?_
    refine Run.block ?_
    refine Run.loop (ι := Nat) ([4, 5, 6, 7, 31, 32, 33, 34, 35, 36, 37, 38, 39, 40, 41, 42, 43, 44, 45, 46, 47, 48, 49, 50, 51, 52, 53, 54, 55, 56, 57, 58, 59, 60, 61, 62, 63, 64, 65, 66, 67, 68, 69, 70, 71, 72, 73, 74, 75, 76] ++ [77, 78, 79, 80, 81, 82, 83, 84, 85]) (fun k => [(31, .int .i64 (((k : Nat) : Int)))]) (fun k => [.blk b2 38 [.slice Ax nn cx_, .slice Ay nl cy_], .blk b1 26 [.int .i64 (((n : Nat) : Int)), ve, vi, vo]]) (fun k => k ≤ nn ∧ (∀ i, i < k → gfAt es m n is ni os no nx ly i = true)) (fun k => nn - k) 0 ?_ ?_ ?_ ?_
    ·exact ⟨Nat.zero_le _, by first | trivial | (intro i hi; omega)⟩
    ·exact ⟨rfl, trivial⟩
    ·exact (Some'.weak (.take (.take (.nil _))))
    ·rintro k fr hinv
     show Run _ _ (over _ _ [(31, .int .i64 (((k : Nat) : Int)))] fr) [.blk b2 38 [.slice Ax nn cx_, .slice Ay nl cy_], .blk b1 26 [.int .i64 (((n : Nat) : Int)), ve, vi, vo]]
     try dsimp only at hinv
     refine Run.sr ?_
     refine Run.p (.bool (decide ((((k : Nat) : Int)) < (((nn : Nat) : Int))))) rfl rfl ?_
     refine Run.done ?_
     refine Run.seq ?_
     refine Run.cond (b := decide ((((k : Nat) : Int)) < (((nn : Nat) : Int)))) rfl (fun h32 => ?_) (fun h32 => ?_)
     ·have p32 := h32; try simp only [bs] at p32
      have hltk : k < nn := by omega
      obtain ⟨bq, oq, rfl⟩ := hx.opn (by omega)
      have hkn : k < n := by omega
      obtain ⟨q2, hq2, hq21, hq22⟩ := pow_q (k := k) hn10 hkn
      refine Run.skip ?_
      refine Run.seq ?_
      refine Run.block ?_
      refine Run.sr ?_
      refine Run.p (.int .i64 (((k : Nat) : Int))) rfl rfl ?_
      refine Run.y (.pointer (some ⟨bq, oq + k, none⟩)) rfl (OpY.index (kk := k) Tsl_24 rfl rfl (by omega) (by omega) (by first | rfl | omega)) ?_
      refine Run.y (.int .i64 (ix nx (k))) rfl (OpY.load1 Tone_3 rfl (Cells.arg (k := k) hx rfl (by omega) (pre1 (by omega)))) ?_
      refine Run.p (.int .i64 (((k : Nat) : Int))) rfl rfl ?_
      refine Run.p (.int .i64 (ix nx (k))) rfl rfl ?_
      refine Run.done ?_
      refine Run.seq ?_
      refine Run.sr ?_
      refine Run.y (.pointer (some ⟨b1, 3, none⟩)) rfl (OpY.fieldAddr Tfo_26_3 rfl rfl) ?_
      refine Run.y (vo) rfl (OpY.load1 Tone_24 rfl (Cells.blk (.tail _ (List.Mem.head _)) ⟨rfl, trivial⟩)) ?_
      refine Run.p (.int .i64 (((k : Nat) : Int))) rfl rfl ?_
      refine Run.q (v := .bool (hasI os (k : Int) no)) rfl (OpQ.call (vs := [vo, .int .i64 (((k : Nat) : Int))]) (caps := []) Tcall_62 rfl rfl (fun w hs => l1Has_spec (hs.sl ho))) ?_
      refine Run.done ?_
      refine Run.cond (b := hasI os (k : Int) no) rfl (fun h39 => ?_) (fun h39 => ?_)
      ·have p39 := h39; try simp only [bs] at p39
       have hno : hasI os (k : Int) no = true := by simpa using p39
       refine Run.seq ?_
       refine Run.sr ?_
       refine Run.p (.int .i64 (ix nx (k))) rfl rfl ?_
       refine Run.p (.bool ((ix nx (k)) != 0)) rfl rfl ?_
       refine Run.done ?_
       refine Run.cond (b := (ix nx (k)) != 0) rfl (fun h41 => ?_) (fun h41 => ?_)
       ·have p41 := h41; try simp only [bs] at p41
        have hres : gfB es m n is ni os no nx nn ly nl = false := gfB_at hltk (by unfold gfAt; rw [if_pos hno]; exact decide_eq_false (by omega))
        refine Run.sr ?_
        refine Run.p (.bool false) rfl rfl ?_
        refine Run.done ?_
        refine Run.ret ?_
        refine ⟨.bool false, [], Out.one rfl rfl, (Some'.weak (.nil _)), ?_⟩
        show _ = _; rw [hres]
       ·have p41 := h41; try simp only [bs] at p41
        have hgood : gfAt es m n is ni os no nx ly k = true := by unfold gfAt; rw [if_pos hno]; exact decide_eq_true (by omega)
        refine Run.skip ?_
        refine Run.exit rfl ?_
        refine Run.region ?_
        refine Run.y (.int .i64 ((((k : Nat) : Int)) + 1)) rfl (OpY.add rfl rfl rfl (by omega) (by omega)) ?_
        refine Run.p (.int .i64 ((((k : Nat) : Int)) + 1)) rfl rfl ?_
        refine Run.done ?_
        refine Run.goal ⟨(by repeat (first | exact Same.refl _ _ | refine Same.put rfl ?_ | refine Same.over rfl rfl ?_)), k + 1, ?_, ?_, ?_, ?_⟩
        ·refine ⟨by omega, ?_⟩
         intro i hi
         rcases Nat.lt_succ_iff_lt_or_eq.1 hi with h | h
         ·exact hinv.2 i h
         ·rw [h]; exact hgood
        ·omega
        ·exact ⟨(by first | rfl | (congr 1; omega) | simp), trivial⟩
        ·exact (Some'.weak (.takeEq (by first | rfl | simp) (.take (.nil _))))
      ·have p39 := h39; try simp only [bs] at p39
       have hno : hasI os (k : Int) no = false := by simpa using p39
       refine Run.skip ?_
       refine Run.seq ?_
       refine Run.sr ?_
       refine Run.p (.int .i64 (ix nx (k))) rfl rfl ?_
       refine Run.y (.pointer (some ⟨b1, 0, none⟩)) rfl (OpY.fieldAddr Tfo_26_0 rfl rfl) ?_
       refine Run.y (.int .i64 (((n : Nat) : Int))) rfl (OpY.load1 Tone_3 rfl (Cells.blk (.tail _ (List.Mem.head _)) ⟨rfl, trivial⟩)) ?_
       refine Run.y (.int .u64 (((n : Nat) : Int))) rfl (OpY.convIntEq Tsome_3 Tint_52 rfl (by rw [IntKind.wrap_u64]; omega)) ?_
       refine Run.y (.int .i64 (((qn : Nat) : Int))) rfl (OpY.shlOne rfl rfl rfl (by omega) hqn) ?_
       refine Run.y (.int .i64 ((((qn : Nat) : Int)) - 1)) rfl (OpY.sub rfl rfl rfl (by omega) (by omega)) ?_
       refine Run.q (v := .bool (within (ix nx k) 0 ((qn : Int) - 1))) rfl (OpQ.call (vs := [.int .i64 (ix nx (k)), .int .i64 0, .int .i64 ((((qn : Nat) : Int)) - 1)]) (caps := []) Tcall_55 rfl rfl (fun w hs => l1In_spec _ _ _ w)) ?_
       refine Run.p (.bool (!(within (ix nx k) 0 ((qn : Int) - 1)))) rfl rfl ?_
       rcases Bool.eq_false_or_eq_true (!(within (ix nx k) 0 ((qn : Int) - 1))) with h50 | h50
       ·refine Run.q (v := .bool true) rfl (OpQ.y (OpY.moveB rfl h50)) ?_
        have p50 := h50; try simp only [bs] at p50
        have hz1 : within (ix nx k) 0 (((2 ^ n : Nat) : Int) - 1) = false := by rw [← hqn]; simpa using p50
        refine Run.pass rfl ?_
        refine Run.pass rfl ?_
        refine Run.pass rfl ?_
        refine Run.pass rfl ?_
        refine Run.pass rfl ?_
        refine Run.pass rfl ?_
        refine Run.p (.bool true) rfl rfl ?_
        refine Run.p (.bool true) rfl rfl ?_
        refine Run.pass rfl ?_
        refine Run.pass rfl ?_
        refine Run.pass rfl ?_
        refine Run.pass rfl ?_
        refine Run.pass rfl ?_
        refine Run.pass rfl ?_
        refine Run.p (.bool true) rfl rfl ?_
        refine Run.done ?_
        refine Run.cond (b := true) rfl (fun _ => ?_) (fun h => nomatch h)
        refine Run.seq ?_
        have hres : gfB es m n is ni os no nx nn ly nl = false := gfB_at hltk (by unfold gfAt; rw [if_neg (by rw [hno]; decide)]; first | (rw [hz1]; rfl) | (rw [hut, decide_eq_false hz2]; simp; done) | (simp only [hut, hz3, Bool.not_true, Bool.and_false, Bool.false_and]))
        refine Run.region ?_
        refine Run.p (.bool false) rfl rfl ?_
        refine Run.done ?_
        refine Run.ret ?_
        refine ⟨.bool false, [], Out.one rfl rfl, (Some'.weak (.nil _)), ?_⟩
        show _ = _; rw [hres]
       ·refine Run.q (v := .bool false) rfl (OpQ.y (OpY.moveB rfl h50)) ?_
        have p50 := h50; try simp only [bs] at p50
        have hw1 : within (ix nx k) 0 (((2 ^ n : Nat) : Int) - 1) = true := by rw [← hqn]; simpa using p50
        have hw1i := within_iff.1 hw1
        obtain ⟨s, hs_⟩ : ∃ u : Nat, ix nx k = (u : Int) := ⟨(ix nx k).toNat, by omega⟩
        have hut : (ix nx k).toNat = s := by rw [hs_, Int.toNat_natCast]
        have hsn : s < 2 ^ n := by omega
        have hodl := oddM_lt es m n s n
        have hsand : s &&& mskK is ni < 2 ^ n := Nat.lt_of_le_of_lt Nat.and_le_left hsn
        refine Run.p (.int .i64 (ix nx (k))) rfl rfl ?_
        refine Run.y (.pointer (some ⟨b1, 2, none⟩)) rfl (OpY.fieldAddr Tfo_26_2 rfl rfl) ?_
        refine Run.y (vi) rfl (OpY.load1 Tone_24 rfl (Cells.blk (.tail _ (List.Mem.head _)) ⟨rfl, trivial⟩)) ?_
        refine Run.q (v := .int .i64 (((mskK is ni : Nat) : Int))) rfl (OpQ.call (vs := [vi]) (caps := []) Tcall_68 rfl rfl (fun w hs => l19Mask_spec hn10 (ris_in hri) (hs.sl hi))) ?_
        refine Run.y (.int .i64 (((s &&& mskK is ni : Nat) : Int))) rfl (OpY.andNatE rfl rfl hs_ rfl (by omega) (by omega)) ?_
        refine Run.p (.bool ((((s &&& mskK is ni : Nat) : Int)) != 0)) rfl rfl ?_
        refine Run.p (.bool ((((s &&& mskK is ni : Nat) : Int)) != 0)) rfl rfl ?_
        rcases Bool.eq_false_or_eq_true ((((s &&& mskK is ni : Nat) : Int)) != 0) with h58 | h58
        ·refine Run.q (v := .bool true) rfl (OpQ.y (OpY.moveB rfl h58)) ?_
         have p58 := h58; try simp only [bs] at p58
         have hz2 : ¬ s &&& mskK is ni = 0 := by omega
         refine Run.pass rfl ?_
         refine Run.pass rfl ?_
         refine Run.pass rfl ?_
         refine Run.pass rfl ?_
         refine Run.pass rfl ?_
         refine Run.pass rfl ?_
         refine Run.p (.bool true) rfl rfl ?_
         refine Run.done ?_
         refine Run.cond (b := true) rfl (fun _ => ?_) (fun h => nomatch h)
         refine Run.seq ?_
         have hres : gfB es m n is ni os no nx nn ly nl = false := gfB_at hltk (by unfold gfAt; rw [if_neg (by rw [hno]; decide)]; first | (rw [hz1]; rfl) | (rw [hut, decide_eq_false hz2]; simp; done) | (simp only [hut, hz3, Bool.not_true, Bool.and_false, Bool.false_and]))
         refine Run.region ?_
         refine Run.p (.bool false) rfl rfl ?_
         refine Run.done ?_
         refine Run.ret ?_
         refine ⟨.bool false, [], Out.one rfl rfl, (Some'.weak (.nil _)), ?_⟩
         show _ = _; rw [hres]
        ·refine Run.q (v := .bool false) rfl (OpQ.y (OpY.moveB rfl h58)) ?_
         have p58 := h58; try simp only [bs] at p58
         have hw2 : s &&& mskK is ni = 0 := by omega
         refine Run.p (.int .i64 (ix nx (k))) rfl rfl ?_
         refine Run.p (.int .i64 (((k : Nat) : Int))) rfl rfl ?_
         refine Run.y (.int .u64 (((k : Nat) : Int))) rfl (OpY.convIntEq Tsome_3 Tint_52 rfl (by rw [IntKind.wrap_u64]; omega)) ?_
         refine Run.y (.int .i64 ((ix nx (k)) >>> k)) rfl (OpY.shr rfl rfl (by first | rfl | omega) (by omega)) ?_
         refine Run.y (.int .i64 (((ix nx (k)) >>> k) % 2)) rfl (OpY.and1 rfl rfl) ?_
         refine Run.p (.bool ((((ix nx (k)) >>> k) % 2) == 1)) rfl rfl ?_
         refine Run.p (.bool ((((ix nx (k)) >>> k) % 2) == 1)) rfl rfl ?_
         refine Run.done ?_
         refine Run.cond (b := (((ix nx (k)) >>> k) % 2) == 1) rfl (fun h65 => ?_) (fun h65 => ?_)
         ·have p65 := h65; try simp only [bs] at p65
          have hz3 : s.testBit k = true := by rw [← bitN, ← hs_]; exact bitI_true p65
          refine Run.seq ?_
          have hres : gfB es m n is ni os no nx nn ly nl = false := gfB_at hltk (by unfold gfAt; rw [if_neg (by rw [hno]; decide)]; first | (rw [hz1]; rfl) | (rw [hut, decide_eq_false hz2]; simp; done) | (simp only [hut, hz3, Bool.not_true, Bool.and_false, Bool.false_and]))
          refine Run.region ?_
          refine Run.p (.bool false) rfl rfl ?_
          refine Run.done ?_
          refine Run.ret ?_
          refine ⟨.bool false, [], Out.one rfl rfl, (Some'.weak (.nil _)), ?_⟩
          show _ = _; rw [hres]
         ·have p65 := h65; try simp only [bs] at p65
          have hw3 : s.testBit k = false := by rw [← bitN, ← hs_]; exact bitI_ne1 p65
          refine Run.skip ?_
          refine Run.sr ?_
          refine Run.y (.agg #[.int .i64 (((n : Nat) : Int)), ve, vi, vo]) rfl (OpY.loadN (cs := [.int .i64 (((n : Nat) : Int)), ve, vi, vo]) Tagg_26 rfl (Cells.blk (.tail _ (List.Mem.head _)) ⟨rfl, rfl, rfl, rfl, trivial⟩)) ?_
          refine Run.p (.int .i64 (ix nx (k))) rfl rfl ?_
          refine Run.q (v := .int .i64 (((oddM es m n s n : Nat) : Int))) rfl (OpQ.call (vs := [.agg #[.int .i64 (((n : Nat) : Int)), ve, vi, vo], .int .i64 (ix nx (k))]) (caps := []) Tcall_69 rfl rfl (fun w hs => (by have h := l19Odd_spec (set := s) (ve := ve) (vi := vi) (vo := vo) hn10 hsn hes (hs.sl he); rw [← hs_] at h; exact h))) ?_
          refine Run.p (.int .i64 (((oddM es m n s n : Nat) : Int))) rfl rfl ?_
          refine Run.dsr ?_
          refine Run.p (.int .i64 (((oddM es m n s n : Nat) : Int))) rfl rfl ?_
          refine Run.p (.int .i64 (((k : Nat) : Int))) rfl rfl ?_
          refine Run.y (.int .u64 (((k : Nat) : Int))) rfl (OpY.convIntEq Tsome_3 Tint_52 rfl (by rw [IntKind.wrap_u64]; omega)) ?_
          refine Run.y (.int .i64 ((((oddM es m n s n : Nat) : Int)) >>> k)) rfl (OpY.shr rfl rfl (by first | rfl | omega) (by omega)) ?_
          refine Run.y (.int .i64 (((((oddM es m n s n : Nat) : Int)) >>> k) % 2)) rfl (OpY.and1 rfl rfl) ?_
          refine Run.p (.bool ((((((oddM es m n s n : Nat) : Int)) >>> k) % 2) == 0)) rfl rfl ?_
          rcases Bool.eq_false_or_eq_true ((((((oddM es m n s n : Nat) : Int)) >>> k) % 2) == 0) with h75 | h75
          ·refine Run.q (v := .bool true) rfl (OpQ.y (OpY.moveB rfl h75)) ?_
           have p75 := h75; try simp only [bs] at p75
           have hz4 : (oddM es m n s n).testBit k = false := by rw [← bitN]; exact bitI_false p75
           refine Run.pass rfl ?_
           refine Run.pass rfl ?_
           refine Run.pass rfl ?_
           refine Run.pass rfl ?_
           refine Run.pass rfl ?_
           refine Run.pass rfl ?_
           refine Run.pass rfl ?_
           refine Run.pass rfl ?_
           refine Run.p (.bool true) rfl rfl ?_
           refine Run.done ?_
           refine Run.cond (b := true) rfl (fun _ => ?_) (fun h => nomatch h)
           refine Run.seq ?_
           have hres : gfB es m n is ni os no nx nn ly nl = false := gfB_at hltk (by unfold gfAt; rw [if_neg (by rw [hno]; decide)]; first | (simp only [hut, hz4, Bool.and_false, Bool.false_and]; done) | (simp only [hut, hz5, Bool.and_false]; done))
           refine Run.region ?_
           refine Run.p (.bool false) rfl rfl ?_
           refine Run.done ?_
           refine Run.ret ?_
           refine ⟨.bool false, [], Out.one rfl rfl, (Some'.weak (.nil _)), ?_⟩
           show _ = _; rw [hres]
          ·refine Run.q (v := .bool false) rfl (OpQ.y (OpY.moveB rfl h75)) ?_
           have p75 := h75; try simp only [bs] at p75
           have hw4 : (oddM es m n s n).testBit k = true := by rw [← bitN]; exact bitI_ne p75
           have hcl : (oddM es m n s n) ^^^ ((oddM es m n s n) &&& q2) = clr (oddM es m n s n) k := by rw [hq2]; rfl
           have hcll := clr_lt (v := k) hodl
           have hor : s ||| oddM es m n s n < 2 ^ n := Nat.or_lt_two_pow hsn hodl
           have hco := clr_or (o := oddM es m n s n) hw3
           refine Run.y (.pointer (some ⟨b2, 1, none⟩)) rfl (OpY.fieldAddr Tfo_38_1 rfl rfl) ?_
           refine Run.y (.slice Ay nl cy_) rfl (OpY.load1 Tone_24 rfl (Cells.blk (.head _) ⟨rfl, trivial⟩)) ?_
           refine Run.p (.int .i64 (((k : Nat) : Int))) rfl rfl ?_
           refine Run.p (.int .i64 (ix nx (k))) rfl rfl ?_
           refine Run.p (.int .i64 (((oddM es m n s n : Nat) : Int))) rfl rfl ?_
           refine Run.y (.int .i64 (((s ||| oddM es m n s n : Nat) : Int))) rfl (OpY.orNatE rfl rfl hs_ (by omega) (by omega)) ?_
           refine Run.q (v := .bool (befB ly k (clr (s ||| oddM es m n s n) k) n)) rfl (OpQ.call (vs := [.slice Ay nl cy_, .int .i64 (((k : Nat) : Int)), .int .i64 (((s ||| oddM es m n s n : Nat) : Int))]) (caps := []) Tcall_67 rfl rfl (fun w hs => (by have h := l19Before_spec (v := k) (set := s ||| oddM es m n s n) hn10 hkn hor (Sl.cnt hnl (hs.sl hy)); exact h))) ?_
           refine Run.p (.bool (!(befB ly k (clr (s ||| oddM es m n s n) k) n))) rfl rfl ?_
           refine Run.p (.bool (!(befB ly k (clr (s ||| oddM es m n s n) k) n))) rfl rfl ?_
           refine Run.done ?_
           refine Run.cond (b := !(befB ly k (clr (s ||| oddM es m n s n) k) n)) rfl (fun h84 => ?_) (fun h84 => ?_)
           ·have p84 := h84; try simp only [bs] at p84
            have hz5 : befB ly k (s ||| clr (oddM es m n s n) k) n = false := by rw [hco] at p84; simpa using p84
            refine Run.seq ?_
            have hres : gfB es m n is ni os no nx nn ly nl = false := gfB_at hltk (by unfold gfAt; rw [if_neg (by rw [hno]; decide)]; first | (simp only [hut, hz4, Bool.and_false, Bool.false_and]; done) | (simp only [hut, hz5, Bool.and_false]; done))
            refine Run.region ?_
            refine Run.p (.bool false) rfl rfl ?_
            refine Run.done ?_
            refine Run.ret ?_
            refine ⟨.bool false, [], Out.one rfl rfl, (Some'.weak (.nil _)), ?_⟩
            show _ = _; rw [hres]
           ·have p84 := h84; try simp only [bs] at p84
            have hw5 : befB ly k (s ||| clr (oddM es m n s n) k) n = true := by rw [hco] at p84; simpa using p84
            have hgood : gfAt es m n is ni os no nx ly k = true := by unfold gfAt; rw [if_neg (by rw [hno]; decide)]; simp only [hut, hw1, hw2, hw3, hw4, hw5, decide_true, Bool.not_false, Bool.and_self]
            refine Run.skip ?_
            refine Run.blockEnd ?_
            refine Run.region ?_
            refine Run.y (.int .i64 ((((k : Nat) : Int)) + 1)) rfl (OpY.add rfl rfl rfl (by omega) (by omega)) ?_
            refine Run.p (.int .i64 ((((k : Nat) : Int)) + 1)) rfl rfl ?_
            refine Run.done ?_
            refine Run.goal ⟨(by repeat (first | exact Same.refl _ _ | refine Same.put rfl ?_ | refine Same.over rfl rfl ?_)), k + 1, ?_, ?_, ?_, ?_⟩
            ·refine ⟨by omega, ?_⟩
             intro i hi
             rcases Nat.lt_succ_iff_lt_or_eq.1 hi with h | h
             ·exact hinv.2 i h
             ·rw [h]; exact hgood
            ·omega
            ·exact ⟨(by first | rfl | (congr 1; omega) | simp), trivial⟩
            ·exact (Some'.weak (.takeEq (by first | rfl | simp) (.take (.nil _))))
     ·have p32 := h32; try simp only [bs] at p32
      have hknk : k = nn := by omega
      have hres : gfB es m n is ni os no nx nn ly nl = true := by
       unfold gfB; rw [decide_eq_true hnn, hlay, Bool.true_and, Bool.true_and]; exact allI_iff.2 (by rw [← hknk]; exact hinv.2)
      refine Run.exit rfl ?_
      refine Run.sr ?_
      refine Run.p (.bool true) rfl rfl ?_
      refine Run.done ?_
      refine Run.ret ?_
      refine ⟨.bool true, [], Out.one rfl rfl, (Some'.weak (.nil _)), ?_⟩
      show _ = _; rw [hres]

set_option maxHeartbeats 1000000 in
set_option maxRecDepth 20000 in
theorem IsGFlow_spec {ve vi vo vx vy : Value} {n m ni no nn nl : Nat} {es is os nx ly : List Int} {w : World} (hn11 : n ≤ 11) (he : Sl w ve 2 m (ints es)) (hi : Sl w vi 1 ni (ints is)) (ho : Sl w vo 1 no (ints os)) (hx : Sl w vx 1 nn (ints nx)) (hy : Sl w vy 1 nl (ints ly)) : Calls Try.prog 13 #[.agg #[.int .i64 (n : Int), ve, vi, vo], .agg #[vx, vy]] w (Post No w fun v _ => v = .tuple #[.bool (ogB n es m is ni os no && gfB es m n is ni os no nx nn ly nl), .bool (ogB n es m is ni os no)]) := by
 refine enter (n := 16) (args := [.agg #[.int .i64 (((n : Nat) : Int)), ve, vi, vo], .agg #[vx, vy]]) Try.func13 rfl rfl (St.empty _ _) ?_
 refine Run.sr ?_
 refine Run.step rfl (OpStep.box (us := [.int .i64 (((n : Nat) : Int)), ve, vi, vo]) rfl fun b1 => ?_)
 refine Run.step rfl (OpStep.box (us := [vx, vy]) rfl fun b2 => ?_)
 refine Run.p (.bool false) rfl rfl ?_
 refine Run.p (.bool false) rfl rfl ?_
 refine Run.dsr ?_
 refine Run.y (.agg #[.int .i64 (((n : Nat) : Int)), ve, vi, vo]) rfl (OpY.loadN (cs := [.int .i64 (((n : Nat) : Int)), ve, vi, vo]) Tagg_26 rfl (Cells.blk (.tail _ (List.Mem.head _)) ⟨rfl, rfl, rfl, rfl, trivial⟩)) ?_
 refine Run.q (v := .bool (ogB n es m is ni os no)) rfl (OpQ.call (vs := [.agg #[.int .i64 (((n : Nat) : Int)), ve, vi, vo]]) (caps := []) Tcall_24 rfl rfl (fun w hs => IsValidOpenGraph_spec hn11 (hs.sl he) (hs.sl hi) (hs.sl ho))) ?_
 refine Run.p (.bool (ogB n es m is ni os no)) rfl rfl ?_
 refine Run.dsr ?_
 refine Run.p (.bool (ogB n es m is ni os no)) rfl rfl ?_
 rcases Bool.eq_false_or_eq_true (ogB n es m is ni os no) with h10 | h10
 ·refine Run.q (v := .bool true) rfl (OpQ.y (OpY.moveB rfl h10)) ?_
  have p10 := h10; try simp only [bs] at p10
  have hg : ogB n es m is ni os no = true := by simpa using p10
  obtain ⟨hn1, hn10, hes, hri, hro⟩ := og_ok hg
  refine Run.y (.agg #[.int .i64 (((n : Nat) : Int)), ve, vi, vo]) rfl (OpY.loadN (cs := [.int .i64 (((n : Nat) : Int)), ve, vi, vo]) Tagg_26 rfl (Cells.blk (.tail _ (List.Mem.head _)) ⟨rfl, rfl, rfl, rfl, trivial⟩)) ?_
  refine Run.y (.agg #[vx, vy]) rfl (OpY.loadN (cs := [vx, vy]) Tagg_38 rfl (Cells.blk (.head _) ⟨rfl, rfl, trivial⟩)) ?_
  refine Run.q (v := .bool (gfB es m n is ni os no nx nn ly nl)) rfl (OpQ.call (vs := [.agg #[.int .i64 (((n : Nat) : Int)), ve, vi, vo], .agg #[vx, vy]]) (caps := []) Tcall_37 rfl rfl (fun w hs => isGFlow_spec hn1 hn10 hes hri (hs.sl he) (hs.sl hi) (hs.sl ho) (hs.sl hx) (hs.sl hy))) ?_
  refine Run.p (.bool (gfB es m n is ni os no nx nn ly nl)) rfl rfl ?_
  refine Run.p (.bool (ogB n es m is ni os no)) rfl rfl ?_
  refine Run.p (.bool (gfB es m n is ni os no nx nn ly nl)) rfl rfl ?_
  refine Run.p (.bool (ogB n es m is ni os no)) rfl rfl ?_
  refine Run.done ?_
  refine Run.ret ?_
  refine ⟨.tuple #[.bool (gfB es m n is ni os no nx nn ly nl), .bool (ogB n es m is ni os no)], [], Out.two rfl rfl rfl, (Some'.weak (.nil _)), ?_⟩
  show _ = _; rw [hg]; first | rfl | simp
 ·refine Run.q (v := .bool false) rfl (OpQ.y (OpY.moveB rfl h10)) ?_
  have p10 := h10; try simp only [bs] at p10
  have hg : ogB n es m is ni os no = false := by simpa using p10
  refine Run.pass rfl ?_
  refine Run.pass rfl ?_
  refine Run.pass rfl ?_
  refine Run.p (.bool false) rfl rfl ?_
  refine Run.p (.bool (ogB n es m is ni os no)) rfl rfl ?_
  refine Run.p (.bool false) rfl rfl ?_
  refine Run.p (.bool (ogB n es m is ni os no)) rfl rfl ?_
  refine Run.done ?_
  refine Run.ret ?_
  refine ⟨.tuple #[.bool false, .bool (ogB n es m is ni os no)], [], Out.two rfl rfl rfl, (Some'.weak (.nil _)), ?_⟩
  show _ = _; rw [hg]; first | rfl | simp

set_option maxHeartbeats 1000000 in
set_option maxRecDepth 20000 in
theorem sIsGFlow_spec {ve vi vo vx vy : Value} {n m ni no nn nl : Nat} {es is os nx ly : List Int} {w : World} (hn11 : n ≤ 11) (he : Sl w ve 2 m (ints es)) (hi : Sl w vi 1 ni (ints is)) (ho : Sl w vo 1 no (ints os)) (hx : Sl w vx 1 nn (ints nx)) (hy : Sl w vy 1 nl (ints ly)) (hsm : ∀ x ∈ es, 0 ≤ x ∧ x ≤ 100) : Calls Try.prog 19 #[.agg #[.int .i64 (n : Int), ve, vi, vo], .agg #[vx, vy]] w (Post No w fun v _ => v = .tuple #[.bool (ogB n es m is ni os no && gfB es m n is ni os no nx nn ly nl), .bool (ogB n es m is ni os no)]) := by
 refine enter (n := 12) (args := [.agg #[.int .i64 (((n : Nat) : Int)), ve, vi, vo], .agg #[vx, vy]]) Try.func19 rfl rfl (St.empty _ _) ?_
 refine Run.sr ?_
 refine Run.step rfl (OpStep.box (us := [.int .i64 (((n : Nat) : Int)), ve, vi, vo]) rfl fun b1 => ?_)
 refine Run.step rfl (OpStep.box (us := [vx, vy]) rfl fun b2 => ?_)
 refine Run.p (.bool false) rfl rfl ?_
 refine Run.p (.bool false) rfl rfl ?_
 refine Run.done ?_
 refine Run.seq ?_
 refine Run.sr ?_
 refine Run.y (.agg #[.int .i64 (((n : Nat) : Int)), ve, vi, vo]) rfl (OpY.loadN (cs := [.int .i64 (((n : Nat) : Int)), ve, vi, vo]) Tagg_26 rfl (Cells.blk (.tail _ (List.Mem.head _)) ⟨rfl, rfl, rfl, rfl, trivial⟩)) ?_
 refine Run.q (v := .bool (ogB n es m is ni os no)) rfl (OpQ.call (vs := [.agg #[.int .i64 (((n : Nat) : Int)), ve, vi, vo]]) (caps := []) Tcall_32 rfl rfl (fun w hs => l19Good_spec hn11 (hs.sl he) (hs.sl hi) (hs.sl ho) hsm)) ?_
 refine Run.p (.bool (!(ogB n es m is ni os no))) rfl rfl ?_
 refine Run.done ?_
 refine Run.cond (b := !(ogB n es m is ni os no)) rfl (fun h8 => ?_) (fun h8 => ?_)
 ·have p8 := h8; try simp only [bs] at p8
  have hg : ogB n es m is ni os no = false := by simpa using p8
  refine Run.sr ?_
  refine Run.p (.bool false) rfl rfl ?_
  refine Run.p (.bool false) rfl rfl ?_
  refine Run.done ?_
  refine Run.ret ?_
  refine ⟨.tuple #[.bool false, .bool false], [], Out.two rfl rfl rfl, (Some'.weak (.nil _)), ?_⟩
  show _ = _; rw [hg]; first | rfl | simp
 ·have p8 := h8; try simp only [bs] at p8
  have hg : ogB n es m is ni os no = true := by simpa using p8
  obtain ⟨hn1, hn10, hes, hri, hro⟩ := og_ok hg
  refine Run.skip ?_
  refine Run.sr ?_
  refine Run.y (.agg #[.int .i64 (((n : Nat) : Int)), ve, vi, vo]) rfl (OpY.loadN (cs := [.int .i64 (((n : Nat) : Int)), ve, vi, vo]) Tagg_26 rfl (Cells.blk (.tail _ (List.Mem.head _)) ⟨rfl, rfl, rfl, rfl, trivial⟩)) ?_
  refine Run.y (.agg #[vx, vy]) rfl (OpY.loadN (cs := [vx, vy]) Tagg_38 rfl (Cells.blk (.head _) ⟨rfl, rfl, trivial⟩)) ?_
  refine Run.q (v := .bool (gfB es m n is ni os no nx nn ly nl)) rfl (OpQ.call (vs := [.agg #[.int .i64 (((n : Nat) : Int)), ve, vi, vo], .agg #[vx, vy]]) (caps := []) Tcall_45 rfl rfl (fun w hs => l19GFlow_spec hn1 hn10 hes hri (hs.sl he) (hs.sl hi) (hs.sl ho) (hs.sl hx) (hs.sl hy))) ?_
  refine Run.p (.bool (gfB es m n is ni os no nx nn ly nl)) rfl rfl ?_
  refine Run.p (.bool true) rfl rfl ?_
  refine Run.done ?_
  refine Run.ret ?_
  refine ⟨.tuple #[.bool (gfB es m n is ni os no nx nn ly nl), .bool true], [], Out.two rfl rfl rfl, (Some'.weak (.nil _)), ?_⟩
  show _ = _; rw [hg]; first | rfl | simp

end Go.Proofs.Ytoiaibgcjfgbcaa
