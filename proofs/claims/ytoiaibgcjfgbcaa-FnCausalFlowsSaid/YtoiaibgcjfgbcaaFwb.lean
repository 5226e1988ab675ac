/- Walks: open graphs: layers, sets, what is before. -/
import Derived.Test.YtoiaibgcjfgbcaaFwa
import Derived.Test.YtoiaibgcjfgbcaaProg
set_option linter.unusedSimpArgs false
set_option linter.unusedVariables false
namespace Go.Proofs.Ytoiaibgcjfgbcaa
open Go Go.RowKit
namespace FwbT
theorem Tcall_25 : callable Try.prog 25 = true := by kernel_rfl
theorem Tcall_60 : callable Try.prog 60 = true := by kernel_rfl
theorem Tcall_62 : callable Try.prog 62 = true := by kernel_rfl
theorem Tfo_26_0 : fieldOff Try.prog 26 0 = some 0 := by kernel_rfl
theorem Tfo_26_3 : fieldOff Try.prog 26 3 = some 3 := by kernel_rfl
theorem Tint_52 : Try.prog.underlying 52 = some (.int .u64) := by kernel_rfl
theorem Tone_24 : oneOf Try.prog 24 = true := by kernel_rfl
theorem Tone_3 : oneOf Try.prog 3 = true := by kernel_rfl
theorem Tsize_3 : (Try.prog.info? 3).map (·.size) = some 1 := by kernel_rfl
theorem Tsl_24 : sliceOf Try.prog 24 = some (3, 1, 8, [.int .i64 0]) := by kernel_rfl
theorem Tsome_3 : (Try.prog.underlying 3).isSome = true := by kernel_rfl
end FwbT
open FwbT

/-- -1 everywhere but 0 at the first k nodes of a list. -/
def lyO (os : List Int) (k n : Nat) : List Int := mapN (fun v => if hasI os v k then 0 else -1) n
theorem lyO_zero (os : List Int) (n : Nat) : lyO os 0 n = List.replicate n (-1) := by
  have e : (fun v : Nat => if hasI os (v : Int) 0 = true then (0 : Int) else -1) = fun _ => -1 := by funext v; rfl
  rw [lyO, e, mapN]; exact List.map_const' .. |>.trans (by simp)
theorem lyO_all (os : List Int) (no n : Nat) : lyO os no n = ly0 os no n := rfl
theorem mapN_ext {f g : Nat → Int} {n : Nat} (h : ∀ v, v < n → f v = g v) : mapN f n = mapN g n := List.map_congr_left fun v hv => h v (List.mem_range.1 hv)
theorem list_mapN {l : List Int} {n : Nat} (h : l.length = n) : l = mapN (fun v => ix l v) n := by
  refine List.ext_getElem (by simp [h]) fun i h1 h2 => ?_
  simp [mapN, ix, List.getD, h1]
theorem ix_lset {l : List Int} {i v : Nat} {x : Int} (hi : i < l.length) : ix (l.set i x) v = if v = i then x else ix l v := by
  simp only [ix, List.getD, List.getElem?_set]
  by_cases e : i = v
  · subst e; simp [hi]
  · rw [if_neg e, if_neg (fun h => e h.symm)]
theorem eq_mapN {l : List Int} {f : Nat → Int} {n : Nat} (hl : l.length = n) (h : ∀ v, v < n → ix l v = f v) : l = mapN f n := by
  rw [list_mapN hl]; exact mapN_ext h
theorem lyO_set {os : List Int} {k n u : Nat} (hu : u < n) (h : ix os k = (u : Int)) : (lyO os k n).set u 0 = lyO os (k + 1) n := by
  refine eq_mapN (by simp [lyO]) fun v hv => ?_
  rw [ix_lset (by simpa [lyO] using hu), hasI_succ, h]
  by_cases e : v = u
  · subst e; simp
  · rw [if_neg e, lyO, ix_mapN hv, decide_eq_false (by omega), Bool.or_false]
/-- 0 everywhere, and -1 at those below k that are not in the list. -/
def lyS (os : List Int) (no k n : Nat) : List Int := mapN (fun v => if v < k ∧ hasI os v no = false then -1 else 0) n
theorem lyS_zero (os : List Int) (no n : Nat) : lyS os no 0 n = List.replicate n 0 := by
  have e : (fun v : Nat => if v < 0 ∧ hasI os (v : Int) no = false then (-1 : Int) else 0) = fun _ => 0 := by funext v; simp
  rw [lyS, e, mapN]; exact List.map_const' .. |>.trans (by simp)
theorem lyS_all (os : List Int) (no n : Nat) : lyS os no n n = ly0 os no n := mapN_ext fun v hv => by
  cases h : hasI os (v : Int) no <;> simp [hv]
theorem lyS_set {os : List Int} {no k n : Nat} (hk : k < n) (h : hasI os (k : Int) no = false) : (lyS os no k n).set k (-1) = lyS os no (k + 1) n := by
  refine eq_mapN (by simp [lyS]) fun v hv => ?_
  rw [ix_lset (by simpa [lyS] using hk)]
  by_cases e : v = k
  · subst e; simp [h]
  · rw [if_neg e, lyS, ix_mapN hv]
    have : (v < k + 1) ↔ (v < k) := by omega
    simp only [this]
theorem lyS_keep {os : List Int} {no k n : Nat} (h : hasI os (k : Int) no = true) : lyS os no (k + 1) n = lyS os no k n := mapN_ext fun v hv => by
  by_cases e : v = k
  · subst e; simp [h]
  · have : (v < k + 1) ↔ (v < k) := by omega
    simp only [this]
@[simp] theorem lyO_length (os : List Int) (k n : Nat) : (lyO os k n).length = n := by simp [lyO]
@[simp] theorem lyS_length (os : List Int) (no k n : Nat) : (lyS os no k n).length = n := by simp [lyS]
theorem befK {ly : List Int} {v set n : Nat} : befB ly v set n = allI (fun u => !(set.testBit u && decide (ix ly v ≤ ix ly u))) n := rfl
theorem rep0 (n : Nat) : (List.replicate n ([.int .i64 0] : List Value)).flatten = ints (List.replicate n 0) := by
  induction n with
  | zero => rfl
  | succ n ih => rw [List.replicate_succ, List.flatten_cons, ih, List.replicate_succ]; rfl

set_option maxHeartbeats 1000000 in
set_option maxRecDepth 20000 in
theorem firstLayer_spec {ve vi vo : Value} {n no : Nat} {os : List Int} {w : World} (hn1 : 1 ≤ n) (hn10 : n ≤ 10) (hos : risB os n no = true) (ho : Sl w vo 1 no (ints os)) : Calls Try.prog 26 #[.agg #[.int .i64 (n : Int), ve, vi, vo]] w (Post No w fun v H => H = [.own v 3 1 n (ints (ly0 os no n))]) := by
 have hxo := ho.len
 have hxo2 := ho.le
 obtain ⟨Ao, co, rfl, _, _⟩ := ho.form0
 refine enter (n := 22) (args := [.agg #[.int .i64 (((n : Nat) : Int)), ve, vi, .slice Ao no co]]) Try.func26 rfl rfl (St.empty _ _) ?_
 refine Run.sr ?_
 refine Run.step rfl (OpStep.box (us := [.int .i64 (((n : Nat) : Int)), ve, vi, .slice Ao no co]) rfl fun b1 => ?_)
 refine Run.p (.slice none 0 0) rfl rfl ?_
 refine Run.dsr ?_
 refine Run.step rfl (OpStep.buildSlice (us := [.int .i64 (-1)]) Tsl_24 (by decide) (by decide) ⟨rfl, [.int .i64 (-1)], _, rfl, rfl, rfl, rfl⟩ rfl fun b2 => ?_)
 refine Run.y (.pointer (some ⟨b1, 0, none⟩)) rfl (OpY.fieldAddr Tfo_26_0 rfl rfl) ?_
 refine Run.y (.int .i64 (((n : Nat) : Int))) rfl (OpY.load1 Tone_3 rfl (Cells.blk (.tail _ (List.Mem.head _)) ⟨rfl, trivial⟩)) ?_
 refine Run.step rfl (OpStep.call (vs := [.slice (some ⟨b2, 0, none⟩) 1 1, .int .i64 (((n : Nat) : Int))]) (caps := []) Tcall_25 rfl rfl (fun w hs => Repeat_spec hn1 hn10 (hs.slOwn (.head _))) ?_)
 rintro ur _ rfl
 show Run _ _ (putF _ _ _ ur) [.own ur 3 1 n (ints (List.replicate n (-1))), .own (.slice (some ⟨b2, 0, none⟩) 1 1) 3 1 1 ([.int .i64 (-1)]), .blk b1 26 [.int .i64 (((n : Nat) : Int)), ve, vi, .slice Ao no co]]
 refine Run.p (ur) rfl rfl ?_
 refine Run.done ?_
 refine Run.seq ?_
 refine Run.sr ?_
 refine Run.y (.pointer (some ⟨b1, 3, none⟩)) rfl (OpY.fieldAddr Tfo_26_3 rfl rfl) ?_
 refine Run.y (.slice Ao no co) rfl (OpY.load1 Tone_24 rfl (Cells.blk (.tail _ (.tail _ (List.Mem.head _))) ⟨rfl, trivial⟩)) ?_
 refine Run.y (.int .i64 (((no : Nat) : Int))) rfl (OpY.len Tsl_24 rfl) ?_
 refine Run.p (.int .i64 0) rfl rfl ?_
 refine Run.done ?_
 refine Run.block ?_
 refine Run.loop (ι := Nat) [5, 13, 14, 15, 16, 17, 18, 19, 20] (fun k => [(13, .int .i64 (((k : Nat) : Int)))]) (fun k => [.own ur 3 1 n (ints (lyO os k n)), .blk b1 26 [.int .i64 (((n : Nat) : Int)), ve, vi, .slice Ao no co]]) (fun k => k ≤ no ∧ (True)) (fun k => no - k) 0 ?_ ?_ ?_ ?_
 ·exact ⟨Nat.zero_le _, by first | trivial | (intro i hi; omega)⟩
 ·exact ⟨rfl, trivial⟩
 ·exact ((Weak.selF [0, 1]).trans (Some'.weak (.takeEq (by first | rfl | (rw [lyO_zero]) | (rw [lyO_set (by omega) hu])) (.take (.nil _)))))
 ·rintro k fr hinv
  show Run _ _ (over _ _ [(13, .int .i64 (((k : Nat) : Int)))] fr) [.own ur 3 1 n (ints (lyO os k n)), .blk b1 26 [.int .i64 (((n : Nat) : Int)), ve, vi, .slice Ao no co]]
  try dsimp only at hinv
  refine Run.sr ?_
  refine Run.p (.bool (decide ((((k : Nat) : Int)) < (((no : Nat) : Int))))) rfl rfl ?_
  refine Run.done ?_
  refine Run.seq ?_
  refine Run.cond (b := decide ((((k : Nat) : Int)) < (((no : Nat) : Int)))) rfl (fun h14 => ?_) (fun h14 => ?_)
  ·have p14 := h14; try simp only [bs] at p14
   have hltk : k < no := by omega
   obtain ⟨b, o, rfl⟩ := ho.opn (by omega)
   obtain ⟨hu0, hun⟩ := ris_in hos k hltk
   obtain ⟨u, hu⟩ : ∃ u : Nat, ix os k = (u : Int) := ⟨(ix os k).toNat, by omega⟩
   refine Run.openOwn (.head _) (by omega) (fun gr cr hvgr hcapgr _ => ?_) (fun _ _ _ => ⟨nofun, nofun, nofun⟩)
   subst hvgr
   refine Run.skip ?_
   refine Run.seq ?_
   refine Run.block ?_
   refine Run.sr ?_
   refine Run.y (.pointer (some ⟨b, o + k, none⟩)) rfl (OpY.index (kk := k) Tsl_24 rfl rfl (by omega) (by omega) (by first | rfl | omega)) ?_
   refine Run.y (.int .i64 (ix os (k))) rfl (OpY.load1 Tone_3 rfl (Cells.arg (k := k) ho rfl (by omega) (pre1 (by omega)))) ?_
   refine Run.p (.int .i64 (ix os (k))) rfl rfl ?_
   refine Run.dr ?_
   refine Run.p (.slice (some ⟨gr, 0, none⟩) n cr) rfl rfl ?_
   refine Run.p (.int .i64 (ix os (k))) rfl rfl ?_
   refine Run.y (.pointer (some ⟨gr, u, none⟩)) rfl (OpY.index (kk := u) Tsl_24 rfl rfl (by omega) (by omega) (by first | rfl | omega)) ?_
   refine Run.step rfl (OpStep.storeOwnInt (o := u) (a := 0) Tsize_3 rfl rfl (.here _) (by first | omega | (simp only [lyO_length]; omega) | (simp; omega)) ?_)
   refine Run.done ?_
   refine Run.blockEnd ?_
   refine Run.region ?_
   refine Run.y (.int .i64 ((((k : Nat) : Int)) + 1)) rfl (OpY.add rfl rfl rfl (by omega) (by omega)) ?_
   refine Run.p (.int .i64 ((((k : Nat) : Int)) + 1)) rfl rfl ?_
   refine Run.done ?_
   refine Run.goal ⟨(by repeat (first | exact Same.refl _ _ | refine Same.put rfl ?_ | refine Same.over rfl rfl ?_)), k + 1, ?_, ?_, ?_, ?_⟩
   ·refine ⟨by omega, ?_⟩
    trivial
   ·omega
   ·exact ⟨(by first | rfl | (congr 1; omega) | simp), trivial⟩
   ·exact ((Weak.refl _).trans (Some'.weak (.takeEq (by first | rfl | (rw [lyO_zero]) | (rw [lyO_set (by omega) hu])) (.takeEq (by first | rfl | (rw [lyO_zero]) | (rw [lyO_set (by omega) hu])) (.nil _)))))
  ·have p14 := h14; try simp only [bs] at p14
   have hknk : k = no := by omega
   refine Run.exit rfl ?_
   refine Run.sr ?_
   refine Run.p (ur) rfl rfl ?_
   refine Run.p (ur) rfl rfl ?_
   refine Run.done ?_
   refine Run.ret ?_
   refine ⟨ur, [.own ur 3 1 n (ints (ly0 os no n))], Out.one rfl rfl, (Some'.weak (.takeEq (by first | rfl | (rw [hknk]; rfl)) (.nil _))), ?_⟩
   rfl

set_option maxHeartbeats 1000000 in
set_option maxRecDepth 20000 in
theorem l19Start_spec {ve vi vo : Value} {n no : Nat} {os : List Int} {w : World} (hn1 : 1 ≤ n) (hn10 : n ≤ 10) (ho : Sl w vo 1 no (ints os)) : Calls Try.prog 57 #[.agg #[.int .i64 (n : Int), ve, vi, vo]] w (Post No w fun v H => H = [.own v 3 1 n (ints (ly0 os no n))]) := by
 refine enter (n := 23) (args := [.agg #[.int .i64 (((n : Nat) : Int)), ve, vi, vo]]) Try.func57 rfl rfl (St.empty _ _) ?_
 refine Run.sr ?_
 refine Run.step rfl (OpStep.box (us := [.int .i64 (((n : Nat) : Int)), ve, vi, vo]) rfl fun b1 => ?_)
 refine Run.p (.slice none 0 0) rfl rfl ?_
 refine Run.dsr ?_
 refine Run.y (.pointer (some ⟨b1, 0, none⟩)) rfl (OpY.fieldAddr Tfo_26_0 rfl rfl) ?_
 refine Run.y (.int .i64 (((n : Nat) : Int))) rfl (OpY.load1 Tone_3 rfl (Cells.blk (.head _) ⟨rfl, trivial⟩)) ?_
 refine Run.step rfl (OpStep.makeSlice (n := n) Tsl_24 rfl (by decide) (by first | rfl | omega) (by first | rfl | omega) (by omega) (by simp only [maxLen]; omega) fun b2 => ?_)
 refine Run.p (.slice (some ⟨b2, 0, none⟩) n n) rfl rfl ?_
 refine Run.done ?_
 refine Run.seq ?_
 refine Run.sr ?_
 refine Run.p (.slice (some ⟨b2, 0, none⟩) n n) rfl rfl ?_
 refine Run.y (.int .i64 (((n : Nat) : Int))) rfl (OpY.len Tsl_24 rfl) ?_
 refine Run.p (.int .i64 0) rfl rfl ?_
 refine Run.done ?_
 refine Run.block ?_
 refine Run.loop (ι := Nat) [4, 10, 11, 12, 13, 14, 15, 16, 17, 18, 19, 20, 21] (fun k => [(10, .int .i64 (((k : Nat) : Int)))]) (fun k => [.own (.slice (some ⟨b2, 0, none⟩) n n) 3 1 n (ints (lyS os no k n)), .blk b1 26 [.int .i64 (((n : Nat) : Int)), ve, vi, vo]]) (fun k => k ≤ n) (fun k => n - k) 0 ?_ ?_ ?_ ?_
 ·exact Nat.zero_le _
 ·exact ⟨rfl, trivial⟩
 ·exact ((Weak.refl _).trans (Some'.weak (.takeEq (by first | rfl | (rw [lyS_zero, rep0]) | (rw [lyS_set hkn hh]) | (rw [lyS_keep hh])) (.take (.nil _)))))
 ·rintro k fr hinv
  show Run _ _ (over _ _ [(10, .int .i64 (((k : Nat) : Int)))] fr) [.own (.slice (some ⟨b2, 0, none⟩) n n) 3 1 n (ints (lyS os no k n)), .blk b1 26 [.int .i64 (((n : Nat) : Int)), ve, vi, vo]]
  try dsimp only at hinv
  refine Run.sr ?_
  refine Run.p (.bool (decide ((((k : Nat) : Int)) < (((n : Nat) : Int))))) rfl rfl ?_
  refine Run.done ?_
  refine Run.seq ?_
  refine Run.cond (b := decide ((((k : Nat) : Int)) < (((n : Nat) : Int)))) rfl (fun h11 => ?_) (fun h11 => ?_)
  ·have p11 := h11; try simp only [bs] at p11
   have hkn : k < n := by omega
   refine Run.skip ?_
   refine Run.seq ?_
   refine Run.block ?_
   refine Run.sr ?_
   refine Run.p (.int .i64 (((k : Nat) : Int))) rfl rfl ?_
   refine Run.p (.int .i64 (((k : Nat) : Int))) rfl rfl ?_
   refine Run.dsr ?_
   refine Run.y (.pointer (some ⟨b1, 3, none⟩)) rfl (OpY.fieldAddr Tfo_26_3 rfl rfl) ?_
   refine Run.y (vo) rfl (OpY.load1 Tone_24 rfl (Cells.blk (.tail _ (List.Mem.head _)) ⟨rfl, trivial⟩)) ?_
   refine Run.p (.int .i64 (((k : Nat) : Int))) rfl rfl ?_
   refine Run.q (v := .bool (hasI os (k : Int) no)) rfl (OpQ.call (vs := [vo, .int .i64 (((k : Nat) : Int))]) (caps := []) Tcall_62 rfl rfl (fun w hs => l1Has_spec (hs.sl ho))) ?_
   refine Run.p (.bool (!(hasI os (k : Int) no))) rfl rfl ?_
   refine Run.done ?_
   refine Run.cond (b := !(hasI os (k : Int) no)) rfl (fun h17 => ?_) (fun h17 => ?_)
   ·have p17 := h17; try simp only [bs] at p17
    have hh : hasI os (k : Int) no = false := by simpa using p17
    refine Run.region ?_
    refine Run.p (.slice (some ⟨b2, 0, none⟩) n n) rfl rfl ?_
    refine Run.p (.int .i64 (((k : Nat) : Int))) rfl rfl ?_
    refine Run.y (.pointer (some ⟨b2, k, none⟩)) rfl (OpY.index (kk := k) Tsl_24 rfl rfl (by omega) (by omega) (by first | rfl | omega)) ?_
    refine Run.step rfl (OpStep.storeOwnInt (o := k) (a := -1) Tsize_3 rfl rfl (.here _) (by first | omega | (simp only [lyS_length]; omega) | (simp; omega)) ?_)
    refine Run.done ?_
    refine Run.blockEnd ?_
    refine Run.region ?_
    refine Run.y (.int .i64 ((((k : Nat) : Int)) + 1)) rfl (OpY.add rfl rfl rfl (by omega) (by omega)) ?_
    refine Run.p (.int .i64 ((((k : Nat) : Int)) + 1)) rfl rfl ?_
    refine Run.done ?_
    refine Run.goal ⟨(by repeat (first | exact Same.refl _ _ | refine Same.put rfl ?_ | refine Same.over rfl rfl ?_)), k + 1, ?_, ?_, ?_, ?_⟩
    ·omega
    ·omega
    ·exact ⟨(by first | rfl | (congr 1; omega) | simp), trivial⟩
    ·exact ((Weak.refl _).trans (Some'.weak (.takeEq (by first | rfl | (rw [lyS_zero, rep0]) | (rw [lyS_set hkn hh]) | (rw [lyS_keep hh])) (.take (.nil _)))))
   ·have p17 := h17; try simp only [bs] at p17
    have hh : hasI os (k : Int) no = true := by simpa using p17
    refine Run.skip ?_
    refine Run.blockEnd ?_
    refine Run.region ?_
    refine Run.y (.int .i64 ((((k : Nat) : Int)) + 1)) rfl (OpY.add rfl rfl rfl (by omega) (by omega)) ?_
    refine Run.p (.int .i64 ((((k : Nat) : Int)) + 1)) rfl rfl ?_
    refine Run.done ?_
    refine Run.goal ⟨(by repeat (first | exact Same.refl _ _ | refine Same.put rfl ?_ | refine Same.over rfl rfl ?_)), k + 1, ?_, ?_, ?_, ?_⟩
    ·omega
    ·omega
    ·exact ⟨(by first | rfl | (congr 1; omega) | simp), trivial⟩
    ·exact ((Weak.refl _).trans (Some'.weak (.takeEq (by first | rfl | (rw [lyS_zero, rep0]) | (rw [lyS_set hkn hh]) | (rw [lyS_keep hh])) (.take (.nil _)))))
  ·have p11 := h11; try simp only [bs] at p11
   have hkn : k = n := by omega
   refine Run.exit rfl ?_
   refine Run.sr ?_
   refine Run.p (.slice (some ⟨b2, 0, none⟩) n n) rfl rfl ?_
   refine Run.p (.slice (some ⟨b2, 0, none⟩) n n) rfl rfl ?_
   refine Run.done ?_
   refine Run.ret ?_
   refine ⟨.slice (some ⟨b2, 0, none⟩) n n, [.own (.slice (some ⟨b2, 0, none⟩) n n) 3 1 n (ints (ly0 os no n))], Out.one rfl rfl, (Some'.weak (.takeEq (by first | rfl | (rw [hkn, lyS_all])) (.nil _))), ?_⟩
   rfl

set_option maxHeartbeats 1000000 in
set_option maxRecDepth 20000 in
theorem unlayered_spec {va : Value} {n : Nat} {ly : List Int} {w : World} (hn10 : n ≤ 10) (ha : Sl w va 1 n (ints ly)) : Calls Try.prog 27 #[va] w (Post No w fun v _ => v = .int .i64 ((unl ly n : Nat) : Int)) := by
 have hxl := ha.len
 obtain ⟨A, c, rfl, _, _⟩ := ha.form0
 refine enter (n := 21) (args := [.slice A n c]) Try.func27 rfl rfl (St.empty _ _) ?_
 refine Run.sr ?_
 refine Run.p (.int .i64 0) rfl rfl ?_
 refine Run.dsr ?_
 refine Run.p (.int .i64 0) rfl rfl ?_
 refine Run.done ?_
 refine Run.seq ?_
 refine Run.sr ?_
 refine Run.p (.slice A n c) rfl rfl ?_
 refine Run.y (.int .i64 (((n : Nat) : Int))) rfl (OpY.len Tsl_24 rfl) ?_
 refine Run.p (.int .i64 0) rfl rfl ?_
 refine Run.done ?_
 refine Run.block ?_
 refine Run.loop (ι := Nat) [3, 4, 5, 8, 9, 10, 11, 12, 13, 14, 15, 16, 17, 18, 19] (fun k => [(3, .int .i64 (((unl ly k : Nat) : Int))), (8, .int .i64 (((k : Nat) : Int)))]) (fun k => []) (fun k => k ≤ n ∧ (True)) (fun k => n - k) 0 ?_ ?_ ?_ ?_
 ·exact ⟨Nat.zero_le _, by first | trivial | (intro i hi; omega)⟩
 ·exact ⟨rfl, rfl, trivial⟩
 ·exact (Some'.weak (.nil _))
 ·rintro k fr hinv
  show Run _ _ (over _ _ [(3, .int .i64 (((unl ly k : Nat) : Int))), (8, .int .i64 (((k : Nat) : Int)))] fr) []
  try dsimp only at hinv
  refine Run.sr ?_
  refine Run.p (.bool (decide ((((k : Nat) : Int)) < (((n : Nat) : Int))))) rfl rfl ?_
  refine Run.done ?_
  refine Run.seq ?_
  refine Run.cond (b := decide ((((k : Nat) : Int)) < (((n : Nat) : Int)))) rfl (fun h9 => ?_) (fun h9 => ?_)
  ·have p9 := h9; try simp only [bs] at p9
   have hltk : k < n := by omega
   obtain ⟨b, o, rfl⟩ := ha.opn (by omega)
   have hul := unl_lt ly k
   have hkp := pow10 (n := k) (by omega)
   obtain ⟨q, hq, hq1, hq2⟩ := pow_q hn10 hltk
   refine Run.skip ?_
   refine Run.seq ?_
   refine Run.block ?_
   refine Run.sr ?_
   refine Run.p (.int .i64 (((k : Nat) : Int))) rfl rfl ?_
   refine Run.y (.pointer (some ⟨b, o + k, none⟩)) rfl (OpY.index (kk := k) Tsl_24 rfl rfl (by omega) (by omega) (by first | rfl | omega)) ?_
   refine Run.y (.int .i64 (ix ly (k))) rfl (OpY.load1 Tone_3 rfl (Cells.arg (k := k) ha rfl (by omega) (pre1 (by omega)))) ?_
   refine Run.p (.int .i64 (((k : Nat) : Int))) rfl rfl ?_
   refine Run.p (.int .i64 (ix ly (k))) rfl rfl ?_
   refine Run.dsr ?_
   refine Run.p (.int .i64 (ix ly (k))) rfl rfl ?_
   refine Run.p (.bool (decide ((ix ly (k)) < 0))) rfl rfl ?_
   refine Run.done ?_
   refine Run.cond (b := decide ((ix ly (k)) < 0)) rfl (fun h14 => ?_) (fun h14 => ?_)
   ·have p14 := h14; try simp only [bs] at p14
    refine Run.region ?_
    refine Run.p (.int .i64 (((unl ly k : Nat) : Int))) rfl rfl ?_
    refine Run.p (.int .i64 (((k : Nat) : Int))) rfl rfl ?_
    refine Run.y (.int .i64 (((q : Nat) : Int))) rfl (OpY.shlOne rfl rfl rfl (by omega) hq) ?_
    refine Run.y (.int .i64 (((unl ly k ||| q : Nat) : Int))) rfl (OpY.orNat rfl rfl rfl rfl (by omega) (by omega)) ?_
    refine Run.p (.int .i64 (((unl ly k ||| q : Nat) : Int))) rfl rfl ?_
    refine Run.done ?_
    refine Run.blockEnd ?_
    refine Run.region ?_
    refine Run.y (.int .i64 ((((k : Nat) : Int)) + 1)) rfl (OpY.add rfl rfl rfl (by omega) (by omega)) ?_
    refine Run.p (.int .i64 ((((k : Nat) : Int)) + 1)) rfl rfl ?_
    refine Run.done ?_
    refine Run.goal ⟨(by repeat (first | exact Same.refl _ _ | refine Same.put rfl ?_ | refine Same.over rfl rfl ?_)), k + 1, ?_, ?_, ?_, ?_⟩
    ·refine ⟨by omega, ?_⟩
     trivial
    ·omega
    ·exact ⟨(by show Value.int _ _ = Value.int _ _; congr 1; rw [unl]; first | (rw [if_pos (by omega), hq]; done) | (rw [if_neg (by omega)]; done)), (by first | rfl | (congr 1; omega) | simp), trivial⟩
    ·exact (Some'.weak (.nil _))
   ·have p14 := h14; try simp only [bs] at p14
    refine Run.skip ?_
    refine Run.blockEnd ?_
    refine Run.region ?_
    refine Run.y (.int .i64 ((((k : Nat) : Int)) + 1)) rfl (OpY.add rfl rfl rfl (by omega) (by omega)) ?_
    refine Run.p (.int .i64 ((((k : Nat) : Int)) + 1)) rfl rfl ?_
    refine Run.done ?_
    refine Run.goal ⟨(by repeat (first | exact Same.refl _ _ | refine Same.put rfl ?_ | refine Same.over rfl rfl ?_)), k + 1, ?_, ?_, ?_, ?_⟩
    ·refine ⟨by omega, ?_⟩
     trivial
    ·omega
    ·exact ⟨(by show Value.int _ _ = Value.int _ _; congr 1; rw [unl]; first | (rw [if_pos (by omega), hq]; done) | (rw [if_neg (by omega)]; done)), (by first | rfl | (congr 1; omega) | simp), trivial⟩
    ·exact (Some'.weak (.nil _))
  ·have p9 := h9; try simp only [bs] at p9
   have hknk : k = n := by omega
   refine Run.exit rfl ?_
   refine Run.sr ?_
   refine Run.p (.int .i64 (((unl ly k : Nat) : Int))) rfl rfl ?_
   refine Run.p (.int .i64 (((unl ly k : Nat) : Int))) rfl rfl ?_
   refine Run.done ?_
   refine Run.ret ?_
   refine ⟨.int .i64 (((unl ly k : Nat) : Int)), [], Out.one rfl rfl, (Some'.weak (.nil _)), ?_⟩
   show _ = _; rw [hknk]

set_option maxHeartbeats 1000000 in
set_option maxRecDepth 20000 in
theorem l19Open_spec {va : Value} {n : Nat} {ly : List Int} {w : World} (hn10 : n ≤ 10) (ha : Sl w va 1 n (ints ly)) : Calls Try.prog 58 #[va] w (Post No w fun v _ => v = .int .i64 ((unl ly n : Nat) : Int)) := by
 have hxl := ha.len
 obtain ⟨A, c, rfl, _, _⟩ := ha.form0
 refine enter (n := 22) (args := [.slice A n c]) Try.func58 rfl rfl (St.empty _ _) ?_
 refine Run.sr ?_
 refine Run.p (.int .i64 0) rfl rfl ?_
 refine Run.dsr ?_
 refine Run.p (.int .i64 0) rfl rfl ?_
 refine Run.done ?_
 refine Run.seq ?_
 refine Run.sr ?_
 refine Run.p (.slice A n c) rfl rfl ?_
 refine Run.y (.int .i64 (((n : Nat) : Int))) rfl (OpY.len Tsl_24 rfl) ?_
 refine Run.p (.int .i64 0) rfl rfl ?_
 refine Run.done ?_
 refine Run.block ?_
 refine Run.loop (ι := Nat) [3, 4, 5, 8, 9, 10, 11, 12, 13, 14, 15, 16, 17, 18, 19, 20] (fun k => [(3, .int .i64 (((unl ly k : Nat) : Int))), (8, .int .i64 (((k : Nat) : Int)))]) (fun k => []) (fun k => k ≤ n ∧ (True)) (fun k => n - k) 0 ?_ ?_ ?_ ?_
 ·exact ⟨Nat.zero_le _, by first | trivial | (intro i hi; omega)⟩
 ·exact ⟨rfl, rfl, trivial⟩
 ·exact (Some'.weak (.nil _))
 ·rintro k fr hinv
  show Run _ _ (over _ _ [(3, .int .i64 (((unl ly k : Nat) : Int))), (8, .int .i64 (((k : Nat) : Int)))] fr) []
  try dsimp only at hinv
  refine Run.sr ?_
  refine Run.p (.bool (decide ((((k : Nat) : Int)) < (((n : Nat) : Int))))) rfl rfl ?_
  refine Run.done ?_
  refine Run.seq ?_
  refine Run.cond (b := decide ((((k : Nat) : Int)) < (((n : Nat) : Int)))) rfl (fun h9 => ?_) (fun h9 => ?_)
  ·have p9 := h9; try simp only [bs] at p9
   have hltk : k < n := by omega
   obtain ⟨b, o, rfl⟩ := ha.opn (by omega)
   have hul := unl_lt ly k
   have hkp := pow10 (n := k) (by omega)
   obtain ⟨q, hq, hq1, hq2⟩ := pow_q hn10 hltk
   refine Run.skip ?_
   refine Run.seq ?_
   refine Run.block ?_
   refine Run.sr ?_
   refine Run.p (.int .i64 (((k : Nat) : Int))) rfl rfl ?_
   refine Run.y (.pointer (some ⟨b, o + k, none⟩)) rfl (OpY.index (kk := k) Tsl_24 rfl rfl (by omega) (by omega) (by first | rfl | omega)) ?_
   refine Run.y (.int .i64 (ix ly (k))) rfl (OpY.load1 Tone_3 rfl (Cells.arg (k := k) ha rfl (by omega) (pre1 (by omega)))) ?_
   refine Run.p (.int .i64 (((k : Nat) : Int))) rfl rfl ?_
   refine Run.p (.int .i64 (ix ly (k))) rfl rfl ?_
   refine Run.dsr ?_
   refine Run.p (.int .i64 (ix ly (k))) rfl rfl ?_
   refine Run.p (.bool (decide ((ix ly (k)) < 0))) rfl rfl ?_
   refine Run.done ?_
   refine Run.cond (b := decide ((ix ly (k)) < 0)) rfl (fun h14 => ?_) (fun h14 => ?_)
   ·have p14 := h14; try simp only [bs] at p14
    refine Run.region ?_
    refine Run.p (.int .i64 (((unl ly k : Nat) : Int))) rfl rfl ?_
    refine Run.p (.int .i64 (((k : Nat) : Int))) rfl rfl ?_
    refine Run.y (.int .u64 (((k : Nat) : Int))) rfl (OpY.convIntEq Tsome_3 Tint_52 rfl (by rw [IntKind.wrap_u64]; omega)) ?_
    refine Run.y (.int .i64 (((q : Nat) : Int))) rfl (OpY.shlOne rfl rfl rfl (by omega) hq) ?_
    refine Run.y (.int .i64 (((unl ly k ||| q : Nat) : Int))) rfl (OpY.orNat rfl rfl rfl rfl (by omega) (by omega)) ?_
    refine Run.p (.int .i64 (((unl ly k ||| q : Nat) : Int))) rfl rfl ?_
    refine Run.done ?_
    refine Run.blockEnd ?_
    refine Run.region ?_
    refine Run.y (.int .i64 ((((k : Nat) : Int)) + 1)) rfl (OpY.add rfl rfl rfl (by omega) (by omega)) ?_
    refine Run.p (.int .i64 ((((k : Nat) : Int)) + 1)) rfl rfl ?_
    refine Run.done ?_
    refine Run.goal ⟨(by repeat (first | exact Same.refl _ _ | refine Same.put rfl ?_ | refine Same.over rfl rfl ?_)), k + 1, ?_, ?_, ?_, ?_⟩
    ·refine ⟨by omega, ?_⟩
     trivial
    ·omega
    ·exact ⟨(by show Value.int _ _ = Value.int _ _; congr 1; rw [unl]; first | (rw [if_pos (by omega), hq]; done) | (rw [if_neg (by omega)]; done)), (by first | rfl | (congr 1; omega) | simp), trivial⟩
    ·exact (Some'.weak (.nil _))
   ·have p14 := h14; try simp only [bs] at p14
    refine Run.skip ?_
    refine Run.blockEnd ?_
    refine Run.region ?_
    refine Run.y (.int .i64 ((((k : Nat) : Int)) + 1)) rfl (OpY.add rfl rfl rfl (by omega) (by omega)) ?_
    refine Run.p (.int .i64 ((((k : Nat) : Int)) + 1)) rfl rfl ?_
    refine Run.done ?_
    refine Run.goal ⟨(by repeat (first | exact Same.refl _ _ | refine Same.put rfl ?_ | refine Same.over rfl rfl ?_)), k + 1, ?_, ?_, ?_, ?_⟩
    ·refine ⟨by omega, ?_⟩
     trivial
    ·omega
    ·exact ⟨(by show Value.int _ _ = Value.int _ _; congr 1; rw [unl]; first | (rw [if_pos (by omega), hq]; done) | (rw [if_neg (by omega)]; done)), (by first | rfl | (congr 1; omega) | simp), trivial⟩
    ·exact (Some'.weak (.nil _))
  ·have p9 := h9; try simp only [bs] at p9
   have hknk : k = n := by omega
   refine Run.exit rfl ?_
   refine Run.sr ?_
   refine Run.p (.int .i64 (((unl ly k : Nat) : Int))) rfl rfl ?_
   refine Run.p (.int .i64 (((unl ly k : Nat) : Int))) rfl rfl ?_
   refine Run.done ?_
   refine Run.ret ?_
   refine ⟨.int .i64 (((unl ly k : Nat) : Int)), [], Out.one rfl rfl, (Some'.weak (.nil _)), ?_⟩
   show _ = _; rw [hknk]

set_option maxHeartbeats 1000000 in
set_option maxRecDepth 20000 in
theorem maskOf_spec {va : Value} {n k0 : Nat} {xs : List Int} {w : World} (hn10 : n ≤ 10) (hr : ∀ i, i < k0 → 0 ≤ ix xs i ∧ ix xs i < n) (ha : Sl w va 1 k0 (ints xs)) : Calls Try.prog 38 #[va] w (Post No w fun v _ => v = .int .i64 ((mskK xs k0 : Nat) : Int)) := by
 have hxl := ha.len
 have hk0l := ha.le
 obtain ⟨A, c, rfl, _, _⟩ := ha.form0
 have hp10 := pow10 hn10
 refine enter (n := 18) (args := [.slice A k0 c]) Try.func38 rfl rfl (St.empty _ _) ?_
 refine Run.sr ?_
 refine Run.p (.int .i64 0) rfl rfl ?_
 refine Run.dsr ?_
 refine Run.p (.int .i64 0) rfl rfl ?_
 refine Run.done ?_
 refine Run.seq ?_
 refine Run.sr ?_
 refine Run.p (.slice A k0 c) rfl rfl ?_
 refine Run.y (.int .i64 (((k0 : Nat) : Int))) rfl (OpY.len Tsl_24 rfl) ?_
 refine Run.p (.int .i64 0) rfl rfl ?_
 refine Run.done ?_
 refine Run.block ?_
 refine Run.loop (ι := Nat) [3, 5, 8, 9, 10, 11, 12, 13, 14, 15, 16] (fun k => [(3, .int .i64 (((mskK xs k : Nat) : Int))), (8, .int .i64 (((k : Nat) : Int)))]) (fun k => []) (fun k => k ≤ k0 ∧ (True)) (fun k => k0 - k) 0 ?_ ?_ ?_ ?_
 ·exact ⟨Nat.zero_le _, by first | trivial | (intro i hi; omega)⟩
 ·exact ⟨rfl, rfl, trivial⟩
 ·exact (Some'.weak (.nil _))
 ·rintro k fr hinv
  show Run _ _ (over _ _ [(3, .int .i64 (((mskK xs k : Nat) : Int))), (8, .int .i64 (((k : Nat) : Int)))] fr) []
  try dsimp only at hinv
  refine Run.sr ?_
  refine Run.p (.bool (decide ((((k : Nat) : Int)) < (((k0 : Nat) : Int))))) rfl rfl ?_
  refine Run.done ?_
  refine Run.seq ?_
  refine Run.cond (b := decide ((((k : Nat) : Int)) < (((k0 : Nat) : Int)))) rfl (fun h9 => ?_) (fun h9 => ?_)
  ·have p9 := h9; try simp only [bs] at p9
   have hltk : k < k0 := by omega
   obtain ⟨b, o, rfl⟩ := ha.opn (by omega)
   obtain ⟨hu0, hun⟩ := hr k hltk
   obtain ⟨u, hu⟩ : ∃ u : Nat, ix xs k = (u : Int) := ⟨(ix xs k).toNat, by omega⟩
   have hul := mskK_lt (n := n) (k := k) (l := xs) fun i hi => hr i (by omega)
   obtain ⟨q, hq, hq1, hq2⟩ := pow_q (k := u) hn10 (by omega)
   refine Run.skip ?_
   refine Run.seq ?_
   refine Run.block ?_
   refine Run.sr ?_
   refine Run.y (.pointer (some ⟨b, o + k, none⟩)) rfl (OpY.index (kk := k) Tsl_24 rfl rfl (by omega) (by omega) (by first | rfl | omega)) ?_
   refine Run.y (.int .i64 (ix xs (k))) rfl (OpY.load1 Tone_3 rfl (Cells.arg (k := k) ha rfl (by omega) (pre1 (by omega)))) ?_
   refine Run.p (.int .i64 (ix xs (k))) rfl rfl ?_
   refine Run.dr ?_
   refine Run.p (.int .i64 (((mskK xs k : Nat) : Int))) rfl rfl ?_
   refine Run.p (.int .i64 (ix xs (k))) rfl rfl ?_
   refine Run.y (.int .i64 (((q : Nat) : Int))) rfl (OpY.shlOne rfl rfl hu (by omega) hq) ?_
   refine Run.y (.int .i64 (((mskK xs k ||| q : Nat) : Int))) rfl (OpY.orNat rfl rfl rfl rfl (by omega) (by omega)) ?_
   refine Run.p (.int .i64 (((mskK xs k ||| q : Nat) : Int))) rfl rfl ?_
   refine Run.done ?_
   refine Run.blockEnd ?_
   refine Run.region ?_
   refine Run.y (.int .i64 ((((k : Nat) : Int)) + 1)) rfl (OpY.add rfl rfl rfl (by omega) (by omega)) ?_
   refine Run.p (.int .i64 ((((k : Nat) : Int)) + 1)) rfl rfl ?_
   refine Run.done ?_
   refine Run.goal ⟨(by repeat (first | exact Same.refl _ _ | refine Same.put rfl ?_ | refine Same.over rfl rfl ?_)), k + 1, ?_, ?_, ?_, ?_⟩
   ·refine ⟨by omega, ?_⟩
    trivial
   ·omega
   ·exact ⟨(by show Value.int _ _ = Value.int _ _; congr 1; rw [mskK, hu, Int.toNat_natCast, hq]), (by first | rfl | (congr 1; omega) | simp), trivial⟩
   ·exact (Some'.weak (.nil _))
  ·have p9 := h9; try simp only [bs] at p9
   have hknk : k = k0 := by omega
   refine Run.exit rfl ?_
   refine Run.sr ?_
   refine Run.p (.int .i64 (((mskK xs k : Nat) : Int))) rfl rfl ?_
   refine Run.p (.int .i64 (((mskK xs k : Nat) : Int))) rfl rfl ?_
   refine Run.done ?_
   refine Run.ret ?_
   refine ⟨.int .i64 (((mskK xs k : Nat) : Int)), [], Out.one rfl rfl, (Some'.weak (.nil _)), ?_⟩
   show _ = _; rw [hknk]

set_option maxHeartbeats 1000000 in
set_option maxRecDepth 20000 in
theorem l19Mask_spec {va : Value} {n k0 : Nat} {xs : List Int} {w : World} (hn10 : n ≤ 10) (hr : ∀ i, i < k0 → 0 ≤ ix xs i ∧ ix xs i < n) (ha : Sl w va 1 k0 (ints xs)) : Calls Try.prog 68 #[va] w (Post No w fun v _ => v = .int .i64 ((mskK xs k0 : Nat) : Int)) := by
 have hxl := ha.len
 have hk0l := ha.le
 obtain ⟨A, c, rfl, _, _⟩ := ha.form0
 have hp10 := pow10 hn10
 refine enter (n := 19) (args := [.slice A k0 c]) Try.func68 rfl rfl (St.empty _ _) ?_
 refine Run.sr ?_
 refine Run.p (.int .i64 0) rfl rfl ?_
 refine Run.dsr ?_
 refine Run.p (.int .i64 0) rfl rfl ?_
 refine Run.done ?_
 refine Run.seq ?_
 refine Run.sr ?_
 refine Run.p (.slice A k0 c) rfl rfl ?_
 refine Run.y (.int .i64 (((k0 : Nat) : Int))) rfl (OpY.len Tsl_24 rfl) ?_
 refine Run.p (.int .i64 0) rfl rfl ?_
 refine Run.done ?_
 refine Run.block ?_
 refine Run.loop (ι := Nat) [3, 5, 8, 9, 10, 11, 12, 13, 14, 15, 16, 17] (fun k => [(3, .int .i64 (((mskK xs k : Nat) : Int))), (8, .int .i64 (((k : Nat) : Int)))]) (fun k => []) (fun k => k ≤ k0 ∧ (True)) (fun k => k0 - k) 0 ?_ ?_ ?_ ?_
 ·exact ⟨Nat.zero_le _, by first | trivial | (intro i hi; omega)⟩
 ·exact ⟨rfl, rfl, trivial⟩
 ·exact (Some'.weak (.nil _))
 ·rintro k fr hinv
  show Run _ _ (over _ _ [(3, .int .i64 (((mskK xs k : Nat) : Int))), (8, .int .i64 (((k : Nat) : Int)))] fr) []
  try dsimp only at hinv
  refine Run.sr ?_
  refine Run.p (.bool (decide ((((k : Nat) : Int)) < (((k0 : Nat) : Int))))) rfl rfl ?_
  refine Run.done ?_
  refine Run.seq ?_
  refine Run.cond (b := decide ((((k : Nat) : Int)) < (((k0 : Nat) : Int)))) rfl (fun h9 => ?_) (fun h9 => ?_)
  ·have p9 := h9; try simp only [bs] at p9
   have hltk : k < k0 := by omega
   obtain ⟨b, o, rfl⟩ := ha.opn (by omega)
   obtain ⟨hu0, hun⟩ := hr k hltk
   obtain ⟨u, hu⟩ : ∃ u : Nat, ix xs k = (u : Int) := ⟨(ix xs k).toNat, by omega⟩
   have hul := mskK_lt (n := n) (k := k) (l := xs) fun i hi => hr i (by omega)
   obtain ⟨q, hq, hq1, hq2⟩ := pow_q (k := u) hn10 (by omega)
   refine Run.skip ?_
   refine Run.seq ?_
   refine Run.block ?_
   refine Run.sr ?_
   refine Run.y (.pointer (some ⟨b, o + k, none⟩)) rfl (OpY.index (kk := k) Tsl_24 rfl rfl (by omega) (by omega) (by first | rfl | omega)) ?_
   refine Run.y (.int .i64 (ix xs (k))) rfl (OpY.load1 Tone_3 rfl (Cells.arg (k := k) ha rfl (by omega) (pre1 (by omega)))) ?_
   refine Run.p (.int .i64 (ix xs (k))) rfl rfl ?_
   refine Run.dr ?_
   refine Run.p (.int .i64 (((mskK xs k : Nat) : Int))) rfl rfl ?_
   refine Run.p (.int .i64 (ix xs (k))) rfl rfl ?_
   refine Run.y (.int .u64 (((u : Nat) : Int))) rfl (OpY.convIntEq Tsome_3 Tint_52 rfl (by rw [hu, IntKind.wrap_u64]; omega)) ?_
   refine Run.y (.int .i64 (((q : Nat) : Int))) rfl (OpY.shlOne rfl rfl rfl (by omega) hq) ?_
   refine Run.y (.int .i64 (((mskK xs k ||| q : Nat) : Int))) rfl (OpY.orNat rfl rfl rfl rfl (by omega) (by omega)) ?_
   refine Run.p (.int .i64 (((mskK xs k ||| q : Nat) : Int))) rfl rfl ?_
   refine Run.done ?_
   refine Run.blockEnd ?_
   refine Run.region ?_
   refine Run.y (.int .i64 ((((k : Nat) : Int)) + 1)) rfl (OpY.add rfl rfl rfl (by omega) (by omega)) ?_
   refine Run.p (.int .i64 ((((k : Nat) : Int)) + 1)) rfl rfl ?_
   refine Run.done ?_
   refine Run.goal ⟨(by repeat (first | exact Same.refl _ _ | refine Same.put rfl ?_ | refine Same.over rfl rfl ?_)), k + 1, ?_, ?_, ?_, ?_⟩
   ·refine ⟨by omega, ?_⟩
    trivial
   ·omega
   ·exact ⟨(by show Value.int _ _ = Value.int _ _; congr 1; rw [mskK, hu, Int.toNat_natCast, hq]), (by first | rfl | (congr 1; omega) | simp), trivial⟩
   ·exact (Some'.weak (.nil _))
  ·have p9 := h9; try simp only [bs] at p9
   have hknk : k = k0 := by omega
   refine Run.exit rfl ?_
   refine Run.sr ?_
   refine Run.p (.int .i64 (((mskK xs k : Nat) : Int))) rfl rfl ?_
   refine Run.p (.int .i64 (((mskK xs k : Nat) : Int))) rfl rfl ?_
   refine Run.done ?_
   refine Run.ret ?_
   refine ⟨.int .i64 (((mskK xs k : Nat) : Int)), [], Out.one rfl rfl, (Some'.weak (.nil _)), ?_⟩
   show _ = _; rw [hknk]

set_option maxHeartbeats 1000000 in
set_option maxRecDepth 20000 in
theorem isBefore_spec {ve vi vo : Value} {n v set : Nat} {vl : Value} {ly : List Int} {w : World} (hn10 : n ≤ 10) (hv : v < n) (hset : set < 2 ^ n) (hl : Sl w vl 1 n (ints ly)) : Calls Try.prog 65 #[.agg #[.int .i64 (n : Int), ve, vi, vo], vl, .int .i64 (v : Int), .int .i64 (set : Int)] w (Post No w fun r _ => r = .bool (befB ly v set n)) := by
 have hll := hl.len
 have hp10 := pow10 hn10
 obtain ⟨A, c, rfl, _, _⟩ := hl.form0
 refine enter (n := 32) (args := [.agg #[.int .i64 (((n : Nat) : Int)), ve, vi, vo], .slice A n c, .int .i64 (((v : Nat) : Int)), .int .i64 (((set : Nat) : Int))]) Try.func65 rfl rfl (St.empty _ _) ?_
 refine Run.sr ?_
 refine Run.step rfl (OpStep.box (us := [.int .i64 (((n : Nat) : Int)), ve, vi, vo]) rfl fun b1 => ?_)
 refine Run.p (.bool false) rfl rfl ?_
 refine Run.done ?_
 refine Run.seq ?_
 refine Run.sr ?_
 refine Run.y (.pointer (some ⟨b1, 0, none⟩)) rfl (OpY.fieldAddr Tfo_26_0 rfl rfl) ?_
 refine Run.y (.int .i64 (((n : Nat) : Int))) rfl (OpY.load1 Tone_3 rfl (Cells.blk (.head _) ⟨rfl, trivial⟩)) ?_
 refine Run.p (.int .i64 0) rfl rfl ?_
 refine Run.done ?_
 refine Run.block ?_
 refine Run.loop (ι := Nat) [8, 9, 12, 13, 14, 15, 16, 17, 18, 19, 20, 21, 22, 23, 24, 25, 26, 27, 28, 29, 30, 31] (fun k => [(12, .int .i64 (((k : Nat) : Int)))]) (fun k => [.blk b1 26 [.int .i64 (((n : Nat) : Int)), ve, vi, vo]]) (fun k => k ≤ n ∧ ∀ u, u < k → (!(set.testBit u && decide (ix ly v ≤ ix ly u))) = true) (fun k => n - k) 0 ?_ ?_ ?_ ?_
 ·exact ⟨Nat.zero_le _, fun i hi => by omega⟩
 ·exact ⟨rfl, trivial⟩
 ·exact (Some'.weak (.take (.nil _)))
 ·rintro k fr hinv
  show Run _ _ (over _ _ [(12, .int .i64 (((k : Nat) : Int)))] fr) [.blk b1 26 [.int .i64 (((n : Nat) : Int)), ve, vi, vo]]
  try dsimp only at hinv
  refine Run.sr ?_
  refine Run.p (.bool (decide ((((k : Nat) : Int)) < (((n : Nat) : Int))))) rfl rfl ?_
  refine Run.done ?_
  refine Run.seq ?_
  refine Run.cond (b := decide ((((k : Nat) : Int)) < (((n : Nat) : Int)))) rfl (fun h13 => ?_) (fun h13 => ?_)
  ·have p13 := h13; try simp only [bs] at p13
   have hkn : k < n := by omega
   obtain ⟨b, o, rfl⟩ := hl.opn (by omega)
   refine Run.skip ?_
   refine Run.seq ?_
   refine Run.block ?_
   refine Run.sr ?_
   refine Run.p (.int .i64 (((k : Nat) : Int))) rfl rfl ?_
   refine Run.p (.int .i64 (((k : Nat) : Int))) rfl rfl ?_
   refine Run.done ?_
   refine Run.seq ?_
   refine Run.draws (by kernel_rfl) (by kernel_rfl) ?_
   refine Lex.q (v := .int .i64 (((set : Nat) : Int))) rfl (OpQ.y (OpY.pure rfl)) ?_
   refine Lex.q (v := .int .i64 (((k : Nat) : Int))) rfl (OpQ.y (OpY.pure rfl)) ?_
   refine Lex.q (v := .int .i64 ((((set : Nat) : Int)) >>> k)) rfl (OpQ.y (OpY.shr rfl rfl (by first | rfl | omega) (by omega))) ?_
   refine Lex.q (v := .int .i64 (((((set : Nat) : Int)) >>> k) % 2)) rfl (OpQ.y (OpY.and1 rfl rfl)) ?_
   refine Lex.q (v := .bool ((((((set : Nat) : Int)) >>> k) % 2) == 1)) rfl (OpQ.y (OpY.pure rfl)) ?_
   rcases Bool.eq_false_or_eq_true ((((((set : Nat) : Int)) >>> k) % 2) == 1) with h20 | h20
   ·refine Lex.q (v := .bool true) rfl (OpQ.y (OpY.moveB rfl h20)) ?_
    have p20 := h20; try simp only [bs] at p20
    have hbit : set.testBit k = true := by rw [← bitN]; exact bitI_true p20
    refine Lex.q (v := .slice (some ⟨b, o, none⟩) n c) rfl (OpQ.y (OpY.pure rfl)) ?_
    refine Lex.q (v := .int .i64 (((v : Nat) : Int))) rfl (OpQ.y (OpY.pure rfl)) ?_
    refine Lex.q (v := .pointer (some ⟨b, o + v, none⟩)) rfl (OpQ.y (OpY.index (kk := v) Tsl_24 rfl rfl (by omega) (by omega) (by first | rfl | omega))) ?_
    refine Lex.q (v := .int .i64 (ix ly (v))) rfl (OpQ.y (OpY.load1 Tone_3 rfl (Cells.arg (k := v) hl rfl (by omega) (pre1 (by omega))))) ?_
    refine Lex.q (v := .slice (some ⟨b, o, none⟩) n c) rfl (OpQ.y (OpY.pure rfl)) ?_
    refine Lex.q (v := .int .i64 (((k : Nat) : Int))) rfl (OpQ.y (OpY.pure rfl)) ?_
    refine Lex.q (v := .pointer (some ⟨b, o + k, none⟩)) rfl (OpQ.y (OpY.index (kk := k) Tsl_24 rfl rfl (by omega) (by omega) (by first | rfl | omega))) ?_
    refine Lex.q (v := .int .i64 (ix ly (k))) rfl (OpQ.y (OpY.load1 Tone_3 rfl (Cells.arg (k := k) hl rfl (by omega) (pre1 (by omega))))) ?_
    refine Lex.q (v := .bool (decide ((ix ly (v)) ≤ (ix ly (k))))) rfl (OpQ.y (OpY.pure rfl)) ?_
    refine Lex.q (v := .bool (decide ((ix ly (v)) ≤ (ix ly (k))))) rfl (OpQ.y (OpY.pure rfl)) ?_
    refine Lex.done ?_
    refine Run.cond (b := decide ((ix ly (v)) ≤ (ix ly (k)))) rfl (fun h30 => ?_) (fun h30 => ?_)
    ·have p30 := h30; try simp only [bs] at p30
     refine Run.seq ?_
     have hres : befB ly v set n = false := by rw [befK]; exact allI_false hkn (by rw [hbit]; simp; omega)
     refine Run.region ?_
     refine Run.p (.bool false) rfl rfl ?_
     refine Run.done ?_
     refine Run.ret ?_
     refine ⟨.bool false, [], Out.one rfl rfl, (Some'.weak (.nil _)), ?_⟩
     show _ = _; rw [hres]
    ·have p30 := h30; try simp only [bs] at p30
     refine Run.skip ?_
     refine Run.blockEnd ?_
     have hgood : (!(set.testBit k && decide (ix ly v ≤ ix ly k))) = true := by first | (rw [hbit]; rfl) | (rw [hbit]; simp; omega)
     refine Run.region ?_
     refine Run.y (.int .i64 ((((k : Nat) : Int)) + 1)) rfl (OpY.add rfl rfl rfl (by omega) (by omega)) ?_
     refine Run.p (.int .i64 ((((k : Nat) : Int)) + 1)) rfl rfl ?_
     refine Run.done ?_
     refine Run.goal ⟨(by repeat (first | exact Same.refl _ _ | refine Same.put rfl ?_ | refine Same.over rfl rfl ?_)), k + 1, ?_, ?_, ?_, ?_⟩
     ·refine ⟨by omega, ?_⟩
      intro i hi
      rcases Nat.lt_succ_iff_lt_or_eq.1 hi with h | h
      ·exact hinv.2 i h
      ·rw [h]; exact hgood
     ·omega
     ·exact ⟨(by first | rfl | (congr 1; omega) | simp), trivial⟩
     ·exact (Some'.weak (.take (.nil _)))
   ·refine Lex.q (v := .bool false) rfl (OpQ.y (OpY.moveB rfl h20)) ?_
    have p20 := h20; try simp only [bs] at p20
    have hbit : set.testBit k = false := by rw [← bitN]; exact bitI_ne1 p20
    refine Lex.pass rfl ?_
    refine Lex.pass rfl ?_
    refine Lex.pass rfl ?_
    refine Lex.pass rfl ?_
    refine Lex.pass rfl ?_
    refine Lex.pass rfl ?_
    refine Lex.pass rfl ?_
    refine Lex.pass rfl ?_
    refine Lex.pass rfl ?_
    refine Lex.q (v := .bool false) rfl (OpQ.y (OpY.pure rfl)) ?_
    refine Lex.done ?_
    refine Run.cond (b := false) rfl (fun h => nomatch h) (fun _ => ?_)
    refine Run.skip ?_
    refine Run.blockEnd ?_
    have hgood : (!(set.testBit k && decide (ix ly v ≤ ix ly k))) = true := by first | (rw [hbit]; rfl) | (rw [hbit]; simp; omega)
    refine Run.region ?_
    refine Run.y (.int .i64 ((((k : Nat) : Int)) + 1)) rfl (OpY.add rfl rfl rfl (by omega) (by omega)) ?_
    refine Run.p (.int .i64 ((((k : Nat) : Int)) + 1)) rfl rfl ?_
    refine Run.done ?_
    refine Run.goal ⟨(by repeat (first | exact Same.refl _ _ | refine Same.put rfl ?_ | refine Same.over rfl rfl ?_)), k + 1, ?_, ?_, ?_, ?_⟩
    ·refine ⟨by omega, ?_⟩
     intro i hi
     rcases Nat.lt_succ_iff_lt_or_eq.1 hi with h | h
     ·exact hinv.2 i h
     ·rw [h]; exact hgood
    ·omega
    ·exact ⟨(by first | rfl | (congr 1; omega) | simp), trivial⟩
    ·exact (Some'.weak (.take (.nil _)))
  ·have p13 := h13; try simp only [bs] at p13
   have hkn : k = n := by omega
   have hres : befB ly v set n = true := by rw [befK]; exact allI_iff.2 (by rw [← hkn]; exact hinv.2)
   refine Run.exit rfl ?_
   refine Run.sr ?_
   refine Run.p (.bool true) rfl rfl ?_
   refine Run.done ?_
   refine Run.ret ?_
   refine ⟨.bool true, [], Out.one rfl rfl, (Some'.weak (.nil _)), ?_⟩
   show _ = _; rw [hres]

set_option maxHeartbeats 1000000 in
set_option maxRecDepth 20000 in
theorem l19Before_spec {n v set : Nat} {vl : Value} {ly : List Int} {w : World} (hn10 : n ≤ 10) (hv : v < n) (hset : set < 2 ^ n) (hl : Sl w vl 1 n (ints ly)) : Calls Try.prog 67 #[vl, .int .i64 (v : Int), .int .i64 (set : Int)] w (Post No w fun r _ => r = .bool (befB ly v (clr set v) n)) := by
 have hll := hl.len
 have hp10 := pow10 hn10
 obtain ⟨A, c, rfl, _, _⟩ := hl.form0
 obtain ⟨q, hq, hq1, hq2⟩ := pow_q hn10 hv
 have hslt : clr set v < 2 ^ n := clr_lt hset
 have hcl : set ^^^ (set &&& q) = clr set v := by rw [hq]; rfl
 refine enter (n := 30) (args := [.slice A n c, .int .i64 (((v : Nat) : Int)), .int .i64 (((set : Nat) : Int))]) Try.func67 rfl rfl (St.empty _ _) ?_
 refine Run.sr ?_
 refine Run.p (.bool false) rfl rfl ?_
 refine Run.done ?_
 refine Run.seq ?_
 refine Run.sr ?_
 refine Run.p (.int .i64 (((set : Nat) : Int))) rfl rfl ?_
 refine Run.p (.int .i64 (((v : Nat) : Int))) rfl rfl ?_
 refine Run.y (.int .u64 (((v : Nat) : Int))) rfl (OpY.convIntEq Tsome_3 Tint_52 rfl (by rw [IntKind.wrap_u64]; omega)) ?_
 refine Run.y (.int .i64 (((q : Nat) : Int))) rfl (OpY.shlOne rfl rfl rfl (by omega) hq) ?_
 refine Run.y (.int .i64 (((clr set v : Nat) : Int))) rfl (OpY.andNotNat rfl rfl (by omega) (by omega) hcl) ?_
 refine Run.step rfl (OpStep.call (vs := [.int .i64 (((clr set v : Nat) : Int))]) (caps := []) Tcall_60 rfl rfl (fun w hs => (by have h := l1Set_spec (x := ((clr set v : Nat) : Int)) (w := w) (by omega) (by omega); rw [setL_nat hslt (by omega)] at h; exact h)) ?_)
 rintro us _ ⟨hs24, rfl⟩
 show Run _ _ (putF _ _ _ us) [.own us 3 1 ((setN (clr set v) n).length) (ints (setN (clr set v) n))]
 refine Run.formOwn (.head _) (fun A_us1 c_us1 hv hcapc_us1 hmaxc_us1 => ?_) (fun _ _ _ => ⟨nofun, nofun, nofun⟩)
 subst hv
 refine Run.y (.int .i64 ((((setN (clr set v) n).length : Nat) : Int))) rfl (OpY.len Tsl_24 rfl) ?_
 refine Run.p (.int .i64 0) rfl rfl ?_
 refine Run.done ?_
 refine Run.block ?_
 refine Run.loop (ι := Nat) [6, 8, 16, 17, 18, 19, 20, 21, 22, 23, 24, 25, 26, 27, 28, 29] (fun k => [(16, .int .i64 (((k : Nat) : Int)))]) (fun k => [.own (.slice A_us1 ((setN (clr set v) n).length) c_us1) 3 1 ((setN (clr set v) n).length) (ints (setN (clr set v) n))]) (fun k => k ≤ (setN (clr set v) n).length ∧ ∀ i, i < k → ix ly v > ix ly (ix (setN (clr set v) n) i).toNat) (fun k => (setN (clr set v) n).length - k) 0 ?_ ?_ ?_ ?_
 ·exact ⟨Nat.zero_le _, fun i hi => by omega⟩
 ·exact ⟨rfl, trivial⟩
 ·exact (Some'.weak (.take (.nil _)))
 ·rintro k fr hinv
  show Run _ _ (over _ _ [(16, .int .i64 (((k : Nat) : Int)))] fr) [.own (.slice A_us1 ((setN (clr set v) n).length) c_us1) 3 1 ((setN (clr set v) n).length) (ints (setN (clr set v) n))]
  try dsimp only at hinv
  refine Run.sr ?_
  refine Run.p (.bool (decide ((((k : Nat) : Int)) < ((((setN (clr set v) n).length : Nat) : Int))))) rfl rfl ?_
  refine Run.done ?_
  refine Run.seq ?_
  refine Run.cond (b := decide ((((k : Nat) : Int)) < ((((setN (clr set v) n).length : Nat) : Int)))) rfl (fun h17 => ?_) (fun h17 => ?_)
  ·have p17 := h17; try simp only [bs] at p17
   have hkl : k < (setN (clr set v) n).length := by omega
   obtain ⟨u, hun, hub, hu⟩ := set_at hkl
   obtain ⟨b, o, rfl⟩ := hl.opn (by omega)
   refine Run.openOwn (.head _) (by omega) (fun gs cs hvgs hcapgs _ => ?_) (fun _ _ _ => ⟨nofun, nofun, nofun⟩)
   injection hvgs with hAgs _ hcgs; subst hAgs; subst hcgs
   refine Run.skip ?_
   refine Run.seq ?_
   refine Run.block ?_
   refine Run.sr ?_
   refine Run.y (.pointer (some ⟨gs, k, none⟩)) rfl (OpY.index (kk := k) Tsl_24 rfl rfl (by omega) (by omega) (by first | rfl | omega)) ?_
   refine Run.y (.int .i64 (ix (setN (clr set v) n) (k))) rfl (OpY.load1 Tone_3 rfl (Cells.own0 (.head _) (pre1 (by omega)))) ?_
   refine Run.p (.int .i64 (ix (setN (clr set v) n) (k))) rfl rfl ?_
   refine Run.done ?_
   refine Run.seq ?_
   refine Run.draws (by kernel_rfl) (by kernel_rfl) ?_
   refine Lex.q (v := .slice (some ⟨b, o, none⟩) n c) rfl (OpQ.y (OpY.pure rfl)) ?_
   refine Lex.q (v := .int .i64 (((v : Nat) : Int))) rfl (OpQ.y (OpY.pure rfl)) ?_
   refine Lex.q (v := .pointer (some ⟨b, o + v, none⟩)) rfl (OpQ.y (OpY.index (kk := v) Tsl_24 rfl rfl (by omega) (by omega) (by first | rfl | omega))) ?_
   refine Lex.q (v := .int .i64 (ix ly (v))) rfl (OpQ.y (OpY.load1 Tone_3 rfl (Cells.arg (k := v) hl rfl (by omega) (pre1 (by omega))))) ?_
   refine Lex.q (v := .slice (some ⟨b, o, none⟩) n c) rfl (OpQ.y (OpY.pure rfl)) ?_
   refine Lex.q (v := .int .i64 (ix (setN (clr set v) n) (k))) rfl (OpQ.y (OpY.pure rfl)) ?_
   refine Lex.q (v := .pointer (some ⟨b, o + u, none⟩)) rfl (OpQ.y (OpY.index (kk := u) Tsl_24 rfl rfl (by omega) (by omega) (by first | rfl | omega))) ?_
   refine Lex.q (v := .int .i64 (ix ly (u))) rfl (OpQ.y (OpY.load1 Tone_3 rfl (Cells.arg (k := u) hl rfl (by omega) (pre1 (by omega))))) ?_
   refine Lex.q (v := .bool (decide ((ix ly (v)) ≤ (ix ly (u))))) rfl (OpQ.y (OpY.pure rfl)) ?_
   refine Lex.done ?_
   refine Run.cond (b := decide ((ix ly (v)) ≤ (ix ly (u)))) rfl (fun h28 => ?_) (fun h28 => ?_)
   ·have p28 := h28; try simp only [bs] at p28
    refine Run.seq ?_
    have hres : befB ly v (clr set v) n = false := by
     cases hb : befB ly v (clr set v) n with
     | false => rfl
     | true => have h := (bef_set hslt).1 hb k hkl; rw [hu, Int.toNat_natCast] at h; omega
    refine Run.region ?_
    refine Run.p (.bool false) rfl rfl ?_
    refine Run.done ?_
    refine Run.ret ?_
    refine ⟨.bool false, [], Out.one rfl rfl, (Some'.weak (.nil _)), ?_⟩
    show _ = _; rw [hres]
   ·have p28 := h28; try simp only [bs] at p28
    refine Run.skip ?_
    refine Run.blockEnd ?_
    have hgood : ix ly v > ix ly (ix (setN (clr set v) n) k).toNat := by rw [hu, Int.toNat_natCast]; omega
    refine Run.region ?_
    refine Run.y (.int .i64 ((((k : Nat) : Int)) + 1)) rfl (OpY.add rfl rfl rfl (by omega) (by omega)) ?_
    refine Run.p (.int .i64 ((((k : Nat) : Int)) + 1)) rfl rfl ?_
    refine Run.done ?_
    refine Run.goal ⟨(by repeat (first | exact Same.refl _ _ | refine Same.put rfl ?_ | refine Same.over rfl rfl ?_)), k + 1, ?_, ?_, ?_, ?_⟩
    ·refine ⟨by omega, ?_⟩
     intro i hi
     rcases Nat.lt_succ_iff_lt_or_eq.1 hi with h | h
     ·exact hinv.2 i h
     ·rw [h]; exact hgood
    ·omega
    ·exact ⟨(by first | rfl | (congr 1; omega) | simp), trivial⟩
    ·exact (Some'.weak (.takeEq (by first | rfl | simp) (.nil _)))
  ·have p17 := h17; try simp only [bs] at p17
   have hkn : k = (setN (clr set v) n).length := by omega
   have hres : befB ly v (clr set v) n = true := (bef_set hslt).2 (by rw [← hkn]; exact hinv.2)
   refine Run.exit rfl ?_
   refine Run.sr ?_
   refine Run.p (.bool true) rfl rfl ?_
   refine Run.done ?_
   refine Run.ret ?_
   refine ⟨.bool true, [], Out.one rfl rfl, (Some'.weak (.nil _)), ?_⟩
   show _ = _; rw [hres]

end Go.Proofs.Ytoiaibgcjfgbcaa
