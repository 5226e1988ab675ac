/- Walks: the reference looks at the blocks of a circuit text. -/
import Derived.Test.YtgpkpopbajkklaaGreatDoorK10
import Derived.Test.YtgpkpopbajkklaaGreatDoorProg
set_option linter.unusedSimpArgs false
set_option linter.unusedVariables false
namespace Go.Proofs.YtgpkpopbajkklaaGreatDoor
open Go Go.RowKit
namespace TxpT
theorem Tagg_77 : aggOf Tryz.prog 77 = some 7 := by kernel_rfl
theorem Tfo_54_0 : fieldOff Tryz.prog 54 0 = some 0 := by kernel_rfl
theorem Tfo_77_0 : fieldOff Tryz.prog 77 0 = some 0 := by kernel_rfl
theorem Tone_3 : oneOf Tryz.prog 3 = true := by kernel_rfl
theorem Tone_51 : oneOf Tryz.prog 51 = true := by kernel_rfl
theorem Tone_9 : oneOf Tryz.prog 9 = true := by kernel_rfl
theorem Tsize_77 : (Tryz.prog.info? 77).map (·.size) = some 7 := by kernel_rfl
theorem Tsl_51 : sliceOf Tryz.prog 51 = some (77, 7, 88, [sv ([]), .int .i64 0, .int .i64 0, .int .i64 0, .int .i64 0, sv ([]), .slice none 0 0]) := by kernel_rfl
theorem Tsl_75 : sliceOf Tryz.prog 75 = some (3, 1, 8, [.int .i64 0]) := by kernel_rfl
theorem Tzero_77 : zeroOf Tryz.prog 77 = some [sv ([]), .int .i64 0, .int .i64 0, .int .i64 0, .int .i64 0, sv ([]), .slice none 0 0] := by kernel_rfl
end TxpT
open TxpT
def rle (p : LV) : List Value := [sv p.1.word, .int .i64 p.1.g3.1, .int .i64 p.1.g3.2.1, .int .i64 p.1.g3.2.2, .int .i64 p.1.num, sv p.1.nm, p.2]
/-- Lines as the reference's cells. -/
def rls (L : List LV) : List Value := L.flatMap rle
def rgr (L : List LV) : List (Value × Nat × List Value) := L.map fun p => (p.2, p.1.ar.length, ints p.1.ar)
theorem rle_len (p : LV) : (rle p).length = 7 := rfl
@[simp] theorem rls_length (L : List LV) : (rls L).length = L.length * 7 := flat_len rle_len L
theorem rls_preF {L : List LV} {k : Nat} {x : Li} {v : Value} (hk : k < L.length) (hx : (tx L k).1 = x) (hv : (tx L k).2 = v) : Pre (rls L) (k * 7) [sv x.word, .int .i64 x.g3.1, .int .i64 x.g3.2.1, .int .i64 x.g3.2.2, .int .i64 x.num, sv x.nm, v] := by
  subst hx; subst hv; exact flat_pre rle_len (.cl, undef) hk 7 0 (by decide)
theorem rls_pre {L : List LV} {k : Nat} (hk : k < L.length) (c j : Nat) (h : j + c ≤ 7) : Pre (rls L) (k * 7 + j) (((rle (tx L k)).drop j).take c) := flat_pre rle_len _ hk c j h
theorem rls_word {L : List LV} {k : Nat} {x : Li} (hk : k < L.length) (hx : (tx L k).1 = x) : Pre (rls L) (k * 7) [sv x.word] := by subst hx; exact rls_pre hk 1 0 (by decide)
theorem rls_num {L : List LV} {k : Nat} {x : Li} (hk : k < L.length) (hx : (tx L k).1 = x) : Pre (rls L) (k * 7 + 4) [.int .i64 x.num] := by subst hx; exact rls_pre hk 1 4 (by decide)
def RQ (w : World) (L : List LV) : Prop := ∀ k, k < L.length → Sl w (tx L k).2 1 (tx L k).1.ar.length (ints (tx L k).1.ar)
theorem RQ.go {w0 w : World} {H : List Res} {L : List LV} (h : RQ w0 L) (hs : St No w0 w H) : RQ w L := fun k hk => hs.sl (h k hk)
theorem St.rq {M : Nat → Prop} {w0 w : World} {H : List Res} {e : TypeId} {L : List LV} (hs : St M w0 w H) (hm : Res.grp e 1 (rgr L) ∈ H) : RQ w L :=
  fun k hk => hs.slGrpG hm (p := ((tx L k).2, (tx L k).1.ar.length, ints (tx L k).1.ar)) (List.mem_map.2 ⟨_, tx_mem hk, rfl⟩)
theorem RQ.formed {w : World} {L : List LV} (h : RQ w L) : ∀ k, k < L.length → ∃ A c, (tx L k).2 = .slice A (tx L k).1.ar.length c := fun k hk => by
  obtain ⟨A, c, h1, _, _⟩ := (h k hk).form0
  exact ⟨A, c, h1⟩
theorem k1_of {X : List Li} {k : Nat} {x : Li} {w : Bs} (hq0 : (liAt X 0).word = wQ) (hx : liAt X k = x) (hw : x.word = w) (hne : w ≠ wQ) : 1 ≤ k := by
  rcases Nat.eq_zero_or_pos k with h | h
  · subst h; rw [hx, hw] at hq0; exact absurd hq0 hne
  · exact h
theorem up_dropLast (os : List Int) : (os.dropLast).map (· + 1) = (os.map (· + 1)).dropLast := by simp [List.dropLast_eq_take, List.map_take]
theorem up_last {os : List Int} (h : 0 < os.length) : ((os.map (· + 1)).getLast?).getD 0 = ix os (os.length - 1) + 1 := by
  rw [getLast_ix (by simpa using h)]
  simp [ix, List.getD, List.getElem?_eq_getElem (show os.length - 1 < os.length by omega)]

def Rg (os : List Int) : Prop := ∀ v ∈ os, 0 ≤ v ∧ v ≤ 16777216
theorem Rg.drop {os : List Int} (h : Rg os) : Rg os.dropLast := fun v hv => h v (by rw [List.dropLast_eq_take] at hv; exact List.mem_of_mem_take hv)
theorem Rg.app {os : List Int} (h : Rg os) {k : Nat} (hk : k ≤ 16777216) : Rg (os ++ [((k : Nat) : Int)]) := fun v hv => by
  rcases List.mem_append.1 hv with h1 | h1
  · exact h v h1
  · simp at h1; omega
theorem Rg.at_ {os : List Int} (h : Rg os) {i : Nat} (hi : i < os.length) : 0 ≤ ix os i ∧ ix os i ≤ 16777216 := by
  have e : ix os i = os[i] := by simp [ix, List.getD, List.getElem?_eq_getElem hi]
  rw [e]; exact h _ (List.getElem_mem hi)
theorem bl_first {X : List Li} {k : Nat} {os : List Int} {on : Bool} (h : k = 0) (h0 : os = [] ∧ on = true) : fbGo (X.drop (k + 1)) (((k + 1 : Nat) : Int) + 1) (os.map (· + 1)) on = fbL X := by
  obtain ⟨rfl, rfl⟩ := h0
  subst h; rfl
theorem bl_next {Y : List Li} {a b : Int} {s t : List Int} {u v : Bool} {r : Int} (h : fbGo Y a s u = r) (hab : b = a) (hst : t = s) (huv : v = u) : fbGo Y b t v = r := by subst hab; subst hst; subst huv; exact h

set_option maxHeartbeats 4000000 in
set_option maxRecDepth 20000 in
theorem blocks_spec {r n : Nat} {va vd : Value} {L : List LV} {w : World} (hr : Sl w (.slice (some ⟨r, 0, none⟩) 1 1) 2 1 [va, vd]) (ha : Sl w va 7 n (rls L)) (hA : RQ w L) (hq0 : (liAt (L.map (·.1)) 0).word = wQ) (h1 : 1 ≤ n) (hn16 : n ≤ 16777216) : Calls Tryz.prog 51 #[.pointer (some ⟨r, 0, none⟩)] w (Post No w fun v _ => v = .int .i64 (fbL (L.map (·.1)))) := by
 have hLn : L.length = n := by have := ha.1; simp at this; omega
 have hn := ha.le
 obtain ⟨A, c, rfl, hnc, _⟩ := ha.form0
 obtain ⟨X, hX⟩ : ∃ X, L.map (·.1) = X := ⟨_, rfl⟩
 have hXl : X.length = n := by rw [← hX, List.length_map]; exact hLn
 rw [hX] at hq0 ⊢
 refine enter (n := 76) (args := [.pointer (some ⟨r, 0, none⟩)]) Tryz.func51 rfl rfl (St.empty _ _) ?_
 refine Run.sr ?_
 refine Run.p (.int .i64 0) rfl rfl ?_
 refine Run.dsr ?_
 refine Run.p (.slice none 0 0) rfl rfl ?_
 refine Run.dsr ?_
 refine Run.p (.bool true) rfl rfl ?_
 refine Run.done ?_
 refine Run.seq ?_
 refine Run.seq ?_
 refine Run.weak (H' := [.own (.slice none 0 0) 3 1 0 (ints [])]) (Weak.nilOwn _ _) ?_ ⟨_, _, rfl, fun _ => nofun, fun _ => nofun⟩
 refine Run.region ?_
 refine Run.p (.pointer (some ⟨r, 0, none⟩)) rfl rfl ?_
 refine Run.y (.pointer (some ⟨r, 0, none⟩)) rfl (OpY.nilCheck rfl) ?_
 refine Run.y (.pointer (some ⟨r, 0, none⟩)) rfl (OpY.fieldAddr Tfo_54_0 rfl rfl) ?_
 refine Run.y (.slice A n c) rfl (OpY.load1 Tone_51 rfl (Cells.env (k := 0) hr rfl (by decide) ⟨rfl, trivial⟩)) ?_
 refine Run.y (.int .i64 (((n : Nat) : Int))) rfl (OpY.len Tsl_51 rfl) ?_
 refine Run.p (.int .i64 0) rfl rfl ?_
 refine Run.done ?_
 refine Run.block ?_
 refine Run.loop (ι := Nat × List Int × Bool × Value) ([2, 3, 4, 5, 6, 12, 13, 14, 15, 16, 17, 18, 19, 20, 21, 22, 23, 24, 25, 26, 27, 28, 29, 30, 31, 32, 33, 34, 35, 36, 37, 38, 39, 40, 41, 42, 43, 44, 45, 46, 47, 48, 49, 50, 51, 52, 53, 54, 55, 56] ++ [57, 58, 59, 60, 61, 62, 63, 64, 65]) (fun ⟨k, os, on, vo⟩ => [(3, vo), (4, .bool on), (12, .int .i64 (((k : Nat) : Int)))]) (fun ⟨k, os, on, vo⟩ => [.own vo 3 1 (os.length) (ints os)]) (fun ⟨k, os, on, vo⟩ => k ≤ n ∧ Rg os ∧ os.length ≤ k ∧ (k = 0 → os = [] ∧ on = true) ∧ (1 ≤ k → fbGo (X.drop k) (((k : Nat) : Int) + 1) (os.map (· + 1)) on = fbL X)) (fun ⟨k, os, on, vo⟩ => n - k) (0, [], true, .slice none 0 0) ?_ ?_ ?_ ?_
 ·exact ⟨Nat.zero_le _, (fun v hv => nomatch hv), Nat.le_refl _, fun _ => ⟨rfl, rfl⟩, fun h => absurd h (by decide)⟩
 ·exact ⟨rfl, rfl, rfl, trivial⟩
 ·exact (Some'.weak (.takeEq (by first | rfl | simp) (.nil _)))
 ·rintro ⟨k, os, on, vo⟩ fr hinv
  show Run _ _ (over _ _ [(3, vo), (4, .bool on), (12, .int .i64 (((k : Nat) : Int)))] fr) [.own vo 3 1 (os.length) (ints os)]
  try dsimp only at hinv
  refine Run.sr ?_
  refine Run.p (.bool (decide ((((k : Nat) : Int)) < (((n : Nat) : Int))))) rfl rfl ?_
  refine Run.done ?_
  refine Run.seq ?_
  refine Run.cond (b := decide ((((k : Nat) : Int)) < (((n : Nat) : Int)))) rfl (fun h13 => ?_) (fun h13 => ?_)
  ·have p13 := h13; try simp only [bs] at p13
   have hltk : k < n := by omega
   obtain ⟨hk, hrg, hst, h0, hgo⟩ := hinv
   obtain ⟨x, hx⟩ : ∃ x, (tx L k).1 = x := ⟨_, rfl⟩
   obtain ⟨Aq, cq, hq, hqc, _⟩ := (hA k (by omega)).form0
   rw [hx] at hq hqc
   have hxX : liAt X k = x := by rw [← hX, ← tx_li, hx]
   obtain ⟨b, o, rfl⟩ := ha.opn (by omega)
   refine Run.skip ?_
   refine Run.seq ?_
   refine Run.block ?_
   refine Run.sr ?_
   refine Run.p (.int .i64 (((k : Nat) : Int))) rfl rfl ?_
   refine Run.y (.pointer (some ⟨b, o + k * 7, none⟩)) rfl (OpY.index (kk := k) Tsl_51 rfl rfl (by omega) (by omega) (by first | rfl | omega)) ?_
   refine Run.y (.agg #[sv (x.word), .int .i64 (x.g3.1), .int .i64 (x.g3.2.1), .int .i64 (x.g3.2.2), .int .i64 (x.num), sv (x.nm), .slice Aq (x.ar.length) cq]) rfl (OpY.loadN (cs := [sv (x.word), .int .i64 (x.g3.1), .int .i64 (x.g3.2.1), .int .i64 (x.g3.2.2), .int .i64 (x.num), sv (x.nm), .slice Aq (x.ar.length) cq]) Tagg_77 rfl (Cells.arg (k := k * 7) ha rfl (by omega) (rls_preF (k := k) (by omega) hx hq))) ?_
   refine Run.step rfl (OpStep.alloc (zs := [sv ([]), .int .i64 0, .int .i64 0, .int .i64 0, .int .i64 0, sv ([]), .slice none 0 0]) Tzero_77 fun b1 => ?_)
   refine Run.p (.int .i64 (((k : Nat) : Int))) rfl rfl ?_
   refine Run.step rfl (OpStep.storeAll (us := [sv (x.word), .int .i64 (x.g3.1), .int .i64 (x.g3.2.1), .int .i64 (x.g3.2.2), .int .i64 (x.num), sv (x.nm), .slice Aq (x.ar.length) cq]) Tsize_77 rfl rfl rfl (.here _) rfl ?_)
   refine Run.done ?_
   refine Run.seq ?_
   refine Run.sr ?_
   refine Run.y (.pointer (some ⟨b1, 0, none⟩)) rfl (OpY.fieldAddr Tfo_77_0 rfl rfl) ?_
   refine Run.y (sv (x.word)) rfl (OpY.load1 Tone_9 rfl (Cells.blk (.head _) ⟨rfl, trivial⟩)) ?_
   refine Run.done ?_
   refine Run.block ?_
   refine Run.sr ?_
   refine Run.y (.bool ((x.word) == wE)) rfl (OpY.eqS rfl rfl) ?_
   refine Run.p (.bool ((x.word) == wE)) rfl rfl ?_
   refine Run.done ?_
   refine Run.cond (b := (x.word) == wE) rfl (fun h19 => ?_) (fun h19 => ?_)
   ·have p19 := h19; try simp only [bs] at p19
    have hk1 : 1 ≤ k := k1_of hq0 hxX p19 (by decide)
    replace hgo := hgo hk1
    rw [drop_li (by omega), show X.getD k .cl = x from hxX, fbGo, if_pos p19] at hgo
    refine Run.seq ?_
    refine Run.sr ?_
    refine Run.p (vo) rfl rfl ?_
    refine Run.formOwn (.tail _ (List.Mem.head _)) (fun A_vo1 c_vo1 hv hcapc_vo1 hmaxc_vo1 => ?_) (fun _ _ _ => ⟨nofun, nofun, nofun⟩)
    subst hv
    refine Run.y (.int .i64 (((os.length : Nat) : Int))) rfl (OpY.len Tsl_75 rfl) ?_
    refine Run.p (.bool ((((os.length : Nat) : Int)) == 0)) rfl rfl ?_
    refine Run.done ?_
    refine Run.cond (b := (((os.length : Nat) : Int)) == 0) rfl (fun h23 => ?_) (fun h23 => ?_)
    ·have p23 := h23; try simp only [bs] at p23
     rw [if_pos (by rw [List.length_map]; omega)] at hgo
     refine Run.sr ?_
     refine Run.p (.int .i64 (((k : Nat) : Int))) rfl rfl ?_
     refine Run.y (.int .i64 ((((k : Nat) : Int)) + 1)) rfl (OpY.add rfl rfl rfl (by omega) (by omega)) ?_
     refine Run.p (.int .i64 ((((k : Nat) : Int)) + 1)) rfl rfl ?_
     refine Run.done ?_
     refine Run.ret ?_
     refine ⟨.int .i64 ((((k : Nat) : Int)) + 1), [], Out.one rfl rfl, (Some'.weak (.nil _)), ?_⟩
     first | exact congrArg _ hgo | (refine congrArg _ (Eq.trans ?_ hgo); first | (rw [up_last (by omega)]; done) | (rw [List.length_eq_zero_iff.1 (by omega : os.length = 0)]; rfl))
    ·have p23 := h23; try simp only [bs] at p23
     rw [if_neg (by rw [List.length_map]; omega)] at hgo
     refine Run.skip ?_
     refine Run.sr ?_
     refine Run.p (.slice A_vo1 (os.length) c_vo1) rfl rfl ?_
     refine Run.p (.slice A_vo1 (os.length) c_vo1) rfl rfl ?_
     refine Run.y (.int .i64 (((os.length : Nat) : Int))) rfl (OpY.len Tsl_75 rfl) ?_
     refine Run.y (.int .i64 ((((os.length : Nat) : Int)) - 1)) rfl (OpY.sub rfl rfl rfl (by omega) (by omega)) ?_
     refine Run.weak (H' := [.own (.slice A_vo1 (os.length) c_vo1) 3 1 (os.length) (ints os), .blk b1 77 [sv (x.word), .int .i64 (x.g3.1), .int .i64 (x.g3.2.1), .int .i64 (x.g3.2.2), .int .i64 (x.num), sv (x.nm), .slice Aq (x.ar.length) cq]]) (Weak.selF [1]) ?_ ⟨_, _, rfl, fun _ => nofun, fun _ => nofun⟩
     refine Run.weak (H' := [.own (.slice A_vo1 ((os.length - 1)) c_vo1) 3 1 ((os.length - 1)) (ints os.dropLast), .blk b1 77 [sv (x.word), .int .i64 (x.g3.1), .int .i64 (x.g3.2.1), .int .i64 (x.g3.2.2), .int .i64 (x.num), sv (x.nm), .slice Aq (x.ar.length) cq]]) ((Weak.ownTake (m := (os.length - 1)) (by omega)).trans (Some'.weak (.takeEq (by rw [Nat.mul_one, ints_take', ← dropLast_take']) (.take (.nil _))))) ?_ ⟨_, _, rfl, fun _ => nofun, fun _ => nofun⟩
     refine Run.weak (H' := [.own (.slice A_vo1 ((os.length - 1)) c_vo1) 3 1 (os.dropLast.length) (ints os.dropLast), .blk b1 77 [sv (x.word), .int .i64 (x.g3.1), .int .i64 (x.g3.2.1), .int .i64 (x.g3.2.2), .int .i64 (x.num), sv (x.nm), .slice Aq (x.ar.length) cq]]) (Some'.weak (.takeEq (by rw [List.length_dropLast]) (.take (.nil _)))) ?_ ⟨_, _, rfl, fun _ => nofun, fun _ => nofun⟩
     refine Run.y (.slice A_vo1 (os.length - 1) c_vo1) rfl (OpY.sliceHN (h := os.length - 1) Tsl_75 rfl rfl (by omega) (by omega)) ?_
     refine Run.p (.slice A_vo1 (os.length - 1) c_vo1) rfl rfl ?_
     refine Run.done ?_
     refine Run.exit rfl ?_
     refine Run.region ?_
     refine Run.y (.int .i64 ((((k : Nat) : Int)) + 1)) rfl (OpY.add rfl rfl rfl (by omega) (by omega)) ?_
     refine Run.p (.int .i64 ((((k : Nat) : Int)) + 1)) rfl rfl ?_
     refine Run.done ?_
     refine Run.goal ⟨(by repeat (first | exact Same.refl _ _ | refine Same.put rfl ?_ | refine Same.over rfl rfl ?_)), (k + 1, os.dropLast, on, .slice A_vo1 (os.length - 1) c_vo1), ?_, ?_, ?_, ?_⟩
     ·refine ⟨by omega, by first | exact hrg | exact hrg.drop | exact hrg.app (by omega), by first | omega | (simp; omega), fun h => by omega, fun _ => ?_⟩
      first | exact bl_next hgo rfl (by simp; done) rfl | (refine bl_next hgo rfl rfl ?_; rw [show decide (0 < (os.map (· + 1)).length) = true from decide_eq_true (by rw [List.length_map]; omega), Bool.and_true]; done) | (refine bl_next hgo rfl ?_ ?_ <;> first | (simp; done) | (simp_all; done)) | exact bl_next hgo rfl (by rw [up_dropLast]) rfl | exact bl_first (by omega) (h0 (by omega))
     ·show n - (k + 1) < n - k; omega
     ·exact ⟨(by first | rfl | (congr 1; omega) | simp), (by first | rfl | (congr 1; omega) | simp), (by first | rfl | (congr 1; omega) | simp), trivial⟩
     ·exact (Some'.weak (.takeEq (by first | rfl | simp) (.nil _)))
   ·have p19 := h19; try simp only [bs] at p19
    refine Run.sr ?_
    refine Run.y (.bool ((x.word) == wD)) rfl (OpY.eqS rfl rfl) ?_
    refine Run.p (.bool ((x.word) == wD)) rfl rfl ?_
    refine Run.done ?_
    refine Run.cond (b := (x.word) == wD) rfl (fun h31 => ?_) (fun h31 => ?_)
    ·have p31 := h31; try simp only [bs] at p31
     have hk1 : 1 ≤ k := k1_of hq0 hxX p31 (by decide)
     replace hgo := hgo hk1
     rw [drop_li (by omega), show X.getD k .cl = x from hxX, fbGo, if_neg p19, if_pos p31] at hgo
     refine Run.seq ?_
     refine Run.sr ?_
     refine Run.p (.bool on) rfl rfl ?_
     refine Run.p (.bool (!on)) rfl rfl ?_
     rcases Bool.eq_false_or_eq_true (!on) with h35 | h35
     ·refine Run.q (v := .bool true) rfl (OpQ.y (OpY.moveB rfl h35)) ?_
      have p35 := h35; try simp only [bs] at p35
      refine Run.pass rfl ?_
      refine Run.pass rfl ?_
      refine Run.pass rfl ?_
      refine Run.p (.bool true) rfl rfl ?_
      refine Run.done ?_
      refine Run.cond (b := true) rfl (fun _ => ?_) (fun h => nomatch h)
      refine Run.seq ?_
      rw [if_pos (by first | exact .inl (by rw [List.length_map]; omega) | exact .inr (by simp_all))] at hgo
      refine Run.region ?_
      refine Run.p (.int .i64 (((k : Nat) : Int))) rfl rfl ?_
      refine Run.y (.int .i64 ((((k : Nat) : Int)) + 1)) rfl (OpY.add rfl rfl rfl (by omega) (by omega)) ?_
      refine Run.p (.int .i64 ((((k : Nat) : Int)) + 1)) rfl rfl ?_
      refine Run.done ?_
      refine Run.ret ?_
      refine ⟨.int .i64 ((((k : Nat) : Int)) + 1), [], Out.one rfl rfl, (Some'.weak (.nil _)), ?_⟩
      first | exact congrArg _ hgo | (refine congrArg _ (Eq.trans ?_ hgo); first | (rw [up_last (by omega)]; done) | (rw [List.length_eq_zero_iff.1 (by omega : os.length = 0)]; rfl))
     ·refine Run.q (v := .bool false) rfl (OpQ.y (OpY.moveB rfl h35)) ?_
      have p35 := h35; try simp only [bs] at p35
      refine Run.p (vo) rfl rfl ?_
      refine Run.formOwn (.tail _ (List.Mem.head _)) (fun A_vo2 c_vo2 hv hcapc_vo2 hmaxc_vo2 => ?_) (fun _ _ _ => ⟨nofun, nofun, nofun⟩)
      subst hv
      refine Run.y (.int .i64 (((os.length : Nat) : Int))) rfl (OpY.len Tsl_75 rfl) ?_
      refine Run.p (.bool (decide ((((os.length : Nat) : Int)) > 0))) rfl rfl ?_
      refine Run.p (.bool (decide ((((os.length : Nat) : Int)) > 0))) rfl rfl ?_
      refine Run.done ?_
      refine Run.cond (b := decide ((((os.length : Nat) : Int)) > 0)) rfl (fun h39 => ?_) (fun h39 => ?_)
      ·have p39 := h39; try simp only [bs] at p39
       refine Run.seq ?_
       rw [if_pos (by first | exact .inl (by rw [List.length_map]; omega) | exact .inr (by simp_all))] at hgo
       refine Run.region ?_
       refine Run.p (.int .i64 (((k : Nat) : Int))) rfl rfl ?_
       refine Run.y (.int .i64 ((((k : Nat) : Int)) + 1)) rfl (OpY.add rfl rfl rfl (by omega) (by omega)) ?_
       refine Run.p (.int .i64 ((((k : Nat) : Int)) + 1)) rfl rfl ?_
       refine Run.done ?_
       refine Run.ret ?_
       refine ⟨.int .i64 ((((k : Nat) : Int)) + 1), [], Out.one rfl rfl, (Some'.weak (.nil _)), ?_⟩
       first | exact congrArg _ hgo | (refine congrArg _ (Eq.trans ?_ hgo); first | (rw [up_last (by omega)]; done) | (rw [List.length_eq_zero_iff.1 (by omega : os.length = 0)]; rfl))
      ·have p39 := h39; try simp only [bs] at p39
       refine Run.skip ?_
       refine Run.seq ?_
       rw [if_neg (by rintro (h | h) <;> simp_all)] at hgo
       refine Run.region ?_
       refine Run.p (.slice A_vo2 (os.length) c_vo2) rfl rfl ?_
       refine Run.p (.int .i64 (((k : Nat) : Int))) rfl rfl ?_
       refine Run.step rfl (OpStep.buildSlice (us := [.int .i64 (((k : Nat) : Int))]) Tsl_75 (by decide) (by decide) ⟨rfl, [.int .i64 (((k : Nat) : Int))], _, rfl, rfl, rfl, rfl⟩ rfl fun b2 => ?_)
       refine Run.step rfl (OpStep.append (H1 := [.own (.slice (some ⟨b2, 0, none⟩) 1 1) 3 1 1 ([.int .i64 (((k : Nat) : Int))]), .blk b1 77 [sv (x.word), .int .i64 (x.g3.1), .int .i64 (x.g3.2.1), .int .i64 (x.g3.2.2), .int .i64 (x.num), sv (x.nm), .slice Aq (x.ar.length) cq]]) (H2 := []) (v := .slice A_vo2 (os.length) c_vo2) (u := .slice (some ⟨b2, 0, none⟩) 1 1) (n := os.length) (m := 1) (xs := ints os) (ys := [.int .i64 (((k : Nat) : Int))]) Tsl_75 (by decide) rfl rfl rfl rfl (fun w hs => hs.slOwn (.head _)) (by simp [Value.oneCell']) (by omega) (by simp only [maxLen]; omega) fun av1 hnav1 => ?_)
       refine Run.weak (H' := [.own (.slice (some ⟨b2, 0, none⟩) 1 1) 3 1 1 ([.int .i64 (((k : Nat) : Int))]), .blk b1 77 [sv (x.word), .int .i64 (x.g3.1), .int .i64 (x.g3.2.1), .int .i64 (x.g3.2.2), .int .i64 (x.num), sv (x.nm), .slice Aq (x.ar.length) cq], .own av1 3 1 ((os ++ [((k : Nat) : Int)]).length) (ints (os ++ [((k : Nat) : Int)]))]) (Some'.weak (.take (.take (.takeEq (by simp [ints]) (.nil _))))) ?_ ⟨_, _, rfl, fun _ => nofun, fun _ => nofun⟩
       refine Run.p (av1) rfl rfl ?_
       refine Run.done ?_
       refine Run.exit rfl ?_
       refine Run.region ?_
       refine Run.y (.int .i64 ((((k : Nat) : Int)) + 1)) rfl (OpY.add rfl rfl rfl (by omega) (by omega)) ?_
       refine Run.p (.int .i64 ((((k : Nat) : Int)) + 1)) rfl rfl ?_
       refine Run.done ?_
       refine Run.goal ⟨(by repeat (first | exact Same.refl _ _ | refine Same.put rfl ?_ | refine Same.over rfl rfl ?_)), (k + 1, (os ++ [((k : Nat) : Int)]), on, av1), ?_, ?_, ?_, ?_⟩
       ·refine ⟨by omega, by first | exact hrg | exact hrg.drop | exact hrg.app (by omega), by first | omega | (simp; omega), fun h => by omega, fun _ => ?_⟩
        first | exact bl_next hgo rfl (by simp; done) rfl | (refine bl_next hgo rfl rfl ?_; rw [show decide (0 < (os.map (· + 1)).length) = true from decide_eq_true (by rw [List.length_map]; omega), Bool.and_true]; done) | (refine bl_next hgo rfl ?_ ?_ <;> first | (simp; done) | (simp_all; done)) | exact bl_next hgo rfl (by rw [up_dropLast]) rfl | exact bl_first (by omega) (h0 (by omega))
       ·show n - (k + 1) < n - k; omega
       ·exact ⟨(by first | rfl | (congr 1; omega) | simp), (by first | rfl | (congr 1; omega) | simp), (by first | rfl | (congr 1; omega) | simp), trivial⟩
       ·exact (Some'.weak (.skip (.skip (.takeEq (by first | rfl | simp) (.nil _)))))
    ·have p31 := h31; try simp only [bs] at p31
     refine Run.sr ?_
     refine Run.y (.bool ((x.word) == wR)) rfl (OpY.eqS rfl rfl) ?_
     refine Run.p (.bool ((x.word) == wR)) rfl rfl ?_
     refine Run.done ?_
     refine Run.cond (b := (x.word) == wR) rfl (fun h46 => ?_) (fun h46 => ?_)
     ·have p46 := h46; try simp only [bs] at p46
      have hk1 : 1 ≤ k := k1_of hq0 hxX p46 (by decide)
      replace hgo := hgo hk1
      rw [drop_li (by omega), show X.getD k .cl = x from hxX, fbGo, if_neg p19, if_neg p31, if_pos p46] at hgo
      refine Run.sr ?_
      refine Run.p (.bool on) rfl rfl ?_
      rcases Bool.eq_false_or_eq_true (on) with h49 | h49
      ·refine Run.q (v := .bool true) rfl (OpQ.y (OpY.moveB rfl h49)) ?_
       have p49 := h49; try simp only [bs] at p49
       refine Run.p (vo) rfl rfl ?_
       refine Run.formOwn (.tail _ (List.Mem.head _)) (fun A_vo3 c_vo3 hv hcapc_vo3 hmaxc_vo3 => ?_) (fun _ _ _ => ⟨nofun, nofun, nofun⟩)
       subst hv
       refine Run.y (.int .i64 (((os.length : Nat) : Int))) rfl (OpY.len Tsl_75 rfl) ?_
       refine Run.p (.bool (decide ((((os.length : Nat) : Int)) > 0))) rfl rfl ?_
       refine Run.p (.bool (decide ((((os.length : Nat) : Int)) > 0))) rfl rfl ?_
       refine Run.p (.bool (decide ((((os.length : Nat) : Int)) > 0))) rfl rfl ?_
       refine Run.dsr ?_
       refine Run.p (.slice A_vo3 (os.length) c_vo3) rfl rfl ?_
       refine Run.p (.int .i64 (((k : Nat) : Int))) rfl rfl ?_
       refine Run.step rfl (OpStep.buildSlice (us := [.int .i64 (((k : Nat) : Int))]) Tsl_75 (by decide) (by decide) ⟨rfl, [.int .i64 (((k : Nat) : Int))], _, rfl, rfl, rfl, rfl⟩ rfl fun b3 => ?_)
       refine Run.step rfl (OpStep.append (H1 := [.own (.slice (some ⟨b3, 0, none⟩) 1 1) 3 1 1 ([.int .i64 (((k : Nat) : Int))]), .blk b1 77 [sv (x.word), .int .i64 (x.g3.1), .int .i64 (x.g3.2.1), .int .i64 (x.g3.2.2), .int .i64 (x.num), sv (x.nm), .slice Aq (x.ar.length) cq]]) (H2 := []) (v := .slice A_vo3 (os.length) c_vo3) (u := .slice (some ⟨b3, 0, none⟩) 1 1) (n := os.length) (m := 1) (xs := ints os) (ys := [.int .i64 (((k : Nat) : Int))]) Tsl_75 (by decide) rfl rfl rfl rfl (fun w hs => hs.slOwn (.head _)) (by simp [Value.oneCell']) (by omega) (by simp only [maxLen]; omega) fun av2 hnav2 => ?_)
       refine Run.weak (H' := [.own (.slice (some ⟨b3, 0, none⟩) 1 1) 3 1 1 ([.int .i64 (((k : Nat) : Int))]), .blk b1 77 [sv (x.word), .int .i64 (x.g3.1), .int .i64 (x.g3.2.1), .int .i64 (x.g3.2.2), .int .i64 (x.num), sv (x.nm), .slice Aq (x.ar.length) cq], .own av2 3 1 ((os ++ [((k : Nat) : Int)]).length) (ints (os ++ [((k : Nat) : Int)]))]) (Some'.weak (.take (.take (.takeEq (by simp [ints]) (.nil _))))) ?_ ⟨_, _, rfl, fun _ => nofun, fun _ => nofun⟩
       refine Run.p (av2) rfl rfl ?_
       refine Run.done ?_
       refine Run.exit rfl ?_
       refine Run.region ?_
       refine Run.y (.int .i64 ((((k : Nat) : Int)) + 1)) rfl (OpY.add rfl rfl rfl (by omega) (by omega)) ?_
       refine Run.p (.int .i64 ((((k : Nat) : Int)) + 1)) rfl rfl ?_
       refine Run.done ?_
       refine Run.goal ⟨(by repeat (first | exact Same.refl _ _ | refine Same.put rfl ?_ | refine Same.over rfl rfl ?_)), (k + 1, (os ++ [((k : Nat) : Int)]), ((decide ((((os.length : Nat) : Int)) > 0))), av2), ?_, ?_, ?_, ?_⟩
       ·refine ⟨by omega, by first | exact hrg | exact hrg.drop | exact hrg.app (by omega), by first | omega | (simp; omega), fun h => by omega, fun _ => ?_⟩
        first | exact bl_next hgo rfl (by simp; done) rfl | (refine bl_next hgo rfl rfl ?_; rw [show decide (0 < (os.map (· + 1)).length) = true from decide_eq_true (by rw [List.length_map]; omega), Bool.and_true]; done) | (refine bl_next hgo rfl ?_ ?_ <;> first | (simp; done) | (simp_all; done)) | exact bl_next hgo rfl (by rw [up_dropLast]) rfl | exact bl_first (by omega) (h0 (by omega))
       ·show n - (k + 1) < n - k; omega
       ·exact ⟨(by first | rfl | (congr 1; omega) | simp), (by first | rfl | (congr 1; omega) | simp), (by first | rfl | (congr 1; omega) | simp), trivial⟩
       ·exact (Some'.weak (.skip (.skip (.takeEq (by first | rfl | simp) (.nil _)))))
      ·refine Run.q (v := .bool false) rfl (OpQ.y (OpY.moveB rfl h49)) ?_
       have p49 := h49; try simp only [bs] at p49
       refine Run.pass rfl ?_
       refine Run.pass rfl ?_
       refine Run.pass rfl ?_
       refine Run.p (.bool false) rfl rfl ?_
       refine Run.p (.bool false) rfl rfl ?_
       refine Run.dsr ?_
       refine Run.p (vo) rfl rfl ?_
       refine Run.p (.int .i64 (((k : Nat) : Int))) rfl rfl ?_
       refine Run.step rfl (OpStep.buildSlice (us := [.int .i64 (((k : Nat) : Int))]) Tsl_75 (by decide) (by decide) ⟨rfl, [.int .i64 (((k : Nat) : Int))], _, rfl, rfl, rfl, rfl⟩ rfl fun b4 => ?_)
       refine Run.step rfl (OpStep.append (H1 := [.own (.slice (some ⟨b4, 0, none⟩) 1 1) 3 1 1 ([.int .i64 (((k : Nat) : Int))]), .blk b1 77 [sv (x.word), .int .i64 (x.g3.1), .int .i64 (x.g3.2.1), .int .i64 (x.g3.2.2), .int .i64 (x.num), sv (x.nm), .slice Aq (x.ar.length) cq]]) (H2 := []) (v := vo) (u := .slice (some ⟨b4, 0, none⟩) 1 1) (n := os.length) (m := 1) (xs := ints os) (ys := [.int .i64 (((k : Nat) : Int))]) Tsl_75 (by decide) rfl rfl rfl rfl (fun w hs => hs.slOwn (.head _)) (by simp [Value.oneCell']) (by omega) (by simp only [maxLen]; omega) fun av3 hnav3 => ?_)
       refine Run.weak (H' := [.own (.slice (some ⟨b4, 0, none⟩) 1 1) 3 1 1 ([.int .i64 (((k : Nat) : Int))]), .blk b1 77 [sv (x.word), .int .i64 (x.g3.1), .int .i64 (x.g3.2.1), .int .i64 (x.g3.2.2), .int .i64 (x.num), sv (x.nm), .slice Aq (x.ar.length) cq], .own av3 3 1 ((os ++ [((k : Nat) : Int)]).length) (ints (os ++ [((k : Nat) : Int)]))]) (Some'.weak (.take (.take (.takeEq (by simp [ints]) (.nil _))))) ?_ ⟨_, _, rfl, fun _ => nofun, fun _ => nofun⟩
       refine Run.p (av3) rfl rfl ?_
       refine Run.done ?_
       refine Run.exit rfl ?_
       refine Run.region ?_
       refine Run.y (.int .i64 ((((k : Nat) : Int)) + 1)) rfl (OpY.add rfl rfl rfl (by omega) (by omega)) ?_
       refine Run.p (.int .i64 ((((k : Nat) : Int)) + 1)) rfl rfl ?_
       refine Run.done ?_
       refine Run.goal ⟨(by repeat (first | exact Same.refl _ _ | refine Same.put rfl ?_ | refine Same.over rfl rfl ?_)), (k + 1, (os ++ [((k : Nat) : Int)]), false, av3), ?_, ?_, ?_, ?_⟩
       ·refine ⟨by omega, by first | exact hrg | exact hrg.drop | exact hrg.app (by omega), by first | omega | (simp; omega), fun h => by omega, fun _ => ?_⟩
        first | exact bl_next hgo rfl (by simp; done) rfl | (refine bl_next hgo rfl rfl ?_; rw [show decide (0 < (os.map (· + 1)).length) = true from decide_eq_true (by rw [List.length_map]; omega), Bool.and_true]; done) | (refine bl_next hgo rfl ?_ ?_ <;> first | (simp; done) | (simp_all; done)) | exact bl_next hgo rfl (by rw [up_dropLast]) rfl | exact bl_first (by omega) (h0 (by omega))
       ·show n - (k + 1) < n - k; omega
       ·exact ⟨(by first | rfl | (congr 1; omega) | simp), (by first | rfl | (congr 1; omega) | simp), (by first | rfl | (congr 1; omega) | simp), trivial⟩
       ·exact (Some'.weak (.skip (.skip (.takeEq (by first | rfl | simp) (.nil _)))))
     ·have p46 := h46; try simp only [bs] at p46
      refine Run.skip ?_
      refine Run.blockEnd ?_
      refine Run.sr ?_
      refine Run.p (.int .i64 (((k : Nat) : Int))) rfl rfl ?_
      refine Run.p (.bool (decide ((((k : Nat) : Int)) > 0))) rfl rfl ?_
      rcases Bool.eq_false_or_eq_true (decide ((((k : Nat) : Int)) > 0)) with h60 | h60
      ·refine Run.q (v := .bool true) rfl (OpQ.y (OpY.moveB rfl h60)) ?_
       have p60 := h60; try simp only [bs] at p60
       have hk1 : 1 ≤ k := by omega
       replace hgo := hgo hk1
       rw [drop_li (by omega), show X.getD k .cl = x from hxX, fbGo, if_neg p19, if_neg p31, if_neg p46] at hgo
       refine Run.p (vo) rfl rfl ?_
       refine Run.formOwn (.tail _ (List.Mem.head _)) (fun A_vo4 c_vo4 hv hcapc_vo4 hmaxc_vo4 => ?_) (fun _ _ _ => ⟨nofun, nofun, nofun⟩)
       subst hv
       refine Run.y (.int .i64 (((os.length : Nat) : Int))) rfl (OpY.len Tsl_75 rfl) ?_
       refine Run.p (.bool ((((os.length : Nat) : Int)) == 0)) rfl rfl ?_
       refine Run.p (.bool ((((os.length : Nat) : Int)) == 0)) rfl rfl ?_
       refine Run.done ?_
       refine Run.cond (b := (((os.length : Nat) : Int)) == 0) rfl (fun h64 => ?_) (fun h64 => ?_)
       ·have p64 := h64; try simp only [bs] at p64
        refine Run.region ?_
        refine Run.p (.bool false) rfl rfl ?_
        refine Run.done ?_
        refine Run.blockEnd ?_
        refine Run.region ?_
        refine Run.y (.int .i64 ((((k : Nat) : Int)) + 1)) rfl (OpY.add rfl rfl rfl (by omega) (by omega)) ?_
        refine Run.p (.int .i64 ((((k : Nat) : Int)) + 1)) rfl rfl ?_
        refine Run.done ?_
        refine Run.goal ⟨(by repeat (first | exact Same.refl _ _ | refine Same.put rfl ?_ | refine Same.over rfl rfl ?_)), (k + 1, os, false, .slice A_vo4 (os.length) c_vo4), ?_, ?_, ?_, ?_⟩
        ·refine ⟨by omega, by first | exact hrg | exact hrg.drop | exact hrg.app (by omega), by first | omega | (simp; omega), fun h => by omega, fun _ => ?_⟩
         first | exact bl_next hgo rfl (by simp; done) rfl | (refine bl_next hgo rfl rfl ?_; rw [show decide (0 < (os.map (· + 1)).length) = true from decide_eq_true (by rw [List.length_map]; omega), Bool.and_true]; done) | (refine bl_next hgo rfl ?_ ?_ <;> first | (simp; done) | (simp_all; done)) | exact bl_next hgo rfl (by rw [up_dropLast]) rfl | exact bl_first (by omega) (h0 (by omega))
        ·show n - (k + 1) < n - k; omega
        ·exact ⟨(by first | rfl | (congr 1; omega) | simp), (by first | rfl | (congr 1; omega) | simp), (by first | rfl | (congr 1; omega) | simp), trivial⟩
        ·exact (Some'.weak (.skip (.takeEq (by first | rfl | simp) (.nil _))))
       ·have p64 := h64; try simp only [bs] at p64
        refine Run.skip ?_
        refine Run.blockEnd ?_
        refine Run.region ?_
        refine Run.y (.int .i64 ((((k : Nat) : Int)) + 1)) rfl (OpY.add rfl rfl rfl (by omega) (by omega)) ?_
        refine Run.p (.int .i64 ((((k : Nat) : Int)) + 1)) rfl rfl ?_
        refine Run.done ?_
        refine Run.goal ⟨(by repeat (first | exact Same.refl _ _ | refine Same.put rfl ?_ | refine Same.over rfl rfl ?_)), (k + 1, os, on, .slice A_vo4 (os.length) c_vo4), ?_, ?_, ?_, ?_⟩
        ·refine ⟨by omega, by first | exact hrg | exact hrg.drop | exact hrg.app (by omega), by first | omega | (simp; omega), fun h => by omega, fun _ => ?_⟩
         first | exact bl_next hgo rfl (by simp; done) rfl | (refine bl_next hgo rfl rfl ?_; rw [show decide (0 < (os.map (· + 1)).length) = true from decide_eq_true (by rw [List.length_map]; omega), Bool.and_true]; done) | (refine bl_next hgo rfl ?_ ?_ <;> first | (simp; done) | (simp_all; done)) | exact bl_next hgo rfl (by rw [up_dropLast]) rfl | exact bl_first (by omega) (h0 (by omega))
        ·show n - (k + 1) < n - k; omega
        ·exact ⟨(by first | rfl | (congr 1; omega) | simp), (by first | rfl | (congr 1; omega) | simp), (by first | rfl | (congr 1; omega) | simp), trivial⟩
        ·exact (Some'.weak (.skip (.takeEq (by first | rfl | simp) (.nil _))))
      ·refine Run.q (v := .bool false) rfl (OpQ.y (OpY.moveB rfl h60)) ?_
       have p60 := h60; try simp only [bs] at p60
       refine Run.pass rfl ?_
       refine Run.pass rfl ?_
       refine Run.pass rfl ?_
       refine Run.p (.bool false) rfl rfl ?_
       refine Run.done ?_
       refine Run.cond (b := false) rfl (fun h => nomatch h) (fun _ => ?_)
       refine Run.skip ?_
       refine Run.blockEnd ?_
       refine Run.region ?_
       refine Run.y (.int .i64 ((((k : Nat) : Int)) + 1)) rfl (OpY.add rfl rfl rfl (by omega) (by omega)) ?_
       refine Run.p (.int .i64 ((((k : Nat) : Int)) + 1)) rfl rfl ?_
       refine Run.done ?_
       refine Run.goal ⟨(by repeat (first | exact Same.refl _ _ | refine Same.put rfl ?_ | refine Same.over rfl rfl ?_)), (k + 1, os, on, vo), ?_, ?_, ?_, ?_⟩
       ·refine ⟨by omega, by first | exact hrg | exact hrg.drop | exact hrg.app (by omega), by first | omega | (simp; omega), fun h => by omega, fun _ => ?_⟩
        first | exact bl_next hgo rfl (by simp; done) rfl | (refine bl_next hgo rfl rfl ?_; rw [show decide (0 < (os.map (· + 1)).length) = true from decide_eq_true (by rw [List.length_map]; omega), Bool.and_true]; done) | (refine bl_next hgo rfl ?_ ?_ <;> first | (simp; done) | (simp_all; done)) | exact bl_next hgo rfl (by rw [up_dropLast]) rfl | exact bl_first (by omega) (h0 (by omega))
       ·show n - (k + 1) < n - k; omega
       ·exact ⟨(by first | rfl | (congr 1; omega) | simp), (by first | rfl | (congr 1; omega) | simp), (by first | rfl | (congr 1; omega) | simp), trivial⟩
       ·exact (Some'.weak (.skip (.takeEq (by first | rfl | simp) (.nil _))))
  ·have p13 := h13; try simp only [bs] at p13
   have hkn : k = n := by omega
   obtain ⟨hk, hrg, hst, h0, hgo⟩ := hinv
   replace hgo := hgo (by omega)
   rw [List.drop_eq_nil_iff.2 (by omega), fbGo] at hgo
   refine Run.exit rfl ?_
   refine Run.seq ?_
   refine Run.sr ?_
   refine Run.p (vo) rfl rfl ?_
   refine Run.formOwn (.head _) (fun A_vo5 c_vo5 hv hcapc_vo5 hmaxc_vo5 => ?_) (fun _ _ _ => ⟨nofun, nofun, nofun⟩)
   subst hv
   refine Run.y (.int .i64 (((os.length : Nat) : Int))) rfl (OpY.len Tsl_75 rfl) ?_
   refine Run.p (.bool (decide ((((os.length : Nat) : Int)) > 0))) rfl rfl ?_
   refine Run.done ?_
   refine Run.cond (b := decide ((((os.length : Nat) : Int)) > 0)) rfl (fun h68 => ?_) (fun h68 => ?_)
   ·have p68 := h68; try simp only [bs] at p68
    have hix := hrg.at_ (i := os.length - 1) (by omega)
    refine Run.openOwn (.head _) (by omega) (fun gs cgs hvgs hcapgs _ => ?_) (fun _ _ _ => ⟨nofun, nofun, nofun⟩)
    injection hvgs with hAgs _ hcgs; subst hAgs; subst hcgs
    refine Run.sr ?_
    refine Run.p (.slice (some ⟨gs, 0, none⟩) (os.length) c_vo5) rfl rfl ?_
    refine Run.p (.slice (some ⟨gs, 0, none⟩) (os.length) c_vo5) rfl rfl ?_
    refine Run.y (.int .i64 (((os.length : Nat) : Int))) rfl (OpY.len Tsl_75 rfl) ?_
    refine Run.y (.int .i64 ((((os.length : Nat) : Int)) - 1)) rfl (OpY.sub rfl rfl rfl (by omega) (by omega)) ?_
    refine Run.y (.pointer (some ⟨gs, os.length - 1, none⟩)) rfl (OpY.index (kk := os.length - 1) Tsl_75 rfl rfl (by omega) (by omega) (by first | rfl | omega)) ?_
    refine Run.y (.int .i64 (ix os (os.length - 1))) rfl (OpY.load1 Tone_3 rfl (Cells.own0 (.head _) (pre1 (by omega)))) ?_
    refine Run.y (.int .i64 ((ix os (os.length - 1)) + 1)) rfl (OpY.add rfl rfl rfl (by omega) (by omega)) ?_
    refine Run.p (.int .i64 ((ix os (os.length - 1)) + 1)) rfl rfl ?_
    refine Run.done ?_
    refine Run.ret ?_
    refine ⟨.int .i64 ((ix os (os.length - 1)) + 1), [], Out.one rfl rfl, (Some'.weak (.nil _)), ?_⟩
    first | exact congrArg _ hgo | (refine congrArg _ (Eq.trans ?_ hgo); first | (rw [up_last (by omega)]; done) | (rw [List.length_eq_zero_iff.1 (by omega : os.length = 0)]; rfl))
   ·have p68 := h68; try simp only [bs] at p68
    refine Run.skip ?_
    refine Run.sr ?_
    refine Run.p (.int .i64 0) rfl rfl ?_
    refine Run.done ?_
    refine Run.ret ?_
    refine ⟨.int .i64 0, [], Out.one rfl rfl, (Some'.weak (.nil _)), ?_⟩
    first | exact congrArg _ hgo | (refine congrArg _ (Eq.trans ?_ hgo); first | (rw [up_last (by omega)]; done) | (rw [List.length_eq_zero_iff.1 (by omega : os.length = 0)]; rfl))

end Go.Proofs.YtgpkpopbajkklaaGreatDoor
/- Walks: the reference finds the definitions of a circuit text. -/
set_option linter.unusedSimpArgs false
set_option linter.unusedVariables false
namespace Go.Proofs.YtgpkpopbajkklaaGreatDoor
open Go Go.RowKit
namespace TxqT
theorem Tagg_50 : aggOf Tryz.prog 50 = some 4 := by kernel_rfl
theorem Tagg_77 : aggOf Tryz.prog 77 = some 7 := by kernel_rfl
theorem Tfo_50_0 : fieldOff Tryz.prog 50 0 = some 0 := by kernel_rfl
theorem Tfo_50_1 : fieldOff Tryz.prog 50 1 = some 1 := by kernel_rfl
theorem Tfo_50_2 : fieldOff Tryz.prog 50 2 = some 2 := by kernel_rfl
theorem Tfo_50_3 : fieldOff Tryz.prog 50 3 = some 3 := by kernel_rfl
theorem Tfo_54_0 : fieldOff Tryz.prog 54 0 = some 0 := by kernel_rfl
theorem Tfo_77_0 : fieldOff Tryz.prog 77 0 = some 0 := by kernel_rfl
theorem Tfo_77_2 : fieldOff Tryz.prog 77 2 = some 4 := by kernel_rfl
theorem Tfo_77_3 : fieldOff Tryz.prog 77 3 = some 5 := by kernel_rfl
theorem Tone_3 : oneOf Tryz.prog 3 = true := by kernel_rfl
theorem Tone_51 : oneOf Tryz.prog 51 = true := by kernel_rfl
theorem Tone_9 : oneOf Tryz.prog 9 = true := by kernel_rfl
theorem Tsize_3 : (Tryz.prog.info? 3).map (·.size) = some 1 := by kernel_rfl
theorem Tsize_50 : (Tryz.prog.info? 50).map (·.size) = some 4 := by kernel_rfl
theorem Tsize_77 : (Tryz.prog.info? 77).map (·.size) = some 7 := by kernel_rfl
theorem Tsl_46 : sliceOf Tryz.prog 46 = some (50, 4, 40, [sv ([]), .int .i64 0, .int .i64 0, .int .i64 0]) := by kernel_rfl
theorem Tsl_51 : sliceOf Tryz.prog 51 = some (77, 7, 88, [sv ([]), .int .i64 0, .int .i64 0, .int .i64 0, .int .i64 0, sv ([]), .slice none 0 0]) := by kernel_rfl
theorem Tzero_50 : zeroOf Tryz.prog 50 = some [sv ([]), .int .i64 0, .int .i64 0, .int .i64 0] := by kernel_rfl
theorem Tzero_77 : zeroOf Tryz.prog 77 = some [sv ([]), .int .i64 0, .int .i64 0, .int .i64 0, .int .i64 0, sv ([]), .slice none 0 0] := by kernel_rfl
end TxqT
open TxqT
/-- A definition: its name, its qubits, its first line and the line that closes it. -/
structure Dn where
  nm : Bs
  n : Int
  a : Int
  z : Int
def dne (d : Dn) : List Value := [sv d.nm, .int .i64 d.n, .int .i64 d.a, .int .i64 d.z]
def dns (L : List Dn) : List Value := L.flatMap dne
def dnx (L : List Dn) (k : Nat) : Dn := L.getD k ⟨[], 0, 0, 0⟩
theorem dne_len (d : Dn) : (dne d).length = 4 := rfl
@[simp] theorem dns_length (L : List Dn) : (dns L).length = L.length * 4 := flat_len dne_len L
theorem dns_pre {L : List Dn} {k : Nat} (hk : k < L.length) (c j : Nat) (h : j + c ≤ 4) : Pre (dns L) (k * 4 + j) (((dne (dnx L k)).drop j).take c) := flat_pre dne_len _ hk c j h
theorem dns_pre0 {L : List Dn} {k : Nat} (hk : k < L.length) : Pre (dns L) (k * 4) [sv (dnx L k).nm, .int .i64 (dnx L k).n, .int .i64 (dnx L k).a, .int .i64 (dnx L k).z] := dns_pre hk 4 0 (by decide)
theorem dns_preZ {L : List Dn} {k : Nat} (hk : k < L.length) : Pre (dns L) (k * 4 + 3) [.int .i64 (dnx L k).z] := dns_pre hk 1 3 (by decide)
theorem dns_preN {L : List Dn} {k : Nat} (hk : k < L.length) : Pre (dns L) (k * 4 + 1) [.int .i64 (dnx L k).n] := dns_pre hk 1 1 (by decide)
/-- The last definition gets its end. -/
def setZ (L : List Dn) (i : Int) : List Dn := L.set (L.length - 1) { dnx L (L.length - 1) with z := i }
@[simp] theorem setZ_length (L : List Dn) (i : Int) : (setZ L i).length = L.length := by simp [setZ]
theorem setZ_snoc (M : List Dn) (d : Dn) (i : Int) : setZ (M ++ [d]) i = M ++ [{ d with z := i }] := by
  simp [setZ, dnx, List.getD]
theorem dns_setZ {L : List Dn} (h : 0 < L.length) (i : Int) : spl (dns L) ((L.length - 1) * 4 + 3) [.int .i64 i] = dns (setZ L i) := by
  show (dns L).set _ _ = _
  rcases List.eq_nil_or_concat L with rfl | ⟨M, d, rfl⟩
  · simp at h
  · rw [List.concat_eq_append, setZ_snoc]
    have e1 : dns (M ++ [d]) = dns M ++ dne d := by simp [dns]
    have e2 : dns (M ++ [{ d with z := i }]) = dns M ++ dne { d with z := i } := by simp [dns]
    rw [e1, e2, List.set_append_right _ _ (by rw [dns_length]; simp)]
    congr 1
    rw [dns_length]
    have : (M ++ [d]).length - 1 = M.length := by simp
    rw [this, show M.length * 4 + 3 - M.length * 4 = 3 by omega]
    rfl
/-- What a line does to the definitions that were found, and to the depth of blocks. -/
def dfStep (x : Li) (i : Int) (s : List Dn × Int) : List Dn × Int :=
  if x.word = wD then (s.1 ++ [⟨x.nm, x.num, i + 1, 0⟩], 0)
  else if x.word = wR then (s.1, s.2 + 1)
  else if x.word = wE then (if s.2 = 0 ∧ 0 < s.1.length ∧ (dnx s.1 (s.1.length - 1)).z = 0 then setZ s.1 i else s.1, s.2 - 1)
  else s
def dfT (X : List Li) : Nat → List Dn × Int
  | 0 => ([], 0)
  | k + 1 => dfStep (liAt X k) ((k : Nat) : Int) (dfT X k)
/-- The definitions of a text. -/
def dfsR (X : List Li) : List Dn := (dfT X X.length).1
theorem dfD {x : Li} {i dp : Int} {T : List Dn} (h : x.word = wD) : dfStep x i (T, dp) = (T ++ [⟨x.nm, x.num, i + 1, 0⟩], 0) := by rw [dfStep, if_pos h]
theorem dfR {x : Li} {i dp : Int} {T : List Dn} (h : x.word = wR) : dfStep x i (T, dp) = (T, dp + 1) := by rw [dfStep, if_neg (by rw [h]; decide), if_pos h]
theorem dfE1 {x : Li} {i dp : Int} {T : List Dn} (h : x.word = wE) (h1 : dp = 0) (h2 : 0 < ((T.length : Nat) : Int)) (h3 : (dnx T (T.length - 1)).z = 0) : dfStep x i (T, dp) = (setZ T i, dp - 1) := by rw [dfStep, if_neg (by rw [h]; decide), if_neg (by rw [h]; decide), if_pos h, if_pos ⟨h1, show 0 < T.length by omega, h3⟩]
theorem dfE0 {x : Li} {i dp : Int} {T : List Dn} (h : x.word = wE) (hc : ¬ (dp = 0 ∧ 0 < T.length ∧ (dnx T (T.length - 1)).z = 0)) : dfStep x i (T, dp) = (T, dp - 1) := by rw [dfStep, if_neg (by rw [h]; decide), if_neg (by rw [h]; decide), if_pos h, if_neg hc]
theorem dfN {x : Li} {i dp : Int} {T : List Dn} (h : ¬ x.word = wD) (h1 : ¬ x.word = wR) (h2 : ¬ x.word = wE) : dfStep x i (T, dp) = (T, dp) := by rw [dfStep, if_neg h, if_neg h1, if_neg h2]
theorem dfT_len (X : List Li) : ∀ k, (dfT X k).1.length ≤ k ∧ -((k : Nat) : Int) ≤ (dfT X k).2 ∧ (dfT X k).2 ≤ k
  | 0 => ⟨Nat.le_refl _, by simp [dfT], by simp [dfT]⟩
  | k + 1 => by
    have h := dfT_len X k
    rw [dfT, dfStep]
    split
    · simp; omega
    · split
      · simp; omega
      · split
        · dsimp only; split
          · rw [setZ_length]; omega
          · omega
        · omega
/-- The definition of a name that ends before a line. -/
def finR (T : List Dn) (nm : Bs) (i : Int) : Int := findI (fun k => (dnx T k).nm == nm && decide ((dnx T k).z < i)) T.length
/-- The qubits at a line. -/
def widR (T : List Dn) (X : List Li) (i : Int) : Int :=
  if 0 ≤ findI (fun k => decide ((dnx T k).a ≤ i) && decide (i < (dnx T k).z)) T.length then (dnx T (findI (fun k => decide ((dnx T k).a ≤ i) && decide (i < (dnx T k).z)) T.length).toNat).n else (liAt X 0).num
def dpS (x : Li) (d : Int) : Int := if x.word = wR ∨ x.word = wD then d + 1 else if x.word = wE then d - 1 else d
/-- The line that closes a block. -/
def endD : List Li → Nat → Int → Nat
  | [], k, _ => k
  | x :: r, k, d => if dpS x d = 0 then k else endD r (k + 1) (dpS x d)
def endX (X : List Li) (i : Nat) : Nat := endD (X.drop i) i 0
theorem endD_at {X : List Li} {k : Nat} {x : Li} {d : Int} (hk : k < X.length) (hx : liAt X k = x) : endD (X.drop k) k d = if dpS x d = 0 then k else endD (X.drop (k + 1)) (k + 1) (dpS x d) := by
  rw [drop_li hk, show X.getD k .cl = x from hx, endD]
theorem endD_end {X : List Li} {k : Nat} {d : Int} (hk : k = X.length) : endD (X.drop k) k d = k := by rw [List.drop_eq_nil_iff.2 (by omega), endD]
theorem dpS_up {x : Li} {d : Int} (h : x.word = wR ∨ x.word = wD) : dpS x d = d + 1 := if_pos h
theorem dpS_dn {x : Li} {d : Int} (h : x.word = wE) : dpS x d = d - 1 := by rw [dpS, if_neg (by rw [h]; decide), if_pos h]
theorem dpS_no {x : Li} {d : Int} (h : ¬ x.word = wR) (h1 : ¬ x.word = wD) (h2 : ¬ x.word = wE) : dpS x d = d := by rw [dpS, if_neg (fun e => e.elim h h1), if_neg h2]

set_option maxHeartbeats 8000000 in
set_option maxRecDepth 20000 in
theorem defs_spec {r n : Nat} {va vd : Value} {L : List LV} {w : World} (hr : Sl w (.slice (some ⟨r, 0, none⟩) 1 1) 2 1 [va, vd]) (ha : Sl w va 7 n (rls L)) (hA : RQ w L) (hn16 : n ≤ 16777216) : Calls Tryz.prog 52 #[.pointer (some ⟨r, 0, none⟩)] w (Post No w fun v H => H = [.own v 50 4 (dfsR (L.map (·.1))).length (dns (dfsR (L.map (·.1))))]) := by
 have hLn : L.length = n := by have := ha.1; simp at this; omega
 have hn := ha.le
 obtain ⟨A, c, rfl, hnc, _⟩ := ha.form0
 obtain ⟨X, hX⟩ : ∃ X, L.map (·.1) = X := ⟨_, rfl⟩
 have hXl : X.length = n := by rw [← hX, List.length_map]; exact hLn
 rw [hX]
 refine enter (n := 66) (args := [.pointer (some ⟨r, 0, none⟩)]) Tryz.func52 rfl rfl (St.empty _ _) ?_
 refine Run.sr ?_
 refine Run.p (.slice none 0 0) rfl rfl ?_
 refine Run.dsr ?_
 refine Run.p (.slice none 0 0) rfl rfl ?_
 refine Run.dsr ?_
 refine Run.p (.int .i64 0) rfl rfl ?_
 refine Run.done ?_
 refine Run.seq ?_
 refine Run.seq ?_
 refine Run.weak (H' := [.own (.slice none 0 0) 50 4 0 (dns [])]) (Weak.nilOwn _ _) ?_ ⟨_, _, rfl, fun _ => nofun, fun _ => nofun⟩
 refine Run.region ?_
 refine Run.p (.pointer (some ⟨r, 0, none⟩)) rfl rfl ?_
 refine Run.y (.pointer (some ⟨r, 0, none⟩)) rfl (OpY.nilCheck rfl) ?_
 refine Run.y (.pointer (some ⟨r, 0, none⟩)) rfl (OpY.fieldAddr Tfo_54_0 rfl rfl) ?_
 refine Run.y (.slice A n c) rfl (OpY.load1 Tone_51 rfl (Cells.env (k := 0) hr rfl (by decide) ⟨rfl, trivial⟩)) ?_
 refine Run.y (.int .i64 (((n : Nat) : Int))) rfl (OpY.len Tsl_51 rfl) ?_
 refine Run.p (.int .i64 0) rfl rfl ?_
 refine Run.done ?_
 refine Run.block ?_
 refine Run.loop (ι := Nat × List Dn × Int × Value) ([3, 4, 5, 6, 12, 13, 14, 15, 16, 17, 18, 19, 20, 21, 22, 23, 24, 25, 26, 27, 28, 29, 30, 31, 32, 33, 34, 35, 36, 37, 38, 39, 40, 41, 42, 43, 44, 45, 46, 47, 48, 49, 50, 51, 52, 53, 54, 55, 56, 57] ++ [58, 59, 60, 61, 62, 63, 64]) (fun ⟨k, T, dp, vo⟩ => [(3, vo), (4, .int .i64 dp), (12, .int .i64 (((k : Nat) : Int)))]) (fun ⟨k, T, dp, vo⟩ => [.own vo 50 4 (T.length) (dns T)]) (fun ⟨k, T, dp, vo⟩ => k ≤ n ∧ dfT X k = (T, dp)) (fun ⟨k, T, dp, vo⟩ => n - k) (0, [], 0, .slice none 0 0) ?_ ?_ ?_ ?_
 ·exact ⟨Nat.zero_le _, rfl⟩
 ·exact ⟨rfl, rfl, rfl, trivial⟩
 ·exact (Some'.weak (.takeEq (by first | rfl | simp) (.nil _)))
 ·rintro ⟨k, T, dp, vo⟩ fr hinv
  show Run _ _ (over _ _ [(3, vo), (4, .int .i64 dp), (12, .int .i64 (((k : Nat) : Int)))] fr) [.own vo 50 4 (T.length) (dns T)]
  try dsimp only at hinv
  refine Run.sr ?_
  refine Run.p (.bool (decide ((((k : Nat) : Int)) < (((n : Nat) : Int))))) rfl rfl ?_
  refine Run.done ?_
  refine Run.seq ?_
  refine Run.cond (b := decide ((((k : Nat) : Int)) < (((n : Nat) : Int)))) rfl (fun h13 => ?_) (fun h13 => ?_)
  ·have p13 := h13; try simp only [bs] at p13
   have hltk : k < n := by omega
   obtain ⟨hk, hdf⟩ := hinv
   have hTb := dfT_len X k
   rw [hdf] at hTb
   simp only at hTb
   obtain ⟨x, hx⟩ : ∃ x, (tx L k).1 = x := ⟨_, rfl⟩
   obtain ⟨Aq, cq, hq, hqc, _⟩ := (hA k (by omega)).form0
   rw [hx] at hq hqc
   have hxX : liAt X k = x := by rw [← hX, ← tx_li, hx]
   obtain ⟨b, o, rfl⟩ := ha.opn (by omega)
   refine Run.skip ?_
   refine Run.seq ?_
   refine Run.block ?_
   refine Run.sr ?_
   refine Run.p (.int .i64 (((k : Nat) : Int))) rfl rfl ?_
   refine Run.y (.pointer (some ⟨b, o + k * 7, none⟩)) rfl (OpY.index (kk := k) Tsl_51 rfl rfl (by omega) (by omega) (by first | rfl | omega)) ?_
   refine Run.y (.agg #[sv (x.word), .int .i64 (x.g3.1), .int .i64 (x.g3.2.1), .int .i64 (x.g3.2.2), .int .i64 (x.num), sv (x.nm), .slice Aq (x.ar.length) cq]) rfl (OpY.loadN (cs := [sv (x.word), .int .i64 (x.g3.1), .int .i64 (x.g3.2.1), .int .i64 (x.g3.2.2), .int .i64 (x.num), sv (x.nm), .slice Aq (x.ar.length) cq]) Tagg_77 rfl (Cells.arg (k := k * 7) ha rfl (by omega) (rls_preF (k := k) (by omega) hx hq))) ?_
   refine Run.step rfl (OpStep.alloc (zs := [sv ([]), .int .i64 0, .int .i64 0, .int .i64 0, .int .i64 0, sv ([]), .slice none 0 0]) Tzero_77 fun b1 => ?_)
   refine Run.p (.int .i64 (((k : Nat) : Int))) rfl rfl ?_
   refine Run.step rfl (OpStep.storeAll (us := [sv (x.word), .int .i64 (x.g3.1), .int .i64 (x.g3.2.1), .int .i64 (x.g3.2.2), .int .i64 (x.num), sv (x.nm), .slice Aq (x.ar.length) cq]) Tsize_77 rfl rfl rfl (.here _) rfl ?_)
   refine Run.done ?_
   refine Run.seq ?_
   refine Run.sr ?_
   refine Run.y (.pointer (some ⟨b1, 0, none⟩)) rfl (OpY.fieldAddr Tfo_77_0 rfl rfl) ?_
   refine Run.y (sv (x.word)) rfl (OpY.load1 Tone_9 rfl (Cells.blk (.head _) ⟨rfl, trivial⟩)) ?_
   refine Run.y (.bool ((x.word) == wD)) rfl (OpY.eqS rfl rfl) ?_
   refine Run.done ?_
   refine Run.cond (b := (x.word) == wD) rfl (fun h19 => ?_) (fun h19 => ?_)
   ·have p19 := h19; try simp only [bs] at p19
    refine Run.sr ?_
    refine Run.p (vo) rfl rfl ?_
    refine Run.y (.pointer (some ⟨b1, 5, none⟩)) rfl (OpY.fieldAddr Tfo_77_3 rfl rfl) ?_
    refine Run.y (sv (x.nm)) rfl (OpY.load1 Tone_9 rfl (Cells.blk (.head _) ⟨rfl, trivial⟩)) ?_
    refine Run.y (.pointer (some ⟨b1, 4, none⟩)) rfl (OpY.fieldAddr Tfo_77_2 rfl rfl) ?_
    refine Run.y (.int .i64 (x.num)) rfl (OpY.load1 Tone_3 rfl (Cells.blk (.head _) ⟨rfl, trivial⟩)) ?_
    refine Run.p (.int .i64 (((k : Nat) : Int))) rfl rfl ?_
    refine Run.y (.int .i64 ((((k : Nat) : Int)) + 1)) rfl (OpY.add rfl rfl rfl (by omega) (by omega)) ?_
    refine Run.y (.agg #[sv (x.nm), .int .i64 (x.num), .int .i64 ((((k : Nat) : Int)) + 1), .int .i64 0]) rfl (OpY.build (cs := [sv (x.nm), .int .i64 (x.num), .int .i64 ((((k : Nat) : Int)) + 1), .int .i64 0]) (by kernel_rfl)) ?_
    refine Run.step rfl (OpStep.buildSlice (us := [sv (x.nm), .int .i64 (x.num), .int .i64 ((((k : Nat) : Int)) + 1), .int .i64 0]) Tsl_46 (by decide) (by decide) ⟨rfl, [sv (x.nm), .int .i64 (x.num), .int .i64 ((((k : Nat) : Int)) + 1), .int .i64 0], _, rfl, rfl, rfl, rfl⟩ rfl fun b2 => ?_)
    refine Run.step rfl (OpStep.append (H1 := [.own (.slice (some ⟨b2, 0, none⟩) 1 1) 50 4 1 ([sv (x.nm), .int .i64 (x.num), .int .i64 ((((k : Nat) : Int)) + 1), .int .i64 0]), .blk b1 77 [sv (x.word), .int .i64 (x.g3.1), .int .i64 (x.g3.2.1), .int .i64 (x.g3.2.2), .int .i64 (x.num), sv (x.nm), .slice Aq (x.ar.length) cq]]) (H2 := []) (v := vo) (u := .slice (some ⟨b2, 0, none⟩) 1 1) (n := T.length) (m := 1) (xs := dns T) (ys := [sv (x.nm), .int .i64 (x.num), .int .i64 ((((k : Nat) : Int)) + 1), .int .i64 0]) Tsl_46 (by decide) rfl rfl rfl rfl (fun w hs => hs.slOwn (.head _)) (by simp [Value.oneCell']) (by omega) (by simp only [maxLen]; omega) fun av1 hnav1 => ?_)
    refine Run.weak (H' := [.own (.slice (some ⟨b2, 0, none⟩) 1 1) 50 4 1 ([sv (x.nm), .int .i64 (x.num), .int .i64 ((((k : Nat) : Int)) + 1), .int .i64 0]), .blk b1 77 [sv (x.word), .int .i64 (x.g3.1), .int .i64 (x.g3.2.1), .int .i64 (x.g3.2.2), .int .i64 (x.num), sv (x.nm), .slice Aq (x.ar.length) cq], .own av1 50 4 ((T ++ [(⟨x.nm, x.num, ((k : Nat) : Int) + 1, 0⟩ : Dn)]).length) (dns (T ++ [(⟨x.nm, x.num, ((k : Nat) : Int) + 1, 0⟩ : Dn)]))]) (Some'.weak (.take (.take (.takeEq (by simp [dns, dne]) (.nil _))))) ?_ ⟨_, _, rfl, fun _ => nofun, fun _ => nofun⟩
    refine Run.p (av1) rfl rfl ?_
    refine Run.dr ?_
    refine Run.p (.int .i64 0) rfl rfl ?_
    refine Run.done ?_
    refine Run.seq ?_
    refine Run.sr ?_
    refine Run.y (.pointer (some ⟨b1, 0, none⟩)) rfl (OpY.fieldAddr Tfo_77_0 rfl rfl) ?_
    refine Run.y (sv (x.word)) rfl (OpY.load1 Tone_9 rfl (Cells.blk (.tail _ (List.Mem.head _)) ⟨rfl, trivial⟩)) ?_
    refine Run.y (.bool ((x.word) == wR)) rfl (OpY.eqS rfl rfl) ?_
    refine Run.done ?_
    refine Run.cond (b := (x.word) == wR) rfl (fun h32 => ?_) (fun h32 => ?_)
    ·have p32 := h32; try simp only [bs] at p32
     exact absurd (p19.symm.trans p32) (by decide) --DONE
    ·have p32 := h32; try simp only [bs] at p32
     refine Run.skip ?_
     refine Run.sr ?_
     refine Run.y (.pointer (some ⟨b1, 0, none⟩)) rfl (OpY.fieldAddr Tfo_77_0 rfl rfl) ?_
     refine Run.y (sv (x.word)) rfl (OpY.load1 Tone_9 rfl (Cells.blk (.tail _ (List.Mem.head _)) ⟨rfl, trivial⟩)) ?_
     refine Run.y (.bool ((x.word) == wE)) rfl (OpY.eqS rfl rfl) ?_
     refine Run.done ?_
     refine Run.cond (b := (x.word) == wE) rfl (fun h37 => ?_) (fun h37 => ?_)
     ·have p37 := h37; try simp only [bs] at p37
      exact absurd (p19.symm.trans p37) (by decide) --DONE
     ·have p37 := h37; try simp only [bs] at p37
      refine Run.skip ?_
      refine Run.blockEnd ?_
      refine Run.region ?_
      refine Run.y (.int .i64 ((((k : Nat) : Int)) + 1)) rfl (OpY.add rfl rfl rfl (by omega) (by omega)) ?_
      refine Run.p (.int .i64 ((((k : Nat) : Int)) + 1)) rfl rfl ?_
      refine Run.done ?_
      refine Run.goal ⟨(by repeat (first | exact Same.refl _ _ | refine Same.put rfl ?_ | refine Same.over rfl rfl ?_)), (k + 1, (T ++ [(⟨x.nm, x.num, ((k : Nat) : Int) + 1, 0⟩ : Dn)]), 0, av1), ?_, ?_, ?_, ?_⟩
      ·refine ⟨by omega, ?_⟩
       rw [dfT, hdf, hxX]
       first | exact dfD p19 | exact dfR p32 | exact dfE1 p37 p40 p45 p54 | exact dfE0 p37 (by rintro ⟨e1, e2, e3⟩; omega) | exact dfN p19 p32 p37
      ·show n - (k + 1) < n - k; omega
      ·exact ⟨(by first | rfl | (congr 1; omega) | simp), (by first | rfl | (congr 1; omega) | simp), (by first | rfl | (congr 1; omega) | simp), trivial⟩
      ·exact (Some'.weak (.skip (.skip (.takeEq (by first | rfl | simp) (.nil _)))))
   ·have p19 := h19; try simp only [bs] at p19
    refine Run.skip ?_
    refine Run.seq ?_
    refine Run.sr ?_
    refine Run.y (.pointer (some ⟨b1, 0, none⟩)) rfl (OpY.fieldAddr Tfo_77_0 rfl rfl) ?_
    refine Run.y (sv (x.word)) rfl (OpY.load1 Tone_9 rfl (Cells.blk (.head _) ⟨rfl, trivial⟩)) ?_
    refine Run.y (.bool ((x.word) == wR)) rfl (OpY.eqS rfl rfl) ?_
    refine Run.done ?_
    refine Run.cond (b := (x.word) == wR) rfl (fun h32 => ?_) (fun h32 => ?_)
    ·have p32 := h32; try simp only [bs] at p32
     refine Run.region ?_
     refine Run.p (.int .i64 dp) rfl rfl ?_
     refine Run.y (.int .i64 (dp + 1)) rfl (OpY.add rfl rfl rfl (by omega) (by omega)) ?_
     refine Run.p (.int .i64 (dp + 1)) rfl rfl ?_
     refine Run.dsr ?_
     refine Run.y (.pointer (some ⟨b1, 0, none⟩)) rfl (OpY.fieldAddr Tfo_77_0 rfl rfl) ?_
     refine Run.y (sv (x.word)) rfl (OpY.load1 Tone_9 rfl (Cells.blk (.head _) ⟨rfl, trivial⟩)) ?_
     refine Run.y (.bool ((x.word) == wE)) rfl (OpY.eqS rfl rfl) ?_
     refine Run.done ?_
     refine Run.cond (b := (x.word) == wE) rfl (fun h37 => ?_) (fun h37 => ?_)
     ·have p37 := h37; try simp only [bs] at p37
      exact absurd (p32.symm.trans p37) (by decide) --DONE
     ·have p37 := h37; try simp only [bs] at p37
      refine Run.skip ?_
      refine Run.blockEnd ?_
      refine Run.region ?_
      refine Run.y (.int .i64 ((((k : Nat) : Int)) + 1)) rfl (OpY.add rfl rfl rfl (by omega) (by omega)) ?_
      refine Run.p (.int .i64 ((((k : Nat) : Int)) + 1)) rfl rfl ?_
      refine Run.done ?_
      refine Run.goal ⟨(by repeat (first | exact Same.refl _ _ | refine Same.put rfl ?_ | refine Same.over rfl rfl ?_)), (k + 1, T, dp + 1, vo), ?_, ?_, ?_, ?_⟩
      ·refine ⟨by omega, ?_⟩
       rw [dfT, hdf, hxX]
       first | exact dfD p19 | exact dfR p32 | exact dfE1 p37 p40 p45 p54 | exact dfE0 p37 (by rintro ⟨e1, e2, e3⟩; omega) | exact dfN p19 p32 p37
      ·show n - (k + 1) < n - k; omega
      ·exact ⟨(by first | rfl | (congr 1; omega) | simp), (by first | rfl | (congr 1; omega) | simp), (by first | rfl | (congr 1; omega) | simp), trivial⟩
      ·exact (Some'.weak (.skip (.takeEq (by first | rfl | simp) (.nil _))))
    ·have p32 := h32; try simp only [bs] at p32
     refine Run.skip ?_
     refine Run.sr ?_
     refine Run.y (.pointer (some ⟨b1, 0, none⟩)) rfl (OpY.fieldAddr Tfo_77_0 rfl rfl) ?_
     refine Run.y (sv (x.word)) rfl (OpY.load1 Tone_9 rfl (Cells.blk (.head _) ⟨rfl, trivial⟩)) ?_
     refine Run.y (.bool ((x.word) == wE)) rfl (OpY.eqS rfl rfl) ?_
     refine Run.done ?_
     refine Run.cond (b := (x.word) == wE) rfl (fun h37 => ?_) (fun h37 => ?_)
     ·have p37 := h37; try simp only [bs] at p37
      refine Run.seq ?_
      refine Run.sr ?_
      refine Run.p (.int .i64 dp) rfl rfl ?_
      refine Run.p (.bool (dp == 0)) rfl rfl ?_
      rcases Bool.eq_false_or_eq_true (dp == 0) with h40 | h40
      ·refine Run.q (v := .bool true) rfl (OpQ.y (OpY.moveB rfl h40)) ?_
       have p40 := h40; try simp only [bs] at p40
       refine Run.p (vo) rfl rfl ?_
       refine Run.formOwn (.tail _ (List.Mem.head _)) (fun A_vo1 c_vo1 hv hcapc_vo1 hmaxc_vo1 => ?_) (fun _ _ _ => ⟨nofun, nofun, nofun⟩)
       subst hv
       refine Run.y (.int .i64 (((T.length : Nat) : Int))) rfl (OpY.len Tsl_46 rfl) ?_
       refine Run.p (.bool (decide ((((T.length : Nat) : Int)) > 0))) rfl rfl ?_
       refine Run.p (.bool (decide ((((T.length : Nat) : Int)) > 0))) rfl rfl ?_
       rcases Bool.eq_false_or_eq_true (decide ((((T.length : Nat) : Int)) > 0)) with h45 | h45
       ·refine Run.q (v := .bool true) rfl (OpQ.y (OpY.moveB rfl h45)) ?_
        have p45 := h45; try simp only [bs] at p45
        have hTl : 0 < T.length := by omega
        refine Run.openOwn (.tail _ (List.Mem.head _)) (by omega) (fun gt ct hvgt hcapgt _ => ?_) (fun _ _ _ => ⟨nofun, nofun, nofun⟩)
        injection hvgt with hAgt _ hcgt; subst hAgt; subst hcgt
        refine Run.p (.slice (some ⟨gt, 0, none⟩) (T.length) c_vo1) rfl rfl ?_
        refine Run.p (.slice (some ⟨gt, 0, none⟩) (T.length) c_vo1) rfl rfl ?_
        refine Run.y (.int .i64 (((T.length : Nat) : Int))) rfl (OpY.len Tsl_46 rfl) ?_
        refine Run.y (.int .i64 ((((T.length : Nat) : Int)) - 1)) rfl (OpY.sub rfl rfl rfl (by omega) (by omega)) ?_
        refine Run.y (.pointer (some ⟨gt, (T.length - 1) * 4, none⟩)) rfl (OpY.index (kk := T.length - 1) Tsl_46 rfl rfl (by omega) (by omega) (by first | rfl | omega)) ?_
        refine Run.y (.pointer (some ⟨gt, (T.length - 1) * 4 + 3, none⟩)) rfl (OpY.fieldAddr Tfo_50_3 rfl rfl) ?_
        refine Run.y (.int .i64 ((dnx T (T.length - 1)).z)) rfl (OpY.load1 Tone_3 rfl (Cells.own0 (.tail _ (List.Mem.head _)) (dns_preZ (k := T.length - 1) (by omega)))) ?_
        refine Run.p (.bool (((dnx T (T.length - 1)).z) == 0)) rfl rfl ?_
        refine Run.p (.bool (((dnx T (T.length - 1)).z) == 0)) rfl rfl ?_
        refine Run.done ?_
        refine Run.cond (b := ((dnx T (T.length - 1)).z) == 0) rfl (fun h54 => ?_) (fun h54 => ?_)
        ·have p54 := h54; try simp only [bs] at p54
         refine Run.region ?_
         refine Run.p (.slice (some ⟨gt, 0, none⟩) (T.length) c_vo1) rfl rfl ?_
         refine Run.p (.slice (some ⟨gt, 0, none⟩) (T.length) c_vo1) rfl rfl ?_
         refine Run.y (.int .i64 (((T.length : Nat) : Int))) rfl (OpY.len Tsl_46 rfl) ?_
         refine Run.y (.int .i64 ((((T.length : Nat) : Int)) - 1)) rfl (OpY.sub rfl rfl rfl (by omega) (by omega)) ?_
         refine Run.p (.int .i64 (((k : Nat) : Int))) rfl rfl ?_
         refine Run.y (.pointer (some ⟨gt, (T.length - 1) * 4, none⟩)) rfl (OpY.index (kk := T.length - 1) Tsl_46 rfl rfl (by omega) (by omega) (by first | rfl | omega)) ?_
         refine Run.y (.pointer (some ⟨gt, (T.length - 1) * 4 + 3, none⟩)) rfl (OpY.fieldAddr Tfo_50_3 rfl rfl) ?_
         refine Run.step rfl (OpStep.storeOwn (us := [.int .i64 (((k : Nat) : Int))]) Tsize_3 rfl rfl rfl rfl (by rw [dns_setZ hTl]; exact (.there _ (.here _))) (by simp only [List.length_cons, List.length_nil]; omega) ?_)
         refine Run.done ?_
         refine Run.weak (H' := [.blk b1 77 [sv (x.word), .int .i64 (x.g3.1), .int .i64 (x.g3.2.1), .int .i64 (x.g3.2.2), .int .i64 (x.num), sv (x.nm), .slice Aq (x.ar.length) cq], .own (.slice (some ⟨gt, 0, none⟩) (T.length) c_vo1) 50 4 ((setZ T ((k : Nat) : Int)).length) (dns (setZ T (((k : Nat) : Int))))]) (Some'.weak (.take (.takeEq (by rw [setZ_length]) (.nil _)))) ?_ ⟨_, _, rfl, fun _ => nofun, fun _ => nofun⟩
         refine Run.region ?_
         refine Run.p (.int .i64 dp) rfl rfl ?_
         refine Run.y (.int .i64 (dp - 1)) rfl (OpY.sub rfl rfl rfl (by omega) (by omega)) ?_
         refine Run.p (.int .i64 (dp - 1)) rfl rfl ?_
         refine Run.done ?_
         refine Run.blockEnd ?_
         refine Run.region ?_
         refine Run.y (.int .i64 ((((k : Nat) : Int)) + 1)) rfl (OpY.add rfl rfl rfl (by omega) (by omega)) ?_
         refine Run.p (.int .i64 ((((k : Nat) : Int)) + 1)) rfl rfl ?_
         refine Run.done ?_
         refine Run.goal ⟨(by repeat (first | exact Same.refl _ _ | refine Same.put rfl ?_ | refine Same.over rfl rfl ?_)), (k + 1, (setZ T (((k : Nat) : Int))), dp - 1, .slice (some ⟨gt, 0, none⟩) (T.length) c_vo1), ?_, ?_, ?_, ?_⟩
         ·refine ⟨by omega, ?_⟩
          rw [dfT, hdf, hxX]
          first | exact dfD p19 | exact dfR p32 | exact dfE1 p37 p40 p45 p54 | exact dfE0 p37 (by rintro ⟨e1, e2, e3⟩; omega) | exact dfN p19 p32 p37
         ·show n - (k + 1) < n - k; omega
         ·exact ⟨(by first | rfl | (congr 1; omega) | simp), (by first | rfl | (congr 1; omega) | simp), (by first | rfl | (congr 1; omega) | simp), trivial⟩
         ·exact (Some'.weak (.skip (.takeEq (by first | rfl | simp) (.nil _))))
        ·have p54 := h54; try simp only [bs] at p54
         refine Run.skip ?_
         refine Run.region ?_
         refine Run.p (.int .i64 dp) rfl rfl ?_
         refine Run.y (.int .i64 (dp - 1)) rfl (OpY.sub rfl rfl rfl (by omega) (by omega)) ?_
         refine Run.p (.int .i64 (dp - 1)) rfl rfl ?_
         refine Run.done ?_
         refine Run.blockEnd ?_
         refine Run.region ?_
         refine Run.y (.int .i64 ((((k : Nat) : Int)) + 1)) rfl (OpY.add rfl rfl rfl (by omega) (by omega)) ?_
         refine Run.p (.int .i64 ((((k : Nat) : Int)) + 1)) rfl rfl ?_
         refine Run.done ?_
         refine Run.goal ⟨(by repeat (first | exact Same.refl _ _ | refine Same.put rfl ?_ | refine Same.over rfl rfl ?_)), (k + 1, T, dp - 1, .slice (some ⟨gt, 0, none⟩) (T.length) c_vo1), ?_, ?_, ?_, ?_⟩
         ·refine ⟨by omega, ?_⟩
          rw [dfT, hdf, hxX]
          first | exact dfD p19 | exact dfR p32 | exact dfE1 p37 p40 p45 p54 | exact dfE0 p37 (by rintro ⟨e1, e2, e3⟩; omega) | exact dfN p19 p32 p37
         ·show n - (k + 1) < n - k; omega
         ·exact ⟨(by first | rfl | (congr 1; omega) | simp), (by first | rfl | (congr 1; omega) | simp), (by first | rfl | (congr 1; omega) | simp), trivial⟩
         ·exact (Some'.weak (.skip (.takeEq (by first | rfl | simp) (.nil _))))
       ·refine Run.q (v := .bool false) rfl (OpQ.y (OpY.moveB rfl h45)) ?_
        have p45 := h45; try simp only [bs] at p45
        refine Run.pass rfl ?_
        refine Run.pass rfl ?_
        refine Run.pass rfl ?_
        refine Run.pass rfl ?_
        refine Run.pass rfl ?_
        refine Run.pass rfl ?_
        refine Run.pass rfl ?_
        refine Run.pass rfl ?_
        refine Run.p (.bool false) rfl rfl ?_
        refine Run.done ?_
        refine Run.cond (b := false) rfl (fun h => nomatch h) (fun _ => ?_)
        refine Run.skip ?_
        refine Run.region ?_
        refine Run.p (.int .i64 dp) rfl rfl ?_
        refine Run.y (.int .i64 (dp - 1)) rfl (OpY.sub rfl rfl rfl (by omega) (by omega)) ?_
        refine Run.p (.int .i64 (dp - 1)) rfl rfl ?_
        refine Run.done ?_
        refine Run.blockEnd ?_
        refine Run.region ?_
        refine Run.y (.int .i64 ((((k : Nat) : Int)) + 1)) rfl (OpY.add rfl rfl rfl (by omega) (by omega)) ?_
        refine Run.p (.int .i64 ((((k : Nat) : Int)) + 1)) rfl rfl ?_
        refine Run.done ?_
        refine Run.goal ⟨(by repeat (first | exact Same.refl _ _ | refine Same.put rfl ?_ | refine Same.over rfl rfl ?_)), (k + 1, T, dp - 1, .slice A_vo1 (T.length) c_vo1), ?_, ?_, ?_, ?_⟩
        ·refine ⟨by omega, ?_⟩
         rw [dfT, hdf, hxX]
         first | exact dfD p19 | exact dfR p32 | exact dfE1 p37 p40 p45 p54 | exact dfE0 p37 (by rintro ⟨e1, e2, e3⟩; omega) | exact dfN p19 p32 p37
        ·show n - (k + 1) < n - k; omega
        ·exact ⟨(by first | rfl | (congr 1; omega) | simp), (by first | rfl | (congr 1; omega) | simp), (by first | rfl | (congr 1; omega) | simp), trivial⟩
        ·exact (Some'.weak (.skip (.takeEq (by first | rfl | simp) (.nil _))))
      ·refine Run.q (v := .bool false) rfl (OpQ.y (OpY.moveB rfl h40)) ?_
       have p40 := h40; try simp only [bs] at p40
       refine Run.pass rfl ?_
       refine Run.pass rfl ?_
       refine Run.pass rfl ?_
       refine Run.p (.bool false) rfl rfl ?_
       refine Run.p (.bool false) rfl rfl ?_
       refine Run.pass rfl ?_
       refine Run.pass rfl ?_
       refine Run.pass rfl ?_
       refine Run.pass rfl ?_
       refine Run.pass rfl ?_
       refine Run.pass rfl ?_
       refine Run.pass rfl ?_
       refine Run.pass rfl ?_
       refine Run.p (.bool false) rfl rfl ?_
       refine Run.done ?_
       refine Run.cond (b := false) rfl (fun h => nomatch h) (fun _ => ?_)
       refine Run.skip ?_
       refine Run.region ?_
       refine Run.p (.int .i64 dp) rfl rfl ?_
       refine Run.y (.int .i64 (dp - 1)) rfl (OpY.sub rfl rfl rfl (by omega) (by omega)) ?_
       refine Run.p (.int .i64 (dp - 1)) rfl rfl ?_
       refine Run.done ?_
       refine Run.blockEnd ?_
       refine Run.region ?_
       refine Run.y (.int .i64 ((((k : Nat) : Int)) + 1)) rfl (OpY.add rfl rfl rfl (by omega) (by omega)) ?_
       refine Run.p (.int .i64 ((((k : Nat) : Int)) + 1)) rfl rfl ?_
       refine Run.done ?_
       refine Run.goal ⟨(by repeat (first | exact Same.refl _ _ | refine Same.put rfl ?_ | refine Same.over rfl rfl ?_)), (k + 1, T, dp - 1, vo), ?_, ?_, ?_, ?_⟩
       ·refine ⟨by omega, ?_⟩
        rw [dfT, hdf, hxX]
        first | exact dfD p19 | exact dfR p32 | exact dfE1 p37 p40 p45 p54 | exact dfE0 p37 (by rintro ⟨e1, e2, e3⟩; omega) | exact dfN p19 p32 p37
       ·show n - (k + 1) < n - k; omega
       ·exact ⟨(by first | rfl | (congr 1; omega) | simp), (by first | rfl | (congr 1; omega) | simp), (by first | rfl | (congr 1; omega) | simp), trivial⟩
       ·exact (Some'.weak (.skip (.takeEq (by first | rfl | simp) (.nil _))))
     ·have p37 := h37; try simp only [bs] at p37
      refine Run.skip ?_
      refine Run.blockEnd ?_
      refine Run.region ?_
      refine Run.y (.int .i64 ((((k : Nat) : Int)) + 1)) rfl (OpY.add rfl rfl rfl (by omega) (by omega)) ?_
      refine Run.p (.int .i64 ((((k : Nat) : Int)) + 1)) rfl rfl ?_
      refine Run.done ?_
      refine Run.goal ⟨(by repeat (first | exact Same.refl _ _ | refine Same.put rfl ?_ | refine Same.over rfl rfl ?_)), (k + 1, T, dp, vo), ?_, ?_, ?_, ?_⟩
      ·refine ⟨by omega, ?_⟩
       rw [dfT, hdf, hxX]
       first | exact dfD p19 | exact dfR p32 | exact dfE1 p37 p40 p45 p54 | exact dfE0 p37 (by rintro ⟨e1, e2, e3⟩; omega) | exact dfN p19 p32 p37
      ·show n - (k + 1) < n - k; omega
      ·exact ⟨(by first | rfl | (congr 1; omega) | simp), (by first | rfl | (congr 1; omega) | simp), (by first | rfl | (congr 1; omega) | simp), trivial⟩
      ·exact (Some'.weak (.skip (.takeEq (by first | rfl | simp) (.nil _))))
  ·have p13 := h13; try simp only [bs] at p13
   obtain ⟨hk, hdf⟩ := hinv
   have hkn : k = X.length := by omega
   have hfin : T = dfsR X := by rw [dfsR, ← hkn, hdf]
   refine Run.exit rfl ?_
   refine Run.sr ?_
   refine Run.p (vo) rfl rfl ?_
   refine Run.p (vo) rfl rfl ?_
   refine Run.done ?_
   refine Run.ret ?_
   refine ⟨vo, [.own vo 50 4 ((dfsR X).length) (dns (dfsR X))], Out.one rfl rfl, (Some'.weak (.takeEq (by rw [hfin]) (.nil _))), ?_⟩
   rfl

set_option maxHeartbeats 1000000 in
set_option maxRecDepth 20000 in
theorem l5Find_spec {m : Nat} {vt : Value} {T : List Dn} {nm : Bs} {i0 : Int} {w : World} (hd : Sl w vt 4 m (dns T)) : Calls Tryz.prog 77 #[vt, sv nm, .int .i64 i0] w (Post No w fun v _ => v = .int .i64 (finR T nm i0)) := by
 have hTm : T.length = m := by have := hd.1; simp at this; omega
 have hm := hd.le
 obtain ⟨Ad, cd, rfl, hmc, _⟩ := hd.form0
 refine enter (n := 28) (args := [.slice Ad m cd, sv nm, .int .i64 i0]) Tryz.func77 rfl rfl (St.empty _ _) ?_
 refine Run.sr ?_
 refine Run.p (.int .i64 0) rfl rfl ?_
 refine Run.done ?_
 refine Run.seq ?_
 refine Run.sr ?_
 refine Run.p (.slice Ad m cd) rfl rfl ?_
 refine Run.y (.int .i64 (((m : Nat) : Int))) rfl (OpY.len Tsl_46 rfl) ?_
 refine Run.p (.int .i64 0) rfl rfl ?_
 refine Run.done ?_
 refine Run.block ?_
 refine Run.loop (ι := Nat) [6, 7, 8, 11, 12, 13, 14, 15, 16, 17, 18, 19, 20, 21, 22, 23, 24, 25, 26, 27] (fun k => [(11, .int .i64 (((k : Nat) : Int)))]) (fun k => []) (fun k => k ≤ m ∧ ∀ i, i < k → (((dnx T i).nm == nm && decide ((dnx T i).z < i0))) = false) (fun k => m - k) 0 ?_ ?_ ?_ ?_
 ·exact ⟨Nat.zero_le _, fun i hi => by omega⟩
 ·exact ⟨rfl, trivial⟩
 ·exact (Some'.weak (.nil _))
 ·rintro k fr hinv
  show Run _ _ (over _ _ [(11, .int .i64 (((k : Nat) : Int)))] fr) []
  try dsimp only at hinv
  refine Run.sr ?_
  refine Run.p (.bool (decide ((((k : Nat) : Int)) < (((m : Nat) : Int))))) rfl rfl ?_
  refine Run.done ?_
  refine Run.seq ?_
  refine Run.cond (b := decide ((((k : Nat) : Int)) < (((m : Nat) : Int)))) rfl (fun h12 => ?_) (fun h12 => ?_)
  ·have p12 := h12; try simp only [bs] at p12
   have hltk : k < m := by omega
   obtain ⟨bd, od, rfl⟩ := hd.opn (by omega)
   refine Run.skip ?_
   refine Run.seq ?_
   refine Run.block ?_
   refine Run.sr ?_
   refine Run.p (.int .i64 (((k : Nat) : Int))) rfl rfl ?_
   refine Run.y (.pointer (some ⟨bd, od + k * 4, none⟩)) rfl (OpY.index (kk := k) Tsl_46 rfl rfl (by omega) (by omega) (by first | rfl | omega)) ?_
   refine Run.y (.agg #[sv ((dnx T k).nm), .int .i64 ((dnx T k).n), .int .i64 ((dnx T k).a), .int .i64 ((dnx T k).z)]) rfl (OpY.loadN (cs := [sv ((dnx T k).nm), .int .i64 ((dnx T k).n), .int .i64 ((dnx T k).a), .int .i64 ((dnx T k).z)]) Tagg_50 rfl (Cells.arg (k := k * 4) hd rfl (by omega) (dns_pre0 (k := k) (by omega)))) ?_
   refine Run.step rfl (OpStep.alloc (zs := [sv ([]), .int .i64 0, .int .i64 0, .int .i64 0]) Tzero_50 fun b1 => ?_)
   refine Run.p (.int .i64 (((k : Nat) : Int))) rfl rfl ?_
   refine Run.step rfl (OpStep.storeAll (us := [sv ((dnx T k).nm), .int .i64 ((dnx T k).n), .int .i64 ((dnx T k).a), .int .i64 ((dnx T k).z)]) Tsize_50 rfl rfl rfl (.here _) rfl ?_)
   refine Run.dsr ?_
   refine Run.y (.pointer (some ⟨b1, 0, none⟩)) rfl (OpY.fieldAddr Tfo_50_0 rfl rfl) ?_
   refine Run.y (sv ((dnx T k).nm)) rfl (OpY.load1 Tone_9 rfl (Cells.blk (.head _) ⟨rfl, trivial⟩)) ?_
   refine Run.p (sv nm) rfl rfl ?_
   refine Run.y (.bool (((dnx T k).nm) == nm)) rfl (OpY.eqS rfl rfl) ?_
   rcases Bool.eq_false_or_eq_true (((dnx T k).nm) == nm) with h20 | h20
   ·refine Run.q (v := .bool true) rfl (OpQ.y (OpY.moveB rfl h20)) ?_
    have p20 := h20; try simp only [bs] at p20
    refine Run.y (.pointer (some ⟨b1, 3, none⟩)) rfl (OpY.fieldAddr Tfo_50_3 rfl rfl) ?_
    refine Run.y (.int .i64 ((dnx T k).z)) rfl (OpY.load1 Tone_3 rfl (Cells.blk (.head _) ⟨rfl, trivial⟩)) ?_
    refine Run.p (.int .i64 i0) rfl rfl ?_
    refine Run.p (.bool (decide (((dnx T k).z) < i0))) rfl rfl ?_
    refine Run.p (.bool (decide (((dnx T k).z) < i0))) rfl rfl ?_
    refine Run.done ?_
    refine Run.cond (b := decide (((dnx T k).z) < i0)) rfl (fun h25 => ?_) (fun h25 => ?_)
    ·have p25 := h25; try simp only [bs] at p25
     refine Run.seq ?_
     have hfd : finR T nm i0 = ((k : Nat) : Int) := by rw [finR]; exact findI_hit hinv.2 (by rw [h20, Bool.true_and]; exact h25) (by omega)
     refine Run.region ?_
     refine Run.p (.int .i64 (((k : Nat) : Int))) rfl rfl ?_
     refine Run.p (.int .i64 (((k : Nat) : Int))) rfl rfl ?_
     refine Run.done ?_
     refine Run.ret ?_
     refine ⟨.int .i64 (((k : Nat) : Int)), [], Out.one rfl rfl, (Some'.weak (.nil _)), ?_⟩
     rw [hfd]
    ·have p25 := h25; try simp only [bs] at p25
     refine Run.skip ?_
     refine Run.blockEnd ?_
     have hgood : ((dnx T k).nm == nm && decide ((dnx T k).z < i0)) = false := by first | (rw [h20, Bool.true_and]; exact h25) | (rw [h20]; rfl)
     refine Run.region ?_
     refine Run.y (.int .i64 ((((k : Nat) : Int)) + 1)) rfl (OpY.add rfl rfl rfl (by omega) (by omega)) ?_
     refine Run.p (.int .i64 ((((k : Nat) : Int)) + 1)) rfl rfl ?_
     refine Run.done ?_
     refine Run.goal ⟨(by repeat (first | exact Same.refl _ _ | refine Same.put rfl ?_ | refine Same.over rfl rfl ?_)), k + 1, ?_, ?_, ?_, ?_⟩
     ·refine ⟨by omega, ?_⟩
      intro i hi
      rcases Nat.lt_succ_iff_lt_or_eq.1 hi with h | h
      ·exact hinv.2 i h
      ·rw [h]; exact hgood
     ·omega
     ·exact ⟨(by first | rfl | (congr 1; omega) | simp), trivial⟩
     ·exact (Some'.weak (.nil _))
   ·refine Run.q (v := .bool false) rfl (OpQ.y (OpY.moveB rfl h20)) ?_
    have p20 := h20; try simp only [bs] at p20
    refine Run.pass rfl ?_
    refine Run.pass rfl ?_
    refine Run.pass rfl ?_
    refine Run.pass rfl ?_
    refine Run.p (.bool false) rfl rfl ?_
    refine Run.done ?_
    refine Run.cond (b := false) rfl (fun h => nomatch h) (fun _ => ?_)
    refine Run.skip ?_
    refine Run.blockEnd ?_
    have hgood : ((dnx T k).nm == nm && decide ((dnx T k).z < i0)) = false := by first | (rw [h20, Bool.true_and]; exact h25) | (rw [h20]; rfl)
    refine Run.region ?_
    refine Run.y (.int .i64 ((((k : Nat) : Int)) + 1)) rfl (OpY.add rfl rfl rfl (by omega) (by omega)) ?_
    refine Run.p (.int .i64 ((((k : Nat) : Int)) + 1)) rfl rfl ?_
    refine Run.done ?_
    refine Run.goal ⟨(by repeat (first | exact Same.refl _ _ | refine Same.put rfl ?_ | refine Same.over rfl rfl ?_)), k + 1, ?_, ?_, ?_, ?_⟩
    ·refine ⟨by omega, ?_⟩
     intro i hi
     rcases Nat.lt_succ_iff_lt_or_eq.1 hi with h | h
     ·exact hinv.2 i h
     ·rw [h]; exact hgood
    ·omega
    ·exact ⟨(by first | rfl | (congr 1; omega) | simp), trivial⟩
    ·exact (Some'.weak (.nil _))
  ·have p12 := h12; try simp only [bs] at p12
   have hkn : k = m := by omega
   have hfd : finR T nm i0 = -1 := by rw [finR, hTm, ← hkn]; exact findI_none hinv.2
   refine Run.exit rfl ?_
   refine Run.sr ?_
   refine Run.p (.int .i64 (-1)) rfl rfl ?_
   refine Run.done ?_
   refine Run.ret ?_
   refine ⟨.int .i64 (-1), [], Out.one rfl rfl, (Some'.weak (.nil _)), ?_⟩
   rw [hfd]

set_option maxHeartbeats 2000000 in
set_option maxRecDepth 20000 in
theorem width_spec {r n m : Nat} {va vd vt : Value} {L : List LV} {T : List Dn} {i0 : Int} {w : World} (hr : Sl w (.slice (some ⟨r, 0, none⟩) 1 1) 2 1 [va, vd]) (ha : Sl w va 7 n (rls L)) (hA : RQ w L) (hd : Sl w vt 4 m (dns T)) (h1 : 1 ≤ n) : Calls Tryz.prog 84 #[.pointer (some ⟨r, 0, none⟩), vt, .int .i64 i0] w (Post No w fun v _ => v = .int .i64 (widR T (L.map (·.1)) i0)) := by
 have hLn : L.length = n := by have := ha.1; simp at this; omega
 have hn := ha.le
 obtain ⟨A, c, rfl, hnc, _⟩ := ha.form0
 obtain ⟨X, hX⟩ : ∃ X, L.map (·.1) = X := ⟨_, rfl⟩
 have hXl : X.length = n := by rw [← hX, List.length_map]; exact hLn
 obtain ⟨bl, ol, rfl⟩ := ha.opn h1
 rw [hX]
 have hTm : T.length = m := by have := hd.1; simp at this; omega
 have hm := hd.le
 obtain ⟨Ad, cd, rfl, hmc, _⟩ := hd.form0
 refine enter (n := 35) (args := [.pointer (some ⟨r, 0, none⟩), .slice Ad m cd, .int .i64 i0]) Tryz.func84 rfl rfl (St.empty _ _) ?_
 refine Run.sr ?_
 refine Run.p (.int .i64 0) rfl rfl ?_
 refine Run.done ?_
 refine Run.seq ?_
 refine Run.sr ?_
 refine Run.p (.slice Ad m cd) rfl rfl ?_
 refine Run.y (.int .i64 (((m : Nat) : Int))) rfl (OpY.len Tsl_46 rfl) ?_
 refine Run.p (.int .i64 0) rfl rfl ?_
 refine Run.done ?_
 refine Run.block ?_
 refine Run.loop (ι := Nat) [6, 8, 11, 12, 13, 14, 15, 16, 17, 18, 19, 20, 21, 22, 23, 24, 25, 26, 27] (fun k => [(11, .int .i64 (((k : Nat) : Int)))]) (fun k => []) (fun k => k ≤ m ∧ ∀ i, i < k → ((decide ((dnx T i).a ≤ i0) && decide (i0 < (dnx T i).z))) = false) (fun k => m - k) 0 ?_ ?_ ?_ ?_
 ·exact ⟨Nat.zero_le _, fun i hi => by omega⟩
 ·exact ⟨rfl, trivial⟩
 ·exact (Some'.weak (.nil _))
 ·rintro k fr hinv
  show Run _ _ (over _ _ [(11, .int .i64 (((k : Nat) : Int)))] fr) []
  try dsimp only at hinv
  refine Run.sr ?_
  refine Run.p (.bool (decide ((((k : Nat) : Int)) < (((m : Nat) : Int))))) rfl rfl ?_
  refine Run.done ?_
  refine Run.seq ?_
  refine Run.cond (b := decide ((((k : Nat) : Int)) < (((m : Nat) : Int)))) rfl (fun h12 => ?_) (fun h12 => ?_)
  ·have p12 := h12; try simp only [bs] at p12
   have hltk : k < m := by omega
   obtain ⟨bd, od, rfl⟩ := hd.opn (by omega)
   refine Run.skip ?_
   refine Run.seq ?_
   refine Run.block ?_
   refine Run.sr ?_
   refine Run.y (.pointer (some ⟨bd, od + k * 4, none⟩)) rfl (OpY.index (kk := k) Tsl_46 rfl rfl (by omega) (by omega) (by first | rfl | omega)) ?_
   refine Run.y (.agg #[sv ((dnx T k).nm), .int .i64 ((dnx T k).n), .int .i64 ((dnx T k).a), .int .i64 ((dnx T k).z)]) rfl (OpY.loadN (cs := [sv ((dnx T k).nm), .int .i64 ((dnx T k).n), .int .i64 ((dnx T k).a), .int .i64 ((dnx T k).z)]) Tagg_50 rfl (Cells.arg (k := k * 4) hd rfl (by omega) (dns_pre0 (k := k) (by omega)))) ?_
   refine Run.step rfl (OpStep.alloc (zs := [sv ([]), .int .i64 0, .int .i64 0, .int .i64 0]) Tzero_50 fun b1 => ?_)
   refine Run.step rfl (OpStep.storeAll (us := [sv ((dnx T k).nm), .int .i64 ((dnx T k).n), .int .i64 ((dnx T k).a), .int .i64 ((dnx T k).z)]) Tsize_50 rfl rfl rfl (.here _) rfl ?_)
   refine Run.dsr ?_
   refine Run.p (.int .i64 i0) rfl rfl ?_
   refine Run.y (.pointer (some ⟨b1, 2, none⟩)) rfl (OpY.fieldAddr Tfo_50_2 rfl rfl) ?_
   refine Run.y (.int .i64 ((dnx T k).a)) rfl (OpY.load1 Tone_3 rfl (Cells.blk (.head _) ⟨rfl, trivial⟩)) ?_
   refine Run.p (.bool (decide (i0 ≥ ((dnx T k).a)))) rfl rfl ?_
   rcases Bool.eq_false_or_eq_true (decide (i0 ≥ ((dnx T k).a))) with h19 | h19
   ·refine Run.q (v := .bool true) rfl (OpQ.y (OpY.moveB rfl h19)) ?_
    have p19 := h19; try simp only [bs] at p19
    refine Run.p (.int .i64 i0) rfl rfl ?_
    refine Run.y (.pointer (some ⟨b1, 3, none⟩)) rfl (OpY.fieldAddr Tfo_50_3 rfl rfl) ?_
    refine Run.y (.int .i64 ((dnx T k).z)) rfl (OpY.load1 Tone_3 rfl (Cells.blk (.head _) ⟨rfl, trivial⟩)) ?_
    refine Run.p (.bool (decide (i0 < ((dnx T k).z)))) rfl rfl ?_
    refine Run.p (.bool (decide (i0 < ((dnx T k).z)))) rfl rfl ?_
    refine Run.done ?_
    refine Run.cond (b := decide (i0 < ((dnx T k).z))) rfl (fun h24 => ?_) (fun h24 => ?_)
    ·have p24 := h24; try simp only [bs] at p24
     refine Run.seq ?_
     have hfd : widR T X i0 = (dnx T k).n := by rw [widR, findI_hit (k := k) hinv.2 (by rw [show decide ((dnx T k).a ≤ i0) = true from h19, Bool.true_and]; exact h24) (by omega), if_pos (by omega), Int.toNat_natCast]
     refine Run.region ?_
     refine Run.y (.pointer (some ⟨b1, 1, none⟩)) rfl (OpY.fieldAddr Tfo_50_1 rfl rfl) ?_
     refine Run.y (.int .i64 ((dnx T k).n)) rfl (OpY.load1 Tone_3 rfl (Cells.blk (.head _) ⟨rfl, trivial⟩)) ?_
     refine Run.p (.int .i64 ((dnx T k).n)) rfl rfl ?_
     refine Run.done ?_
     refine Run.ret ?_
     refine ⟨.int .i64 ((dnx T k).n), [], Out.one rfl rfl, (Some'.weak (.nil _)), ?_⟩
     rw [hfd]; try rw [hxX]
    ·have p24 := h24; try simp only [bs] at p24
     refine Run.skip ?_
     refine Run.blockEnd ?_
     have hgood : (decide ((dnx T k).a ≤ i0) && decide (i0 < (dnx T k).z)) = false := by first | (rw [show decide ((dnx T k).a ≤ i0) = true from h19, Bool.true_and]; exact h24) | (rw [show decide ((dnx T k).a ≤ i0) = false from h19]; rfl)
     refine Run.region ?_
     refine Run.y (.int .i64 ((((k : Nat) : Int)) + 1)) rfl (OpY.add rfl rfl rfl (by omega) (by omega)) ?_
     refine Run.p (.int .i64 ((((k : Nat) : Int)) + 1)) rfl rfl ?_
     refine Run.done ?_
     refine Run.goal ⟨(by repeat (first | exact Same.refl _ _ | refine Same.put rfl ?_ | refine Same.over rfl rfl ?_)), k + 1, ?_, ?_, ?_, ?_⟩
     ·refine ⟨by omega, ?_⟩
      intro i hi
      rcases Nat.lt_succ_iff_lt_or_eq.1 hi with h | h
      ·exact hinv.2 i h
      ·rw [h]; exact hgood
     ·omega
     ·exact ⟨(by first | rfl | (congr 1; omega) | simp), trivial⟩
     ·exact (Some'.weak (.nil _))
   ·refine Run.q (v := .bool false) rfl (OpQ.y (OpY.moveB rfl h19)) ?_
    have p19 := h19; try simp only [bs] at p19
    refine Run.pass rfl ?_
    refine Run.pass rfl ?_
    refine Run.pass rfl ?_
    refine Run.pass rfl ?_
    refine Run.p (.bool false) rfl rfl ?_
    refine Run.done ?_
    refine Run.cond (b := false) rfl (fun h => nomatch h) (fun _ => ?_)
    refine Run.skip ?_
    refine Run.blockEnd ?_
    have hgood : (decide ((dnx T k).a ≤ i0) && decide (i0 < (dnx T k).z)) = false := by first | (rw [show decide ((dnx T k).a ≤ i0) = true from h19, Bool.true_and]; exact h24) | (rw [show decide ((dnx T k).a ≤ i0) = false from h19]; rfl)
    refine Run.region ?_
    refine Run.y (.int .i64 ((((k : Nat) : Int)) + 1)) rfl (OpY.add rfl rfl rfl (by omega) (by omega)) ?_
    refine Run.p (.int .i64 ((((k : Nat) : Int)) + 1)) rfl rfl ?_
    refine Run.done ?_
    refine Run.goal ⟨(by repeat (first | exact Same.refl _ _ | refine Same.put rfl ?_ | refine Same.over rfl rfl ?_)), k + 1, ?_, ?_, ?_, ?_⟩
    ·refine ⟨by omega, ?_⟩
     intro i hi
     rcases Nat.lt_succ_iff_lt_or_eq.1 hi with h | h
     ·exact hinv.2 i h
     ·rw [h]; exact hgood
    ·omega
    ·exact ⟨(by first | rfl | (congr 1; omega) | simp), trivial⟩
    ·exact (Some'.weak (.nil _))
  ·have p12 := h12; try simp only [bs] at p12
   have hkn : k = m := by omega
   have hfd : widR T X i0 = (liAt X 0).num := by rw [widR, hTm, ← hkn, findI_none hinv.2]; rfl
   obtain ⟨x, hx⟩ : ∃ x, (tx L 0).1 = x := ⟨_, rfl⟩
   obtain ⟨Aq, cq, hq, hqc, _⟩ := (hA 0 (by omega)).form0
   rw [hx] at hq hqc
   have hxX : liAt X 0 = x := by rw [← hX, ← tx_li, hx]
   refine Run.exit rfl ?_
   refine Run.sr ?_
   refine Run.p (.pointer (some ⟨r, 0, none⟩)) rfl rfl ?_
   refine Run.y (.pointer (some ⟨r, 0, none⟩)) rfl (OpY.nilCheck rfl) ?_
   refine Run.y (.pointer (some ⟨r, 0, none⟩)) rfl (OpY.fieldAddr Tfo_54_0 rfl rfl) ?_
   refine Run.y (.slice (some ⟨bl, ol, none⟩) n c) rfl (OpY.load1 Tone_51 rfl (Cells.env (k := 0) hr rfl (by decide) ⟨rfl, trivial⟩)) ?_
   refine Run.y (.pointer (some ⟨bl, ol, none⟩)) rfl (OpY.index (kk := 0) Tsl_51 rfl rfl (by omega) (by omega) (by first | rfl | omega)) ?_
   refine Run.y (.pointer (some ⟨bl, ol + 4, none⟩)) rfl (OpY.fieldAddr Tfo_77_2 rfl rfl) ?_
   refine Run.y (.int .i64 (x.num)) rfl (OpY.load1 Tone_3 rfl (Cells.arg (k := 4) ha rfl (by omega) (rls_num (k := 0) (by omega) hx))) ?_
   refine Run.p (.int .i64 (x.num)) rfl rfl ?_
   refine Run.done ?_
   refine Run.ret ?_
   refine ⟨.int .i64 (x.num), [], Out.one rfl rfl, (Some'.weak (.nil _)), ?_⟩
   rw [hfd]; try rw [hxX]

set_option maxHeartbeats 4000000 in
set_option maxRecDepth 20000 in
theorem end_spec {r n : Nat} {va vd : Value} {L : List LV} {i0 : Nat} {w : World} (hr : Sl w (.slice (some ⟨r, 0, none⟩) 1 1) 2 1 [va, vd]) (ha : Sl w va 7 n (rls L)) (hA : RQ w L) (hi0 : i0 ≤ n) (h1 : 1 ≤ n) (hn16 : n ≤ 16777216) : Calls Tryz.prog 78 #[.pointer (some ⟨r, 0, none⟩), .int .i64 ((i0 : Nat) : Int)] w (Post No w fun v _ => v = .int .i64 ((endX (L.map (·.1)) i0 : Nat) : Int)) := by
 have hLn : L.length = n := by have := ha.1; simp at this; omega
 have hn := ha.le
 obtain ⟨A, c, rfl, hnc, _⟩ := ha.form0
 obtain ⟨X, hX⟩ : ∃ X, L.map (·.1) = X := ⟨_, rfl⟩
 have hXl : X.length = n := by rw [← hX, List.length_map]; exact hLn
 obtain ⟨bl, ol, rfl⟩ := ha.opn h1
 rw [hX]
 refine enter (n := 42) (args := [.pointer (some ⟨r, 0, none⟩), .int .i64 (((i0 : Nat) : Int))]) Tryz.func78 rfl rfl (St.empty _ _) ?_
 refine Run.sr ?_
 refine Run.p (.int .i64 0) rfl rfl ?_
 refine Run.dsr ?_
 refine Run.p (.int .i64 0) rfl rfl ?_
 refine Run.done ?_
 refine Run.seq ?_
 refine Run.sr ?_
 refine Run.p (.int .i64 (((i0 : Nat) : Int))) rfl rfl ?_
 refine Run.p (.int .i64 (((i0 : Nat) : Int))) rfl rfl ?_
 refine Run.done ?_
 refine Run.block ?_
 refine Run.loop (ι := Nat × Int) [4, 5, 6, 8, 9, 10, 11, 12, 13, 14, 15, 16, 17, 18, 19, 20, 21, 22, 23, 24, 25, 26, 27, 28, 29, 30, 31, 32, 33, 34, 35, 36] (fun ⟨k, dp⟩ => [(5, .int .i64 dp), (6, .int .i64 (((k : Nat) : Int)))]) (fun ⟨k, dp⟩ => []) (fun ⟨k, dp⟩ => k ≤ n ∧ (-((k : Nat) : Int) ≤ dp ∧ dp ≤ k) ∧ endD (X.drop k) k dp = endX X i0) (fun ⟨k, dp⟩ => n - k) (i0, 0) ?_ ?_ ?_ ?_
 ·exact ⟨hi0, by omega, rfl⟩
 ·exact ⟨rfl, rfl, trivial⟩
 ·exact (Some'.weak (.nil _))
 ·rintro ⟨k, dp⟩ fr hinv
  show Run _ _ (over _ _ [(5, .int .i64 dp), (6, .int .i64 (((k : Nat) : Int)))] fr) []
  try dsimp only at hinv
  refine Run.seq ?_
  refine Run.sr ?_
  refine Run.p (.int .i64 (((k : Nat) : Int))) rfl rfl ?_
  refine Run.p (.pointer (some ⟨r, 0, none⟩)) rfl rfl ?_
  refine Run.y (.pointer (some ⟨r, 0, none⟩)) rfl (OpY.nilCheck rfl) ?_
  refine Run.y (.pointer (some ⟨r, 0, none⟩)) rfl (OpY.fieldAddr Tfo_54_0 rfl rfl) ?_
  refine Run.y (.slice (some ⟨bl, ol, none⟩) n c) rfl (OpY.load1 Tone_51 rfl (Cells.env (k := 0) hr rfl (by decide) ⟨rfl, trivial⟩)) ?_
  refine Run.y (.int .i64 (((n : Nat) : Int))) rfl (OpY.len Tsl_51 rfl) ?_
  refine Run.p (.bool (decide ((((k : Nat) : Int)) < (((n : Nat) : Int))))) rfl rfl ?_
  refine Run.done ?_
  refine Run.cond (b := decide ((((k : Nat) : Int)) < (((n : Nat) : Int)))) rfl (fun h14 => ?_) (fun h14 => ?_)
  ·have p14 := h14; try simp only [bs] at p14
   have hltk : k < n := by omega
   obtain ⟨hk, hdp, hgo⟩ := hinv
   obtain ⟨x, hx⟩ : ∃ x, (tx L k).1 = x := ⟨_, rfl⟩
   obtain ⟨Aq, cq, hq, hqc, _⟩ := (hA k (by omega)).form0
   rw [hx] at hq hqc
   have hxX : liAt X k = x := by rw [← hX, ← tx_li, hx]
   rw [endD_at (by omega) hxX] at hgo
   refine Run.skip ?_
   refine Run.seq ?_
   refine Run.block ?_
   refine Run.seq ?_
   refine Run.sr ?_
   refine Run.p (.pointer (some ⟨r, 0, none⟩)) rfl rfl ?_
   refine Run.y (.pointer (some ⟨r, 0, none⟩)) rfl (OpY.nilCheck rfl) ?_
   refine Run.y (.pointer (some ⟨r, 0, none⟩)) rfl (OpY.fieldAddr Tfo_54_0 rfl rfl) ?_
   refine Run.y (.slice (some ⟨bl, ol, none⟩) n c) rfl (OpY.load1 Tone_51 rfl (Cells.env (k := 0) hr rfl (by decide) ⟨rfl, trivial⟩)) ?_
   refine Run.p (.int .i64 (((k : Nat) : Int))) rfl rfl ?_
   refine Run.y (.pointer (some ⟨bl, ol + k * 7, none⟩)) rfl (OpY.index (kk := k) Tsl_51 rfl rfl (by omega) (by omega) (by first | rfl | omega)) ?_
   refine Run.y (.pointer (some ⟨bl, ol + k * 7, none⟩)) rfl (OpY.fieldAddr Tfo_77_0 rfl rfl) ?_
   refine Run.y (sv (x.word)) rfl (OpY.load1 Tone_9 rfl (Cells.arg (k := k * 7) ha rfl (by omega) (rls_word (k := k) (by omega) hx))) ?_
   refine Run.done ?_
   refine Run.block ?_
   refine Run.seq ?_
   refine Run.sr ?_
   refine Run.y (.bool ((x.word) == wR)) rfl (OpY.eqS rfl rfl) ?_
   refine Run.p (.bool ((x.word) == wR)) rfl rfl ?_
   refine Run.done ?_
   refine Run.cond (b := (x.word) == wR) rfl (fun h25 => ?_) (fun h25 => ?_)
   ·have p25 := h25; try simp only [bs] at p25
    rw [h25]
    refine Run.skip ?_
    refine Run.cond (b := true) rfl (fun _ => ?_) (fun h => nomatch h)
    rw [dpS_up (by first | exact .inl p25 | exact .inr p25)] at hgo
    refine Run.region ?_
    refine Run.p (.int .i64 dp) rfl rfl ?_
    refine Run.y (.int .i64 (dp + 1)) rfl (OpY.add rfl rfl rfl (by omega) (by omega)) ?_
    refine Run.p (.int .i64 (dp + 1)) rfl rfl ?_
    refine Run.done ?_
    refine Run.blockEnd ?_
    refine Run.sr ?_
    refine Run.p (.int .i64 (dp + 1)) rfl rfl ?_
    refine Run.p (.bool ((dp + 1) == 0)) rfl rfl ?_
    refine Run.done ?_
    refine Run.cond (b := (dp + 1) == 0) rfl (fun h35 => ?_) (fun h35 => ?_)
    ·have p35 := h35; try simp only [bs] at p35
     rw [if_pos p35] at hgo
     refine Run.sr ?_
     refine Run.p (.int .i64 (((k : Nat) : Int))) rfl rfl ?_
     refine Run.p (.int .i64 (((k : Nat) : Int))) rfl rfl ?_
     refine Run.done ?_
     refine Run.ret ?_
     refine ⟨.int .i64 (((k : Nat) : Int)), [], Out.one rfl rfl, (Some'.weak (.nil _)), ?_⟩
     first | exact congrArg (fun q : Nat => Value.int .i64 ((q : Nat) : Int)) hgo | (rw [← hgo]; congr 1; omega)
    ·have p35 := h35; try simp only [bs] at p35
     rw [if_neg p35] at hgo
     refine Run.skip ?_
     refine Run.blockEnd ?_
     refine Run.region ?_
     refine Run.p (.int .i64 (((k : Nat) : Int))) rfl rfl ?_
     refine Run.y (.int .i64 ((((k : Nat) : Int)) + 1)) rfl (OpY.add rfl rfl rfl (by omega) (by omega)) ?_
     refine Run.p (.int .i64 ((((k : Nat) : Int)) + 1)) rfl rfl ?_
     refine Run.done ?_
     refine Run.goal ⟨(by repeat (first | exact Same.refl _ _ | refine Same.put rfl ?_ | refine Same.over rfl rfl ?_)), (k + 1, dp + 1), ?_, ?_, ?_, ?_⟩
     ·exact ⟨by omega, by omega, hgo⟩
     ·show n - (k + 1) < n - k; omega
     ·exact ⟨(by first | rfl | (congr 1; omega) | simp), (by first | rfl | (congr 1; omega) | simp), trivial⟩
     ·exact (Some'.weak (.nil _))
   ·have p25 := h25; try simp only [bs] at p25
    have h25a := p25
    refine Run.region ?_
    refine Run.y (.bool ((x.word) == wD)) rfl (OpY.eqS rfl rfl) ?_
    refine Run.p (.bool ((x.word) == wD)) rfl rfl ?_
    refine Run.done ?_
    refine Run.cond (b := (x.word) == wD) rfl (fun h25 => ?_) (fun h25 => ?_)
    ·have p25 := h25; try simp only [bs] at p25
     rw [dpS_up (by first | exact .inl p25 | exact .inr p25)] at hgo
     refine Run.region ?_
     refine Run.p (.int .i64 dp) rfl rfl ?_
     refine Run.y (.int .i64 (dp + 1)) rfl (OpY.add rfl rfl rfl (by omega) (by omega)) ?_
     refine Run.p (.int .i64 (dp + 1)) rfl rfl ?_
     refine Run.done ?_
     refine Run.blockEnd ?_
     refine Run.sr ?_
     refine Run.p (.int .i64 (dp + 1)) rfl rfl ?_
     refine Run.p (.bool ((dp + 1) == 0)) rfl rfl ?_
     refine Run.done ?_
     refine Run.cond (b := (dp + 1) == 0) rfl (fun h35 => ?_) (fun h35 => ?_)
     ·have p35 := h35; try simp only [bs] at p35
      rw [if_pos p35] at hgo
      refine Run.sr ?_
      refine Run.p (.int .i64 (((k : Nat) : Int))) rfl rfl ?_
      refine Run.p (.int .i64 (((k : Nat) : Int))) rfl rfl ?_
      refine Run.done ?_
      refine Run.ret ?_
      refine ⟨.int .i64 (((k : Nat) : Int)), [], Out.one rfl rfl, (Some'.weak (.nil _)), ?_⟩
      first | exact congrArg (fun q : Nat => Value.int .i64 ((q : Nat) : Int)) hgo | (rw [← hgo]; congr 1; omega)
     ·have p35 := h35; try simp only [bs] at p35
      rw [if_neg p35] at hgo
      refine Run.skip ?_
      refine Run.blockEnd ?_
      refine Run.region ?_
      refine Run.p (.int .i64 (((k : Nat) : Int))) rfl rfl ?_
      refine Run.y (.int .i64 ((((k : Nat) : Int)) + 1)) rfl (OpY.add rfl rfl rfl (by omega) (by omega)) ?_
      refine Run.p (.int .i64 ((((k : Nat) : Int)) + 1)) rfl rfl ?_
      refine Run.done ?_
      refine Run.goal ⟨(by repeat (first | exact Same.refl _ _ | refine Same.put rfl ?_ | refine Same.over rfl rfl ?_)), (k + 1, dp + 1), ?_, ?_, ?_, ?_⟩
      ·exact ⟨by omega, by omega, hgo⟩
      ·show n - (k + 1) < n - k; omega
      ·exact ⟨(by first | rfl | (congr 1; omega) | simp), (by first | rfl | (congr 1; omega) | simp), trivial⟩
      ·exact (Some'.weak (.nil _))
    ·have p25 := h25; try simp only [bs] at p25
     have h25b := p25
     refine Run.sr ?_
     refine Run.y (.bool ((x.word) == wE)) rfl (OpY.eqS rfl rfl) ?_
     refine Run.p (.bool ((x.word) == wE)) rfl rfl ?_
     refine Run.done ?_
     refine Run.cond (b := (x.word) == wE) rfl (fun h30 => ?_) (fun h30 => ?_)
     ·have p30 := h30; try simp only [bs] at p30
      rw [dpS_dn p30] at hgo
      refine Run.region ?_
      refine Run.p (.int .i64 dp) rfl rfl ?_
      refine Run.y (.int .i64 (dp - 1)) rfl (OpY.sub rfl rfl rfl (by omega) (by omega)) ?_
      refine Run.p (.int .i64 (dp - 1)) rfl rfl ?_
      refine Run.done ?_
      refine Run.blockEnd ?_
      refine Run.sr ?_
      refine Run.p (.int .i64 (dp - 1)) rfl rfl ?_
      refine Run.p (.bool ((dp - 1) == 0)) rfl rfl ?_
      refine Run.done ?_
      refine Run.cond (b := (dp - 1) == 0) rfl (fun h35 => ?_) (fun h35 => ?_)
      ·have p35 := h35; try simp only [bs] at p35
       rw [if_pos p35] at hgo
       refine Run.sr ?_
       refine Run.p (.int .i64 (((k : Nat) : Int))) rfl rfl ?_
       refine Run.p (.int .i64 (((k : Nat) : Int))) rfl rfl ?_
       refine Run.done ?_
       refine Run.ret ?_
       refine ⟨.int .i64 (((k : Nat) : Int)), [], Out.one rfl rfl, (Some'.weak (.nil _)), ?_⟩
       first | exact congrArg (fun q : Nat => Value.int .i64 ((q : Nat) : Int)) hgo | (rw [← hgo]; congr 1; omega)
      ·have p35 := h35; try simp only [bs] at p35
       rw [if_neg p35] at hgo
       refine Run.skip ?_
       refine Run.blockEnd ?_
       refine Run.region ?_
       refine Run.p (.int .i64 (((k : Nat) : Int))) rfl rfl ?_
       refine Run.y (.int .i64 ((((k : Nat) : Int)) + 1)) rfl (OpY.add rfl rfl rfl (by omega) (by omega)) ?_
       refine Run.p (.int .i64 ((((k : Nat) : Int)) + 1)) rfl rfl ?_
       refine Run.done ?_
       refine Run.goal ⟨(by repeat (first | exact Same.refl _ _ | refine Same.put rfl ?_ | refine Same.over rfl rfl ?_)), (k + 1, dp - 1), ?_, ?_, ?_, ?_⟩
       ·exact ⟨by omega, by omega, hgo⟩
       ·show n - (k + 1) < n - k; omega
       ·exact ⟨(by first | rfl | (congr 1; omega) | simp), (by first | rfl | (congr 1; omega) | simp), trivial⟩
       ·exact (Some'.weak (.nil _))
     ·have p30 := h30; try simp only [bs] at p30
      rw [dpS_no h25a h25b p30] at hgo
      refine Run.skip ?_
      refine Run.blockEnd ?_
      refine Run.sr ?_
      refine Run.p (.int .i64 dp) rfl rfl ?_
      refine Run.p (.bool (dp == 0)) rfl rfl ?_
      refine Run.done ?_
      refine Run.cond (b := dp == 0) rfl (fun h35 => ?_) (fun h35 => ?_)
      ·have p35 := h35; try simp only [bs] at p35
       rw [if_pos p35] at hgo
       refine Run.sr ?_
       refine Run.p (.int .i64 (((k : Nat) : Int))) rfl rfl ?_
       refine Run.p (.int .i64 (((k : Nat) : Int))) rfl rfl ?_
       refine Run.done ?_
       refine Run.ret ?_
       refine ⟨.int .i64 (((k : Nat) : Int)), [], Out.one rfl rfl, (Some'.weak (.nil _)), ?_⟩
       first | exact congrArg (fun q : Nat => Value.int .i64 ((q : Nat) : Int)) hgo | (rw [← hgo]; congr 1; omega)
      ·have p35 := h35; try simp only [bs] at p35
       rw [if_neg p35] at hgo
       refine Run.skip ?_
       refine Run.blockEnd ?_
       refine Run.region ?_
       refine Run.p (.int .i64 (((k : Nat) : Int))) rfl rfl ?_
       refine Run.y (.int .i64 ((((k : Nat) : Int)) + 1)) rfl (OpY.add rfl rfl rfl (by omega) (by omega)) ?_
       refine Run.p (.int .i64 ((((k : Nat) : Int)) + 1)) rfl rfl ?_
       refine Run.done ?_
       refine Run.goal ⟨(by repeat (first | exact Same.refl _ _ | refine Same.put rfl ?_ | refine Same.over rfl rfl ?_)), (k + 1, dp), ?_, ?_, ?_, ?_⟩
       ·exact ⟨by omega, by omega, hgo⟩
       ·show n - (k + 1) < n - k; omega
       ·exact ⟨(by first | rfl | (congr 1; omega) | simp), (by first | rfl | (congr 1; omega) | simp), trivial⟩
       ·exact (Some'.weak (.nil _))
  ·have p14 := h14; try simp only [bs] at p14
   obtain ⟨hk, hdp, hgo⟩ := hinv
   have hkn : k = X.length := by omega
   rw [endD_end hkn] at hgo
   refine Run.exit rfl ?_
   refine Run.sr ?_
   refine Run.p (.pointer (some ⟨r, 0, none⟩)) rfl rfl ?_
   refine Run.y (.pointer (some ⟨r, 0, none⟩)) rfl (OpY.nilCheck rfl) ?_
   refine Run.y (.pointer (some ⟨r, 0, none⟩)) rfl (OpY.fieldAddr Tfo_54_0 rfl rfl) ?_
   refine Run.y (.slice (some ⟨bl, ol, none⟩) n c) rfl (OpY.load1 Tone_51 rfl (Cells.env (k := 0) hr rfl (by decide) ⟨rfl, trivial⟩)) ?_
   refine Run.y (.int .i64 (((n : Nat) : Int))) rfl (OpY.len Tsl_51 rfl) ?_
   refine Run.p (.int .i64 (((n : Nat) : Int))) rfl rfl ?_
   refine Run.done ?_
   refine Run.ret ?_
   refine ⟨.int .i64 (((n : Nat) : Int)), [], Out.one rfl rfl, (Some'.weak (.nil _)), ?_⟩
   first | exact congrArg (fun q : Nat => Value.int .i64 ((q : Nat) : Int)) hgo | (rw [← hgo]; congr 1; omega)

end Go.Proofs.YtgpkpopbajkklaaGreatDoor
