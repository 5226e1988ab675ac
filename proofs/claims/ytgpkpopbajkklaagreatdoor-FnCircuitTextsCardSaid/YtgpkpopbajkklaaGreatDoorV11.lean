/- Walks: the reference writes out the gates of a circuit text. -/
import Derived.Test.YtgpkpopbajkklaaGreatDoorV10
import Derived.Test.YtgpkpopbajkklaaGreatDoorProg
set_option linter.unusedSimpArgs false
set_option linter.unusedVariables false
namespace Go.Proofs.YtgpkpopbajkklaaGreatDoor
open Go Go.RowKit
namespace TxtT
theorem Tagg_69 : aggOf Tryz.prog 69 = some 3 := by kernel_rfl
theorem Tagg_77 : aggOf Tryz.prog 77 = some 7 := by kernel_rfl
theorem Tcall_48 : callable Tryz.prog 48 = true := by kernel_rfl
theorem Tcall_76 : callable Tryz.prog 76 = true := by kernel_rfl
theorem Tcall_77 : callable Tryz.prog 77 = true := by kernel_rfl
theorem Tcall_78 : callable Tryz.prog 78 = true := by kernel_rfl
theorem Tcall_99 : callable Tryz.prog 99 = true := by kernel_rfl
theorem Tfo_54_0 : fieldOff Tryz.prog 54 0 = some 0 := by kernel_rfl
theorem Tfo_54_1 : fieldOff Tryz.prog 54 1 = some 1 := by kernel_rfl
theorem Tfo_69_0 : fieldOff Tryz.prog 69 0 = some 0 := by kernel_rfl
theorem Tfo_69_1 : fieldOff Tryz.prog 69 1 = some 1 := by kernel_rfl
theorem Tfo_69_2 : fieldOff Tryz.prog 69 2 = some 2 := by kernel_rfl
theorem Tfo_77_0 : fieldOff Tryz.prog 77 0 = some 0 := by kernel_rfl
theorem Tfo_77_1 : fieldOff Tryz.prog 77 1 = some 1 := by kernel_rfl
theorem Tfo_77_2 : fieldOff Tryz.prog 77 2 = some 4 := by kernel_rfl
theorem Tfo_77_3 : fieldOff Tryz.prog 77 3 = some 5 := by kernel_rfl
theorem Tfo_77_4 : fieldOff Tryz.prog 77 4 = some 6 := by kernel_rfl
theorem Tone_22 : oneOf Tryz.prog 22 = true := by kernel_rfl
theorem Tone_3 : oneOf Tryz.prog 3 = true := by kernel_rfl
theorem Tone_51 : oneOf Tryz.prog 51 = true := by kernel_rfl
theorem Tone_52 : oneOf Tryz.prog 52 = true := by kernel_rfl
theorem Tone_75 : oneOf Tryz.prog 75 = true := by kernel_rfl
theorem Tone_9 : oneOf Tryz.prog 9 = true := by kernel_rfl
theorem Tsize_3 : (Tryz.prog.info? 3).map (·.size) = some 1 := by kernel_rfl
theorem Tsize_69 : (Tryz.prog.info? 69).map (·.size) = some 3 := by kernel_rfl
theorem Tsize_77 : (Tryz.prog.info? 77).map (·.size) = some 7 := by kernel_rfl
theorem Tsl_22 : sliceOf Tryz.prog 22 = some (69, 3, 24, [.int .i64 0, .int .i64 0, .int .i64 0]) := by kernel_rfl
theorem Tsl_51 : sliceOf Tryz.prog 51 = some (77, 7, 88, [sv ([]), .int .i64 0, .int .i64 0, .int .i64 0, .int .i64 0, sv ([]), .slice none 0 0]) := by kernel_rfl
theorem Tsl_52 : sliceOf Tryz.prog 52 = some (22, 1, 24, [.slice none 0 0]) := by kernel_rfl
theorem Tsl_75 : sliceOf Tryz.prog 75 = some (3, 1, 8, [.int .i64 0]) := by kernel_rfl
theorem Tzero_69 : zeroOf Tryz.prog 69 = some [.int .i64 0, .int .i64 0, .int .i64 0] := by kernel_rfl
theorem Tzero_77 : zeroOf Tryz.prog 77 = some [sv ([]), .int .i64 0, .int .i64 0, .int .i64 0, .int .i64 0, sv ([]), .slice none 0 0] := by kernel_rfl
end TxtT
open TxtT
set_option maxHeartbeats 4000000 in
set_option maxRecDepth 20000 in
theorem l5Put_spec {va vt : Value} {n m : Nat} {L : List G3} {ts : List Int} {w : World} (ha : Sl w va 3 n (ints (fl L))) (ht : Sl w vt 1 m (ints ts)) (hm : MapOk m L) (hn16 : n ≤ 16777216) : Calls Tryz.prog 76 #[va, vt] w (Post No w fun v H => H = [.own v 69 3 L.length (ints (fl (L.map (mapG ts))))]) := by
 have hxl := ha.len
 have hn := ha.le
 obtain ⟨A, c, rfl, _, _⟩ := ha.form0
 have hLn : L.length = n := by have := fl_len L; omega
 have htl := ht.len
 obtain ⟨At, ct, rfl, _, _⟩ := ht.form0
 refine enter (n := 37) (args := [.slice A n c, .slice At m ct]) Tryz.func76 rfl rfl (St.empty _ _) ?_
 refine .sr ?_
 refine .m ?_
 refine .dsr ?_
 refine .m ?_
 refine .done ?_
 refine Run.weak (H' := [.own (.slice none 0 0) 69 3 0 ([])]) (Weak.nilOwn _ _) ?_ ⟨_, _, rfl, fun _ => nofun, fun _ => nofun⟩
 refine .seq ?_
 refine .sr ?_
 refine .m ?_
 refine .u (.int .i64 (((n : Nat) : Int))) (.len Tsl_22 rfl) ?_
 refine .m ?_
 refine .done ?_
 refine .block ?_
 refine Run.loop (ι := Nat × Value) [5, 7, 10, 11, 12, 13, 14, 15, 16, 17, 18, 19, 20, 21, 22, 23, 24, 25, 26, 27, 28, 29, 30, 31, 32, 33, 34, 35] (fun ⟨k, vo⟩ => [(5, vo), (10, .int .i64 (((k : Nat) : Int)))]) (fun ⟨k, vo⟩ => [.own vo 69 3 k (ints (fl ((L.take k).map (mapG ts))))]) (fun ⟨k, vo⟩ => k ≤ n) (fun ⟨k, vo⟩ => n - k) (0, .slice none 0 0) ?_ ?_ ?_ ?_
 ·exact Nat.zero_le _
 ·exact ⟨rfl, rfl, trivial⟩
 ·exact (Some'.weak (.takeEq (by first | rfl | simp [fl, ints]) (.nil _)))
 rintro ⟨k, vo⟩ fr hinv
 show Run _ _ (over _ _ [(5, vo), (10, .int .i64 (((k : Nat) : Int)))] fr) [.own vo 69 3 k (ints (fl ((L.take k).map (mapG ts))))]
 try dsimp only at hinv
 refine .sr ?_
 refine .w (.bool (decide ((((k : Nat) : Int)) < (((n : Nat) : Int))))) ?_
 refine .done ?_
 refine .seq ?_
 refine .cond (b := decide ((((k : Nat) : Int)) < (((n : Nat) : Int)))) rfl (fun h11 => ?_) (fun h11 => ?_)
 ·have p11 := h11; try simp only [bs] at p11
  have hltk : k < n := by omega
  have hfx := fl_ix (L := L) (k := k) (by omega)
  obtain ⟨⟨g, a, e⟩, hgx⟩ : ∃ q, gx L k = q := ⟨_, rfl⟩
  rw [hgx] at hfx
  have hgm := hm (gx L k) (gx_mem (by omega))
  rw [hgx] at hgm
  simp only at hfx hgm
  obtain ⟨b, o, rfl⟩ := ha.opn (by omega)
  refine .skip ?_
  refine .seq ?_
  refine .block ?_
  refine .sr ?_
  refine .u (.pointer (some ⟨b, o + k * 3, none⟩)) (.ix k Tsl_22) ?_
  refine .u (.agg #[.int .i64 g, .int .i64 a, .int .i64 e]) (.loadN (cs := [.int .i64 g, .int .i64 a, .int .i64 e]) Tagg_69 rfl (Cells.arg (k := k * 3) ha rfl (by omega) (by have h := pre3 (xs := fl L) (o := k * 3) (by omega); rw [hfx.1, hfx.2.1, hfx.2.2] at h; exact h))) ?_
  refine .step rfl (.alloc (zs := [.int .i64 0, .int .i64 0, .int .i64 0]) Tzero_69 fun b1 => ?_)
  refine .step rfl (.storeAll (us := [.int .i64 g, .int .i64 a, .int .i64 e]) Tsize_69 rfl rfl rfl (.here _) rfl ?_)
  refine .done ?_
  refine .seq ?_
  refine .sr ?_
  refine .fa Tfo_69_0 ?_
  refine .u (.int .i64 g) (.load1 Tone_3 rfl (.b (.head _))) ?_
  refine .w (.bool (g != 12)) ?_
  refine .done ?_
  refine .cond (b := g != 12) rfl (fun h16 => ?_) (fun h16 => ?_)
  ·have p16 := h16; try simp only [bs] at p16
   have ha1 := hgm.1 p16
   have haR : (0 : Int) ≤ a := ha1.1
   obtain ⟨bt, ot, rfl⟩ := ht.opn (by omega)
   refine .region ?_
   refine .m ?_
   refine .fa Tfo_69_1 ?_
   refine .u (.int .i64 a) (.load1 Tone_3 rfl (.b (.head _))) ?_
   refine .u (.pointer (some ⟨bt, ot + a.toNat, none⟩)) (.ix (a.toNat) Tsl_75) ?_
   refine .u (.int .i64 (ix ts (a.toNat))) (.load1 Tone_3 rfl (Cells.arg (k := a.toNat) ht rfl (by omega) (pre1 (by omega)))) ?_
   refine .fa Tfo_69_1 ?_
   refine .step rfl (.store (us := [.int .i64 (ix ts (a.toNat))]) Tsize_3 rfl rfl rfl (.here _) (by simp only [List.length_cons, List.length_nil]; omega) ?_)
   show Run _ _ _ [.blk b1 69 [.int .i64 g, .int .i64 (ix ts (a.toNat)), .int .i64 e], .own vo 69 3 k (ints (fl ((L.take k).map (mapG ts))))]
   refine .done ?_
   refine .seq ?_
   refine .sr ?_
   refine .u (.agg #[.int .i64 g, .int .i64 (ix ts (a.toNat)), .int .i64 e]) (.loadN (cs := [.int .i64 g, .int .i64 (ix ts (a.toNat)), .int .i64 e]) Tagg_69 rfl (Cells.blk (.head _) ⟨rfl, rfl, rfl, trivial⟩)) ?_
   refine .c (.bool (decide (9 ≤ g ∧ g ≤ 11))) [.agg #[.int .i64 g, .int .i64 (ix ts (a.toNat)), .int .i64 e]] Tcall_99 (fun w hs => l22Two_spec _ _ _ w) ?_
   refine .done ?_
   refine .cond (b := decide (9 ≤ g ∧ g ≤ 11)) rfl (fun h24 => ?_) (fun h24 => ?_)
   ·have p24 := h24; try simp only [bs] at p24
    have hb1 := hgm.2 p24
    refine .region ?_
    refine .m ?_
    refine .fa Tfo_69_2 ?_
    refine .u (.int .i64 e) (.load1 Tone_3 rfl (.b (.head _))) ?_
    refine .u (.pointer (some ⟨bt, ot + e.toNat, none⟩)) (.ix (e.toNat) Tsl_75) ?_
    refine .u (.int .i64 (ix ts (e.toNat))) (.load1 Tone_3 rfl (Cells.arg (k := e.toNat) ht rfl (by omega) (pre1 (by omega)))) ?_
    refine .fa Tfo_69_2 ?_
    refine .step rfl (.store (us := [.int .i64 (ix ts (e.toNat))]) Tsize_3 rfl rfl rfl (.here _) (by simp only [List.length_cons, List.length_nil]; omega) ?_)
    show Run _ _ _ [.blk b1 69 [.int .i64 g, .int .i64 (ix ts (a.toNat)), .int .i64 (ix ts (e.toNat))], .own vo 69 3 k (ints (fl ((L.take k).map (mapG ts))))]
    refine .dr ?_
    refine .w vo ?_
    refine .u (.agg #[.int .i64 g, .int .i64 (ix ts (a.toNat)), .int .i64 (ix ts (e.toNat))]) (.loadN (cs := [.int .i64 g, .int .i64 (ix ts (a.toNat)), .int .i64 (ix ts (e.toNat))]) Tagg_69 rfl (Cells.blk (.head _) ⟨rfl, rfl, rfl, trivial⟩)) ?_
    refine .step rfl (.buildSlice (us := [.int .i64 g, .int .i64 (ix ts (a.toNat)), .int .i64 (ix ts (e.toNat))]) Tsl_22 (by decide) (by decide) ⟨rfl, [.int .i64 g, .int .i64 (ix ts (a.toNat)), .int .i64 (ix ts (e.toNat))], _, rfl, rfl, rfl, rfl⟩ rfl fun b2 => ?_)
    refine .step rfl (.append (H1 := [.own (.slice (some ⟨b2, 0, none⟩) 1 1) 69 3 1 ([.int .i64 g, .int .i64 (ix ts (a.toNat)), .int .i64 (ix ts (e.toNat))]), .blk b1 69 [.int .i64 g, .int .i64 (ix ts (a.toNat)), .int .i64 (ix ts (e.toNat))]]) (H2 := []) (v := vo) (u := .slice (some ⟨b2, 0, none⟩) 1 1) (n := k) (m := 1) (xs := ints (fl ((L.take k).map (mapG ts)))) (ys := [.int .i64 g, .int .i64 (ix ts (a.toNat)), .int .i64 (ix ts (e.toNat))]) Tsl_22 (by decide) rfl rfl rfl rfl (fun w hs => hs.slOwn (.head _)) (by simp [Value.oneCell']) (by omega) (by simp only [maxLen]; omega) fun av1 hnav1 => ?_)
    refine Run.weak (H' := [.own (.slice (some ⟨b2, 0, none⟩) 1 1) 69 3 1 ([.int .i64 g, .int .i64 (ix ts (a.toNat)), .int .i64 (ix ts (e.toNat))]), .blk b1 69 [.int .i64 g, .int .i64 (ix ts (a.toNat)), .int .i64 (ix ts (e.toNat))], .own av1 69 3 (k + 1) (ints (fl ((L.take (k + 1)).map (mapG ts))))]) (Some'.weak (.take (.take (.takeEq (by rw [take_gx (by omega), hgx, List.map_append, fl_append, ints_append, List.map_cons, List.map_nil, fl_one]; simp [mapG, ints, *]) (.nil _))))) ?_ ⟨_, _, rfl, fun _ => nofun, fun _ => nofun⟩
    refine .w av1 ?_
    refine .done ?_
    refine .blockEnd ?_
    refine .region ?_
    refine .u (.int .i64 ((((k : Nat) : Int)) + 1)) (.add rfl rfl rfl (by omega) (by omega)) ?_
    refine .m ?_
    refine .done ?_
    refine .goal ⟨(by repeat (first | exact Same.refl _ _ | refine Same.put rfl ?_ | refine Same.over rfl rfl ?_)), (k + 1, av1), ?_, ?_, ?_, ?_⟩
    ·show k + 1 ≤ n; omega
    ·show n - (k + 1) < n - k; omega
    ·exact ⟨(by first | rfl | (congr 1; omega) | simp), (by first | rfl | (congr 1; omega) | simp), trivial⟩
    ·exact (Some'.weak (.skip (.skip (.takeEq (by first | rfl | simp [fl, ints]) (.nil _)))))
   have p24 := h24; try simp only [bs] at p24
   refine .skip ?_
   refine .region ?_
   refine .w vo ?_
   refine .u (.agg #[.int .i64 g, .int .i64 (ix ts (a.toNat)), .int .i64 e]) (.loadN (cs := [.int .i64 g, .int .i64 (ix ts (a.toNat)), .int .i64 e]) Tagg_69 rfl (Cells.blk (.head _) ⟨rfl, rfl, rfl, trivial⟩)) ?_
   refine .step rfl (.buildSlice (us := [.int .i64 g, .int .i64 (ix ts (a.toNat)), .int .i64 e]) Tsl_22 (by decide) (by decide) ⟨rfl, [.int .i64 g, .int .i64 (ix ts (a.toNat)), .int .i64 e], _, rfl, rfl, rfl, rfl⟩ rfl fun b3 => ?_)
   refine .step rfl (.append (H1 := [.own (.slice (some ⟨b3, 0, none⟩) 1 1) 69 3 1 ([.int .i64 g, .int .i64 (ix ts (a.toNat)), .int .i64 e]), .blk b1 69 [.int .i64 g, .int .i64 (ix ts (a.toNat)), .int .i64 e]]) (H2 := []) (v := vo) (u := .slice (some ⟨b3, 0, none⟩) 1 1) (n := k) (m := 1) (xs := ints (fl ((L.take k).map (mapG ts)))) (ys := [.int .i64 g, .int .i64 (ix ts (a.toNat)), .int .i64 e]) Tsl_22 (by decide) rfl rfl rfl rfl (fun w hs => hs.slOwn (.head _)) (by simp [Value.oneCell']) (by omega) (by simp only [maxLen]; omega) fun av2 hnav2 => ?_)
   refine Run.weak (H' := [.own (.slice (some ⟨b3, 0, none⟩) 1 1) 69 3 1 ([.int .i64 g, .int .i64 (ix ts (a.toNat)), .int .i64 e]), .blk b1 69 [.int .i64 g, .int .i64 (ix ts (a.toNat)), .int .i64 e], .own av2 69 3 (k + 1) (ints (fl ((L.take (k + 1)).map (mapG ts))))]) (Some'.weak (.take (.take (.takeEq (by rw [take_gx (by omega), hgx, List.map_append, fl_append, ints_append, List.map_cons, List.map_nil, fl_one]; simp [mapG, ints, *]) (.nil _))))) ?_ ⟨_, _, rfl, fun _ => nofun, fun _ => nofun⟩
   refine .w av2 ?_
   refine .done ?_
   refine .blockEnd ?_
   refine .region ?_
   refine .u (.int .i64 ((((k : Nat) : Int)) + 1)) (.add rfl rfl rfl (by omega) (by omega)) ?_
   refine .m ?_
   refine .done ?_
   refine .goal ⟨(by repeat (first | exact Same.refl _ _ | refine Same.put rfl ?_ | refine Same.over rfl rfl ?_)), (k + 1, av2), ?_, ?_, ?_, ?_⟩
   ·show k + 1 ≤ n; omega
   ·show n - (k + 1) < n - k; omega
   ·exact ⟨(by first | rfl | (congr 1; omega) | simp), (by first | rfl | (congr 1; omega) | simp), trivial⟩
   ·exact (Some'.weak (.skip (.skip (.takeEq (by first | rfl | simp [fl, ints]) (.nil _)))))
  have p16 := h16; try simp only [bs] at p16
  refine .skip ?_
  refine .seq ?_
  refine .sr ?_
  refine .u (.agg #[.int .i64 g, .int .i64 a, .int .i64 e]) (.loadN (cs := [.int .i64 g, .int .i64 a, .int .i64 e]) Tagg_69 rfl (Cells.blk (.head _) ⟨rfl, rfl, rfl, trivial⟩)) ?_
  refine .c (.bool (decide (9 ≤ g ∧ g ≤ 11))) [.agg #[.int .i64 g, .int .i64 a, .int .i64 e]] Tcall_99 (fun w hs => l22Two_spec _ _ _ w) ?_
  refine .done ?_
  refine .cond (b := decide (9 ≤ g ∧ g ≤ 11)) rfl (fun h24 => ?_) (fun h24 => ?_)
  ·have p24 := h24; try simp only [bs] at p24
   exact absurd p24 (by omega) --DONE
  have p24 := h24; try simp only [bs] at p24
  refine .skip ?_
  refine .region ?_
  refine .w vo ?_
  refine .u (.agg #[.int .i64 g, .int .i64 a, .int .i64 e]) (.loadN (cs := [.int .i64 g, .int .i64 a, .int .i64 e]) Tagg_69 rfl (Cells.blk (.head _) ⟨rfl, rfl, rfl, trivial⟩)) ?_
  refine .step rfl (.buildSlice (us := [.int .i64 g, .int .i64 a, .int .i64 e]) Tsl_22 (by decide) (by decide) ⟨rfl, [.int .i64 g, .int .i64 a, .int .i64 e], _, rfl, rfl, rfl, rfl⟩ rfl fun b4 => ?_)
  refine .step rfl (.append (H1 := [.own (.slice (some ⟨b4, 0, none⟩) 1 1) 69 3 1 ([.int .i64 g, .int .i64 a, .int .i64 e]), .blk b1 69 [.int .i64 g, .int .i64 a, .int .i64 e]]) (H2 := []) (v := vo) (u := .slice (some ⟨b4, 0, none⟩) 1 1) (n := k) (m := 1) (xs := ints (fl ((L.take k).map (mapG ts)))) (ys := [.int .i64 g, .int .i64 a, .int .i64 e]) Tsl_22 (by decide) rfl rfl rfl rfl (fun w hs => hs.slOwn (.head _)) (by simp [Value.oneCell']) (by omega) (by simp only [maxLen]; omega) fun av3 hnav3 => ?_)
  refine Run.weak (H' := [.own (.slice (some ⟨b4, 0, none⟩) 1 1) 69 3 1 ([.int .i64 g, .int .i64 a, .int .i64 e]), .blk b1 69 [.int .i64 g, .int .i64 a, .int .i64 e], .own av3 69 3 (k + 1) (ints (fl ((L.take (k + 1)).map (mapG ts))))]) (Some'.weak (.take (.take (.takeEq (by rw [take_gx (by omega), hgx, List.map_append, fl_append, ints_append, List.map_cons, List.map_nil, fl_one]; simp [mapG, ints, *]) (.nil _))))) ?_ ⟨_, _, rfl, fun _ => nofun, fun _ => nofun⟩
  refine .w av3 ?_
  refine .done ?_
  refine .blockEnd ?_
  refine .region ?_
  refine .u (.int .i64 ((((k : Nat) : Int)) + 1)) (.add rfl rfl rfl (by omega) (by omega)) ?_
  refine .m ?_
  refine .done ?_
  refine .goal ⟨(by repeat (first | exact Same.refl _ _ | refine Same.put rfl ?_ | refine Same.over rfl rfl ?_)), (k + 1, av3), ?_, ?_, ?_, ?_⟩
  ·show k + 1 ≤ n; omega
  ·show n - (k + 1) < n - k; omega
  ·exact ⟨(by first | rfl | (congr 1; omega) | simp), (by first | rfl | (congr 1; omega) | simp), trivial⟩
  ·exact (Some'.weak (.skip (.skip (.takeEq (by first | rfl | simp [fl, ints]) (.nil _)))))
 have p11 := h11; try simp only [bs] at p11
 have hkn : k = n := by omega
 have htk : L.take k = L := by rw [hkn, ← hLn, List.take_length]
 refine .exit rfl ?_
 refine .sr ?_
 refine .w vo ?_
 refine .w vo ?_
 refine .done ?_
 refine .ret ?_
 refine ⟨vo, [.own vo 69 3 (L.length) (ints (fl (L.map (mapG ts))))], Out.one rfl rfl, (Some'.weak (.takeEq (by rw [htk, hkn, hLn]) (.nil _))), ?_⟩
 rfl


/-- Gates beside their slice. -/
abbrev GV := List G3 × Value
def gvs (L : List GV) : List Value := L.map (·.2)
def ggr (L : List GV) : List (Value × Nat × List Value) := L.map fun p => (p.2, p.1.length, ints (fl p.1))
def gvx (L : List GV) (k : Nat) : GV := L.getD k ([], undef)
def gsx (M : List (List G3)) (k : Nat) : List G3 := M.getD k []
@[simp] theorem gvs_length (L : List GV) : (gvs L).length = L.length := by simp [gvs]
theorem gvx_gs (L : List GV) (k : Nat) : (gvx L k).1 = gsx (L.map (·.1)) k := by
  simp only [gvx, gsx, List.getD, List.getElem?_map]
  cases L[k]? <;> rfl
theorem gvx_mem {L : List GV} {k : Nat} (hk : k < L.length) : gvx L k ∈ L := by
  have : gvx L k = L[k] := by simp [gvx, List.getD, hk]
  rw [this]; exact List.getElem_mem hk
theorem gvs_pre {L : List GV} {k : Nat} {v : Value} (hk : k < L.length) (hv : (gvx L k).2 = v) : Pre (gvs L) k [v] := by
  subst hv
  refine ⟨?_, trivial⟩
  simp [gvs, gvx, List.getD, hk]
def GQ (w : World) (L : List GV) : Prop := ∀ k, k < L.length → Sl w (gvx L k).2 3 (gvx L k).1.length (ints (fl (gvx L k).1))
theorem GQ.go {w0 w : World} {H : List Res} {L : List GV} (h : GQ w0 L) (hs : St No w0 w H) : GQ w L := fun k hk => hs.sl (h k hk)
theorem St.gq {M : Nat → Prop} {w0 w : World} {H : List Res} {e : TypeId} {L : List GV} (hs : St M w0 w H) (hm : Res.grp e 3 (ggr L) ∈ H) : GQ w L :=
  fun k hk => hs.slGrpG hm (p := ((gvx L k).2, (gvx L k).1.length, ints (fl (gvx L k).1))) (List.mem_map.2 ⟨_, gvx_mem hk, rfl⟩)
/-- The gates of a call. -/
def callG (T : List Dn) (M : List (List G3)) (x : Li) (i : Int) : List G3 := (gsx M (finR T x.nm i).toNat).map (mapG x.ar)
def repR (part : List G3) : Nat → List G3 → List G3
  | 0, out => out
  | m + 1, out => if out.length ≤ 400 then repR part m (out ++ part) else out
/-- The gates of some lines, as the reference writes them out. -/
def exG (X : List Li) (T : List Dn) (M : List (List G3)) : Nat → Nat → Nat → List G3 → List G3
  | 0, _, _, out => out
  | f + 1, i, last, out =>
    if i < last ∧ out.length ≤ 400 then
      if (liAt X i).word = wG then exG X T M f (i + 1) last (out ++ [(liAt X i).g3])
      else if (liAt X i).word = wC then exG X T M f (i + 1) last (out ++ callG T M (liAt X i) ((i : Nat) : Int))
      else if (liAt X i).word = wR then exG X T M f (endX X i + 1) last (repR (exG X T M f (i + 1) (endX X i) []) (liAt X i).num.toNat out)
      else if (liAt X i).word = wD then exG X T M f (endX X i + 1) last out
      else exG X T M f (i + 1) last out
    else out
theorem endD_bd : ∀ (r : List Li) (k : Nat) (d : Int), k ≤ endD r k d ∧ endD r k d ≤ k + r.length
  | [], k, d => by simp [endD]
  | x :: r, k, d => by
    rw [endD]
    split
    · simp
    · have := endD_bd r (k + 1) (dpS x d)
      rw [List.length_cons]; omega
theorem endX_ge (X : List Li) (i : Nat) : i ≤ endX X i := (endD_bd _ _ _).1
theorem endX_le {X : List Li} {i : Nat} (h : i ≤ X.length) : endX X i ≤ X.length := by
  have := (endD_bd (X.drop i) i 0).2
  rw [List.length_drop] at this
  unfold endX; omega
theorem exG_fuel {X : List Li} {T : List Dn} {M : List (List G3)} : ∀ (f i last : Nat) (out : List G3), last ≤ X.length → X.length - i + 1 ≤ f → ∀ f', f ≤ f' → exG X T M f' i last out = exG X T M f i last out
  | 0, i, last, out, hl, h => by omega
  | f + 1, i, last, out, hl, h => by
    intro f' hf'
    obtain ⟨g, rfl⟩ : ∃ g, f' = g + 1 := ⟨f' - 1, by omega⟩
    rw [exG, exG]
    split
    · rename_i hc
      have h1 := endX_ge X i
      have h2 := endX_le (X := X) (i := i) (by omega)
      have key : ∀ b last out, i + 1 ≤ b → last ≤ X.length → exG X T M g b last out = exG X T M f b last out := fun b last out hb hl => exG_fuel f b last out hl (by omega) g (by omega)
      rw [key _ _ _ (Nat.le_refl _) hl, key _ _ _ (Nat.le_refl _) hl, key _ _ [] (Nat.le_refl _) h2, key _ _ _ (by omega) hl, key _ _ _ (by omega) hl, key _ _ _ (Nat.le_refl _) hl]
    · rfl
def exc (X : List Li) (T : List Dn) (M : List (List G3)) (i last : Nat) (out : List G3) : List G3 := exG X T M (X.length - i + 1) i last out
theorem exc_end {X : List Li} {T : List Dn} {M : List (List G3)} {i last : Nat} {out : List G3} (h : ¬ (i < last ∧ out.length ≤ 400)) : exc X T M i last out = out := by rw [exc, exG, if_neg h]
theorem exc_eq {X : List Li} {T : List Dn} {M : List (List G3)} {i last : Nat} {out : List G3} (hl : last ≤ X.length) (h : i < last) (ho : out.length ≤ 400) : exc X T M i last out =
    if (liAt X i).word = wG then exc X T M (i + 1) last (out ++ [(liAt X i).g3])
    else if (liAt X i).word = wC then exc X T M (i + 1) last (out ++ callG T M (liAt X i) ((i : Nat) : Int))
    else if (liAt X i).word = wR then exc X T M (endX X i + 1) last (repR (exc X T M (i + 1) (endX X i) []) (liAt X i).num.toNat out)
    else if (liAt X i).word = wD then exc X T M (endX X i + 1) last out
    else exc X T M (i + 1) last out := by
  have h1 := endX_ge X i
  have h2 := endX_le (X := X) (i := i) (by omega)
  have key : ∀ b last out, i + 1 ≤ b → last ≤ X.length → exG X T M (X.length - i) b last out = exc X T M b last out := fun b last out hb hl => exG_fuel _ _ _ _ hl (Nat.le_refl _) _ (by omega)
  rw [exc, exG, if_pos ⟨h, ho⟩, key _ _ _ (Nat.le_refl _) hl, key _ _ _ (Nat.le_refl _) hl, key _ _ [] (Nat.le_refl _) h2, key _ _ _ (by omega) hl, key _ _ _ (by omega) hl, key _ _ _ (Nat.le_refl _) hl]
theorem repR_len {part : List G3} {K : Nat} (hp : part.length + 400 ≤ K) : ∀ (m : Nat) (out : List G3), out.length ≤ K → (repR part m out).length ≤ K
  | 0, out, h => h
  | m + 1, out, h => by
    rw [repR]
    split
    · exact repR_len hp m _ (by rw [List.length_append]; omega)
    · exact h
theorem exc_len {X : List Li} {T : List Dn} {M : List (List G3)} (hM : ∀ k, (gsx M k).length ≤ 400) : ∀ (d i last : Nat) (out : List G3), X.length - i = d → last ≤ X.length → out.length ≤ 800 + 400 * (X.length - i) → (exc X T M i last out).length ≤ 800 + 400 * (X.length - i) := by
  intro d
  induction d using Nat.strongRecOn with
  | _ d ih =>
    intro i last out hd hl ho
    by_cases hc : i < last ∧ out.length ≤ 400
    · have h1 := endX_ge X i
      have h2 := endX_le (X := X) (i := i) (by omega)
      have key : ∀ b last out, i < b → b ≤ X.length + 1 → last ≤ X.length → out.length ≤ 800 + 400 * (X.length - i) → (exc X T M b last out).length ≤ 800 + 400 * (X.length - i) := by
        intro b last out hb hb2 hl ho
        by_cases h : out.length ≤ 800 + 400 * (X.length - b)
        · have := ih (X.length - b) (by omega) b last out rfl hl h; omega
        · rw [exc_end (by omega)]; exact ho
      rw [exc_eq hl hc.1 hc.2]
      split
      · exact key _ _ _ (Nat.lt_succ_self i) (by omega) hl (by simp; omega)
      · split
        · refine key _ _ _ (Nat.lt_succ_self i) (by omega) hl ?_
          have := hM (finR T (liAt X i).nm ((i : Nat) : Int)).toNat
          rw [List.length_append, callG, List.length_map]; omega
        · split
          · refine key _ _ _ (by omega) (by omega) hl (repR_len ?_ _ _ (by omega))
            have := ih (X.length - (i + 1)) (by omega) (i + 1) (endX X i) [] rfl h2 (by simp)
            omega
          · split
            · exact key _ _ _ (by omega) (by omega) hl ho
            · exact key _ _ _ (Nat.lt_succ_self i) (by omega) hl ho
    · rw [exc_end hc]; exact ho
def isOpen (x : Li) : Prop := x.word = wR ∨ x.word = wD
/-- Blocks stand one in the other. -/
def NestOk (X : List Li) : Prop := ∀ i j, i < j → j < endX X i → isOpen (liAt X i) → isOpen (liAt X j) → endX X j < endX X i
def RngOk (X : List Li) (a b : Nat) : Prop := ∀ j, a ≤ j → j < b → isOpen (liAt X j) → endX X j < b
/-- The calls of some lines are right. -/
def CalOk (X : List Li) (T : List Dn) (M : List (List G3)) (a b : Nat) : Prop := ∀ j, a ≤ j → j < b → (liAt X j).word = wC → 0 ≤ finR T (liAt X j).nm ((j : Nat) : Int) ∧ (finR T (liAt X j).nm ((j : Nat) : Int)).toNat < M.length ∧ MapOk (liAt X j).ar.length (gsx M (finR T (liAt X j).nm ((j : Nat) : Int)).toNat)
def ExpStmt (d : Nat) : Prop := ∀ {r n m g a z : Nat} {va vd vt : Value} {L : List LV} {T : List Dn} {G : List GV} {w : World}, n - a = d → Sl w (.slice (some ⟨r, 0, none⟩) 1 1) 2 1 [va, vd] → Sl w va 7 n (rls L) → RQ w L → Sl w vt 4 m (dns T) → Sl w vd 1 g (gvs G) → GQ w G →
  n ≤ 16777 → 1 ≤ n → a ≤ n → z ≤ n → NestOk (L.map (·.1)) → RngOk (L.map (·.1)) a z → CalOk (L.map (·.1)) T (G.map (·.1)) a z → (∀ k, (gsx (G.map (·.1)) k).length ≤ 400) → CallsOk (L.map (·.1)) →
  Calls Tryz.prog 48 #[.pointer (some ⟨r, 0, none⟩), vt, .int .i64 ((a : Nat) : Int), .int .i64 ((z : Nat) : Int)] w (Post No w fun v H => H = [.own v 69 3 (exc (L.map (·.1)) T (G.map (·.1)) a z []).length (ints (fl (exc (L.map (·.1)) T (G.map (·.1)) a z [])))])

set_option maxHeartbeats 16000000 in
set_option maxRecDepth 20000 in
theorem expand_step (d : Nat) (ih : ∀ d', d' < d → ExpStmt d') {r n m g a z : Nat} {va vd vt : Value} {L : List LV} {T : List Dn} {G : List GV} {w : World} (hd0 : n - a = d) (hr : Sl w (.slice (some ⟨r, 0, none⟩) 1 1) 2 1 [va, vd]) (ha : Sl w va 7 n (rls L)) (hA : RQ w L) (hd : Sl w vt 4 m (dns T)) (hg : Sl w vd 1 g (gvs G)) (hG : GQ w G) (hn16 : n ≤ 16777) (h1 : 1 ≤ n) (han : a ≤ n) (hzn : z ≤ n) (hnest : NestOk (L.map (·.1))) (hrng : RngOk (L.map (·.1)) a z) (hcal : CalOk (L.map (·.1)) T (G.map (·.1)) a z) (hM400 : ∀ k, (gsx (G.map (·.1)) k).length ≤ 400) (hcx : CallsOk (L.map (·.1))) : Calls Tryz.prog 48 #[.pointer (some ⟨r, 0, none⟩), vt, .int .i64 ((a : Nat) : Int), .int .i64 ((z : Nat) : Int)] w (Post No w fun v H => H = [.own v 69 3 (exc (L.map (·.1)) T (G.map (·.1)) a z []).length (ints (fl (exc (L.map (·.1)) T (G.map (·.1)) a z [])))]) := by
 have hLn : L.length = n := by have := ha.1; simp at this; omega
 have hn := ha.le
 obtain ⟨A, c, rfl, hnc, _⟩ := ha.form0
 obtain ⟨X, hX⟩ : ∃ X, L.map (·.1) = X := ⟨_, rfl⟩
 have hXl : X.length = n := by rw [← hX, List.length_map]; exact hLn
 obtain ⟨bl, ol, rfl⟩ := ha.opn h1
 obtain ⟨M, hM⟩ : ∃ M, G.map (·.1) = M := ⟨_, rfl⟩
 rw [hX] at hnest hrng hcal hcx ⊢
 rw [hM] at hcal hM400 ⊢
 have hMg : G.length = g := by have := hg.1; simp at this; omega
 have hgm := hg.le
 have hMl : M.length = g := by rw [← hM, List.length_map]; exact hMg
 obtain ⟨Ag, cg, rfl, hgc, _⟩ := hg.form0
 have hTm : T.length = m := by have := hd.1; simp at this; omega
 have hm := hd.le
 obtain ⟨Ad, cd, rfl, hmc, _⟩ := hd.form0
 refine enter (n := 91) (args := [.pointer (some ⟨r, 0, none⟩), .slice Ad m cd, .int .i64 (((a : Nat) : Int)), .int .i64 (((z : Nat) : Int))]) Tryz.func48 rfl rfl (St.empty _ _) ?_
 refine .sr ?_
 refine .m ?_
 refine .dsr ?_
 refine .m ?_
 refine .done ?_
 refine .seq ?_
 refine .seq ?_
 refine Run.weak (H' := [.own (.slice none 0 0) 69 3 0 (ints (fl []))]) (Weak.nilOwn _ _) ?_ ⟨_, _, rfl, fun _ => nofun, fun _ => nofun⟩
 refine .region ?_
 iterate 2 refine .m ?_
 refine .done ?_
 refine .block ?_
 refine Run.loop (ι := Nat × List G3 × Value) ([9, 10, 11, 12, 13, 14, 16, 17, 18, 19, 20, 21, 22, 23, 24, 25, 26, 27, 28, 29, 30, 31, 32, 33, 34, 35, 36, 37, 38, 39, 40, 41, 42, 43, 44, 45, 46, 47, 48, 49, 50, 51, 52, 53, 54, 55, 56, 57, 58, 59] ++ [60, 61, 62, 63, 64, 65, 66, 67, 68, 69, 70, 71, 72, 73, 74, 75, 76, 77, 78, 79, 80, 81, 82, 83, 84, 85, 86, 87, 88, 89]) (fun ⟨b, out, vo⟩ => [(9, vo), (10, .int .i64 (((b : Nat) : Int)))]) (fun ⟨b, out, vo⟩ => [.own vo 69 3 (out.length) (ints (fl out))]) (fun ⟨b, out, vo⟩ => a ≤ b ∧ exc X T M b z out = exc X T M a z [] ∧ out.length ≤ 800 + 400 * (n - a)) (fun ⟨b, out, vo⟩ => z - b) (a, [], .slice none 0 0) ?_ ?_ ?_ ?_
 ·exact ⟨Nat.le_refl _, rfl, by simp⟩
 ·exact ⟨rfl, rfl, trivial⟩
 ·exact ((Weak.refl _).trans (Some'.weak (.takeEq (by first | rfl | simp) (.nil _))))
 rintro ⟨b, out, vo⟩ fr hinv
 show Run _ _ (over _ _ [(9, vo), (10, .int .i64 (((b : Nat) : Int)))] fr) [.own vo 69 3 (out.length) (ints (fl out))]
 try dsimp only at hinv
 refine .seq ?_
 refine .sr ?_
 iterate 2 refine .m ?_
 refine .w (.bool (decide ((((b : Nat) : Int)) < (((z : Nat) : Int))))) ?_
 rcases Bool.eq_false_or_eq_true (decide ((((b : Nat) : Int)) < (((z : Nat) : Int)))) with h19 | h19
 ·refine .mb h19 ?_
  have p19 := h19; try simp only [bs] at p19
  refine .w vo ?_
  refine Run.formOwn (.head _) (fun A_vo1 c_vo1 hv hcapc_vo1 hmaxc_vo1 => ?_) (fun _ _ _ => ⟨nofun, nofun, nofun⟩)
  subst hv
  refine .u (.int .i64 (((out.length : Nat) : Int))) (.len Tsl_22 rfl) ?_
  refine .w (.bool (decide ((((out.length : Nat) : Int)) ≤ 400))) ?_
  refine .w (.bool (decide ((((out.length : Nat) : Int)) ≤ 400))) ?_
  refine .done ?_
  refine .cond (b := decide ((((out.length : Nat) : Int)) ≤ 400)) rfl (fun h23 => ?_) (fun h23 => ?_)
  ·have p23 := h23; try simp only [bs] at p23
   refine .skip ?_
   refine .seq ?_
   refine .block ?_
   refine .seq ?_
   obtain ⟨hab, hgo, hlo⟩ := hinv
   have hltb : b < z := by omega
   have ho4 : out.length ≤ 400 := by omega
   rw [exc_eq (by omega) hltb ho4] at hgo
   obtain ⟨x, hx⟩ : ∃ x, (tx L b).1 = x := ⟨_, rfl⟩
   obtain ⟨Aq, cq, hq, hqc, _⟩ := (hA b (by omega)).form0
   rw [hx] at hq hqc
   have hxX : liAt X b = x := by rw [← hX, ← tx_li, hx]
   rw [hxX] at hgo
   have hqa : Sl w (.slice Aq x.ar.length cq) 1 x.ar.length (ints x.ar) := by rw [← hq, ← hx]; exact hA b (by omega)
   obtain ⟨F, hF⟩ : ∃ F, finR T x.nm ((b : Nat) : Int) = F := ⟨_, rfl⟩
   have hnum := (hcx b (by omega)).num
   rw [hxX] at hnum
   have heb := endX_ge X b
   have hez := endX_le (X := X) (i := b) (by omega)
   have hpl := exc_len (T := T) hM400 _ (b + 1) (endX X b) [] rfl hez (by simp)
   rw [hXl] at hez hpl
   obtain ⟨K, hK⟩ : ∃ K, 800 + 400 * (n - a) = K := ⟨_, rfl⟩
   rw [hK] at hlo
   have hK2 : 800 + 400 * (n - (b + 1)) + 400 ≤ K := by omega
   have hK3 : K ≤ 6712000 := by omega
   refine .region ?_
   refine .m ?_
   refine .u (.pointer (some ⟨r, 0, none⟩)) (.nilCheck rfl) ?_
   refine .fa Tfo_54_0 ?_
   refine .u (.slice (some ⟨bl, ol, none⟩) n c) (.load1 Tone_51 rfl (Cells.env (k := 0) hr rfl (by decide) ⟨rfl, trivial⟩)) ?_
   refine .m ?_
   refine .u (.pointer (some ⟨bl, ol + b * 7, none⟩)) (.ix b Tsl_51) ?_
   refine .u (.agg #[sv (x.word), .int .i64 (x.g3.1), .int .i64 (x.g3.2.1), .int .i64 (x.g3.2.2), .int .i64 (x.num), sv (x.nm), .slice Aq (x.ar.length) cq]) (.loadN (cs := [sv (x.word), .int .i64 (x.g3.1), .int .i64 (x.g3.2.1), .int .i64 (x.g3.2.2), .int .i64 (x.num), sv (x.nm), .slice Aq (x.ar.length) cq]) Tagg_77 rfl (Cells.arg (k := b * 7) ha rfl (by omega) (rls_preF (k := b) (by omega) hx hq))) ?_
   refine .step rfl (.alloc (zs := [sv ([]), .int .i64 0, .int .i64 0, .int .i64 0, .int .i64 0, sv ([]), .slice none 0 0]) Tzero_77 fun b1 => ?_)
   refine .step rfl (.storeAll (us := [sv (x.word), .int .i64 (x.g3.1), .int .i64 (x.g3.2.1), .int .i64 (x.g3.2.2), .int .i64 (x.num), sv (x.nm), .slice Aq (x.ar.length) cq]) Tsize_77 rfl rfl rfl (.here _) rfl ?_)
   refine .dsr ?_
   refine .fa Tfo_77_0 ?_
   refine .u (sv (x.word)) (.load1 Tone_9 rfl (.b (.head _))) ?_
   refine .done ?_
   refine .block ?_
   refine .sr ?_
   refine .u (.bool ((x.word) == wG)) (.eqS rfl rfl) ?_
   refine .m ?_
   refine .done ?_
   refine .cond (b := (x.word) == wG) rfl (fun h35 => ?_) (fun h35 => ?_)
   ·have p35 := h35; try simp only [bs] at p35
    rw [if_pos p35] at hgo
    refine .region ?_
    refine .m ?_
    refine .fa Tfo_77_1 ?_
    refine .u (.agg #[.int .i64 (x.g3.1), .int .i64 (x.g3.2.1), .int .i64 (x.g3.2.2)]) (.loadN (cs := [.int .i64 (x.g3.1), .int .i64 (x.g3.2.1), .int .i64 (x.g3.2.2)]) Tagg_69 rfl (Cells.blk (.head _) ⟨rfl, rfl, rfl, trivial⟩)) ?_
    refine .step rfl (.buildSlice (us := [.int .i64 (x.g3.1), .int .i64 (x.g3.2.1), .int .i64 (x.g3.2.2)]) Tsl_22 (by decide) (by decide) ⟨rfl, [.int .i64 (x.g3.1), .int .i64 (x.g3.2.1), .int .i64 (x.g3.2.2)], _, rfl, rfl, rfl, rfl⟩ rfl fun b2 => ?_)
    refine .step rfl (.append (H1 := [.own (.slice (some ⟨b2, 0, none⟩) 1 1) 69 3 1 ([.int .i64 (x.g3.1), .int .i64 (x.g3.2.1), .int .i64 (x.g3.2.2)]), .blk b1 77 [sv (x.word), .int .i64 (x.g3.1), .int .i64 (x.g3.2.1), .int .i64 (x.g3.2.2), .int .i64 (x.num), sv (x.nm), .slice Aq (x.ar.length) cq]]) (H2 := []) (v := .slice A_vo1 (out.length) c_vo1) (u := .slice (some ⟨b2, 0, none⟩) 1 1) (n := out.length) (m := 1) (xs := ints (fl out)) (ys := [.int .i64 (x.g3.1), .int .i64 (x.g3.2.1), .int .i64 (x.g3.2.2)]) Tsl_22 (by decide) rfl rfl rfl rfl (fun w hs => hs.slOwn (.head _)) (by first | exact ints_all _ | simp [Value.oneCell']) (by omega) (by simp only [maxLen]; omega) fun av1 hnav1 => ?_)
    refine Run.weak (H' := [.own (.slice (some ⟨b2, 0, none⟩) 1 1) 69 3 1 ([.int .i64 (x.g3.1), .int .i64 (x.g3.2.1), .int .i64 (x.g3.2.2)]), .blk b1 77 [sv (x.word), .int .i64 (x.g3.1), .int .i64 (x.g3.2.1), .int .i64 (x.g3.2.2), .int .i64 (x.num), sv (x.nm), .slice Aq (x.ar.length) cq], .own av1 69 3 ((out ++ ([x.g3])).length) (ints (fl (out ++ ([x.g3]))))]) (Some'.weak (.take (.take (.takeEq (by first | (rw [List.length_append, List.length_map, fl_append, ints_append]; done) | (rw [List.length_append, fl_append, ints_append]; done) | (rw [List.length_append, fl_append, ints_append]; rfl)) (.nil _))))) ?_ ⟨_, _, rfl, fun _ => nofun, fun _ => nofun⟩
    refine .w av1 ?_
    refine .done ?_
    iterate 2 refine .blockEnd ?_
    refine .region ?_
    refine .m ?_
    refine .u (.int .i64 ((((b : Nat) : Int)) + 1)) (.add rfl rfl rfl (by omega) (by omega)) ?_
    refine .m ?_
    refine .done ?_
    refine .goal ⟨(by repeat (first | exact Same.refl _ _ | refine Same.put rfl ?_ | refine Same.over rfl rfl ?_)), (b + 1, (out ++ ([x.g3])), av1), ?_, ?_, ?_, ?_⟩
    ·refine ⟨by omega, by first | exact hgo | exact hgo3, ?_⟩
     rw [hK]; first | omega | (simp only [List.length_append, List.length_singleton]; omega)
    ·show z - (b + 1) < z - b; omega
    ·exact ⟨(by first | rfl | (congr 1; omega) | simp), (by first | rfl | (congr 1; omega) | simp), trivial⟩
    ·exact ((Weak.selF [2]).trans (Some'.weak (.takeEq (by first | rfl | simp) (.nil _))))
   have p35 := h35; try simp only [bs] at p35
   rw [if_neg p35] at hgo
   refine .sr ?_
   refine .u (.bool ((x.word) == wC)) (.eqS rfl rfl) ?_
   refine .m ?_
   refine .done ?_
   refine .cond (b := (x.word) == wC) rfl (fun h42 => ?_) (fun h42 => ?_)
   ·have p42 := h42; try simp only [bs] at p42
    rw [if_pos p42, callG, hF] at hgo
    obtain ⟨hF0, hF1, hmap⟩ := hcal b hab hltb (by rw [hxX]; exact p42)
    rw [hxX, hF] at hF0 hF1 hmap
    have hFg : F.toNat < g := by omega
    have hgs0 := hG F.toNat (by omega)
    obtain ⟨Af, cf, hgv, hgf1, hgf2⟩ := hgs0.form0
    obtain ⟨gf, hgf⟩ : ∃ q, (gvx G F.toNat).1.length = q := ⟨_, rfl⟩
    have hgs := hgs0
    rw [hgf] at hgv
    rw [hgv, hgf] at hgs
    have hgf4 : gf ≤ 400 := by rw [← hgf, gvx_gs, hM]; exact hM400 _
    rw [← hM, ← gvx_gs] at hmap
    rw [← hM, ← gvx_gs, hM] at hgo
    have hgl : ((gvx G F.toNat).1.map (mapG x.ar)).length = gf := by rw [List.length_map]; exact hgf
    obtain ⟨bg, og, rfl⟩ := hg.opn (by omega)
    refine .heldB (base := [.blk b1 77 [sv (x.word), .int .i64 (x.g3.1), .int .i64 (x.g3.2.1), .int .i64 (x.g3.2.2), .int .i64 (x.num), sv (x.nm), .slice Aq (x.ar.length) cq]]) (by kernel_rfl) ?_
    refine DW.m 0 rfl (Some'.weak (.take (.nil _))) ?_
    refine DW.m 1 rfl (Some'.weak (.take (.nil _))) ?_
    refine DW.t 2 rfl (Some'.weak (.take (.nil _))) (.pointer (some ⟨r, 0, none⟩)) (.nilCheck rfl) ?_
    refine DW.t 3 rfl (Some'.weak (.take (.nil _))) (.pointer (some ⟨r, 1, none⟩)) (.fieldAddr Tfo_54_1 rfl rfl) ?_
    refine DW.t 4 rfl (Some'.weak (.take (.nil _))) (.slice (some ⟨bg, og, none⟩) g cg) (.load1 Tone_52 rfl (Cells.env (k := 1) hr rfl (by decide) ⟨rfl, trivial⟩)) ?_
    refine DW.m 5 rfl (Some'.weak (.take (.nil _))) ?_
    refine DW.t 6 rfl (Some'.weak (.take (.nil _))) (.pointer (some ⟨b1, 5, none⟩)) (.fieldAddr Tfo_77_3 rfl rfl) ?_
    refine DW.t 7 rfl (Some'.weak (.take (.nil _))) (sv (x.nm)) (.load1 Tone_9 rfl (.b (.head _))) ?_
    refine DW.m 8 rfl (Some'.weak (.take (.nil _))) ?_
    refine DW.t 12 rfl (Some'.weak (.take (.nil _))) (.pointer (some ⟨b1, 6, none⟩)) (.fieldAddr Tfo_77_4 rfl rfl) ?_
    refine DW.t 13 rfl (Some'.weak (.take (.nil _))) (.slice Aq (x.ar.length) cq) (.load1 Tone_75 rfl (.b (.head _))) ?_
    refine DW.step (i := 9) (by kernel_rfl) rfl rfl (OpStep.q (v := .int .i64 F) (OpQ.call (vs := [.slice Ad m cd, sv (x.nm), .int .i64 (((b : Nat) : Int))]) (caps := []) Tcall_77 rfl rfl (fun w hs => (by have h := l5Find_spec (nm := x.nm) (i0 := ((b : Nat) : Int)) (hs.sl hd); rw [hF] at h; exact h))) ?_)
    refine ⟨(Some'.weak (.take (.nil _))), ?_⟩
    refine DW.t 10 rfl (Some'.weak (.take (.nil _))) (.pointer (some ⟨bg, og + F.toNat, none⟩)) (.ix (F.toNat) Tsl_52) ?_
    refine DW.t 11 rfl (Some'.weak (.take (.nil _))) (.slice Af gf cf) (.load1 Tone_22 rfl (Cells.arg (k := F.toNat) hg rfl (by omega) (gvs_pre (by omega) hgv))) ?_
    refine DW.step (i := 14) (by kernel_rfl) rfl rfl (OpStep.c [.slice Af gf cf, .slice Aq (x.ar.length) cq] Tcall_76 (fun w hs => (by have h := l5Put_spec (hs.sl hgs) (hs.sl hqa) hmap (by omega); exact h)) ?_)
    rintro v2 _ rfl
    refine ⟨(Some'.weak (.skip (.take (.nil _)))), ?_⟩
    refine DW.step (i := 15) (by kernel_rfl) rfl rfl (OpStep.append (H1 := [.own v2 69 3 ((gvx G F.toNat).1.length) (ints (fl ((gvx G F.toNat).1.map (mapG x.ar)))), .blk b1 77 [sv (x.word), .int .i64 (x.g3.1), .int .i64 (x.g3.2.1), .int .i64 (x.g3.2.2), .int .i64 (x.num), sv (x.nm), .slice Aq (x.ar.length) cq]]) (H2 := []) (v := .slice A_vo1 (out.length) c_vo1) (u := v2) (n := out.length) (m := (gvx G F.toNat).1.length) (xs := ints (fl out)) (ys := ints (fl ((gvx G F.toNat).1.map (mapG x.ar)))) Tsl_22 (by decide) rfl rfl rfl rfl (fun w hs => hs.slOwn (.head _)) (by first | exact ints_all _ | simp [Value.oneCell']) (by omega) (by simp only [maxLen]; omega) fun av2 hnav2 => ?_)
    refine DW.weakS (H' := [.own v2 69 3 ((gvx G F.toNat).1.length) (ints (fl ((gvx G F.toNat).1.map (mapG x.ar)))), .blk b1 77 [sv (x.word), .int .i64 (x.g3.1), .int .i64 (x.g3.2.1), .int .i64 (x.g3.2.2), .int .i64 (x.num), sv (x.nm), .slice Aq (x.ar.length) cq], .own av2 69 3 ((out ++ (((gvx G F.toNat).1.map (mapG x.ar)))).length) (ints (fl (out ++ (((gvx G F.toNat).1.map (mapG x.ar))))))]) (Some'.weak (.take (.take (.takeEq (by first | (rw [List.length_append, List.length_map, fl_append, ints_append]; done) | (rw [List.length_append, fl_append, ints_append]; done) | (rw [List.length_append, fl_append, ints_append]; rfl)) (.nil _))))) ?_
    refine ⟨(Some'.weak (.skip (.take (.nil _)))), ?_⟩
    refine DW.t 16 rfl (Some'.weak (.skip (.take (.nil _)))) av2 (.pure rfl) ?_
    refine DW.done (by kernel_rfl) ?_
    iterate 2 refine .blockEnd ?_
    refine .region ?_
    refine .m ?_
    refine .u (.int .i64 ((((b : Nat) : Int)) + 1)) (.add rfl rfl rfl (by omega) (by omega)) ?_
    refine .m ?_
    refine .done ?_
    refine .goal ⟨(by repeat (first | exact Same.refl _ _ | refine Same.put rfl ?_ | refine Same.over rfl rfl ?_)), (b + 1, (out ++ (((gvx G F.toNat).1.map (mapG x.ar)))), av2), ?_, ?_, ?_, ?_⟩
    ·refine ⟨by omega, by first | exact hgo | exact hgo3, ?_⟩
     rw [hK]; first | omega | (simp only [List.length_append, List.length_singleton]; omega)
    ·show z - (b + 1) < z - b; omega
    ·exact ⟨(by first | rfl | (congr 1; omega) | simp), (by first | rfl | (congr 1; omega) | simp), trivial⟩
    ·exact ((Weak.selF [2]).trans (Some'.weak (.takeEq (by first | rfl | simp) (.nil _))))
   have p42 := h42; try simp only [bs] at p42
   rw [if_neg p42] at hgo
   refine .seq ?_
   refine .sr ?_
   refine .u (.bool ((x.word) == wR)) (.eqS rfl rfl) ?_
   refine .m ?_
   refine .done ?_
   refine .cond (b := (x.word) == wR) rfl (fun h60 => ?_) (fun h60 => ?_)
   ·have p60 := h60; try simp only [bs] at p60
    rw [h60]
    refine .skip ?_
    refine .cond (b := true) rfl (fun _ => ?_) (fun h => nomatch h)
    refine .sr ?_
    iterate 2 refine .m ?_
    refine .c (.int .i64 (((endX X b : Nat) : Int))) [.pointer (some ⟨r, 0, none⟩), .int .i64 (((b : Nat) : Int))] Tcall_78 (fun w hs => (by have h := end_spec (i0 := b) (hs.sl hr) (hs.sl ha) (hA.go hs) (by omega) h1 (by omega); rw [hX] at h; exact h)) ?_
    refine .m ?_
    refine .done ?_
    refine .seq ?_
    refine .sr ?_
    refine .fa Tfo_77_0 ?_
    refine .u (sv (x.word)) (.load1 Tone_9 rfl (.b (.head _))) ?_
    refine .u (.bool ((x.word) == wR)) (.eqS rfl rfl) ?_
    refine .done ?_
    refine .cond (b := (x.word) == wR) rfl (fun h68 => ?_) (fun h68 => ?_)
    ·have p68 := h68; try simp only [bs] at p68
     rw [if_pos p68] at hgo
     have hrng2 : RngOk X (b + 1) (endX X b) := fun j hj1 hj2 hj3 => hnest b j (by omega) hj2 (.inl (by rw [hxX]; exact p68)) hj3
     have hez2 : endX X b < z := hrng b hab hltb (.inl (by rw [hxX]; exact p68))
     have hcal2 : CalOk X T M (b + 1) (endX X b) := fun j hj1 hj2 => hcal j (by omega) (by omega)
     refine .sr ?_
     iterate 3 refine .m ?_
     refine .u (.int .i64 ((((b : Nat) : Int)) + 1)) (.add rfl rfl rfl (by omega) (by omega)) ?_
     refine .m ?_
     refine .step rfl (.c [.pointer (some ⟨r, 0, none⟩), .slice Ad m cd, .int .i64 ((((b : Nat) : Int)) + 1), .int .i64 (((endX X b : Nat) : Int))] Tcall_48 (fun w hs => (by have h := ih (n - (b + 1)) (by omega) (a := b + 1) (z := endX X b) rfl (hs.sl hr) (hs.sl ha) (hA.go hs) (hs.sl hd) (hs.sl hg) (hG.go hs) hn16 h1 (by omega) hez (by rw [hX]; exact hnest) (by rw [hX]; exact hrng2) (by rw [hX, hM]; exact hcal2) (by rw [hM]; exact hM400) (by rw [hX]; exact hcx); rw [hX, hM] at h; exact h)) ?_)
     rintro v1 _ rfl
     show Run _ _ (putF _ _ _ v1) [.own v1 69 3 ((exc X T M (b + 1) (endX X b) []).length) (ints (fl (exc X T M (b + 1) (endX X b) []))), .blk b1 77 [sv (x.word), .int .i64 (x.g3.1), .int .i64 (x.g3.2.1), .int .i64 (x.g3.2.2), .int .i64 (x.num), sv (x.nm), .slice Aq (x.ar.length) cq], .own (.slice A_vo1 (out.length) c_vo1) 69 3 (out.length) (ints (fl out))]
     refine .w v1 ?_
     refine .dsr ?_
     refine .m ?_
     refine .done ?_
     refine .block ?_
     refine Run.loop (ι := Nat × List G3 × Value) [9, 14, 75, 76, 77, 78, 79, 80, 81, 82, 83, 84, 85, 86, 87, 88] (fun ⟨i, o2, vo2⟩ => [(9, vo2), (14, .int .i64 (((i : Nat) : Int)))]) (fun ⟨i, o2, vo2⟩ => [.own vo2 69 3 (o2.length) (ints (fl o2)), .own v1 69 3 ((exc X T M (b + 1) (endX X b) []).length) (ints (fl (exc X T M (b + 1) (endX X b) []))), .blk b1 77 [sv (x.word), .int .i64 (x.g3.1), .int .i64 (x.g3.2.1), .int .i64 (x.g3.2.2), .int .i64 (x.num), sv (x.nm), .slice Aq (x.ar.length) cq]]) (fun ⟨i, o2, vo2⟩ => i ≤ x.num.toNat ∧ repR (exc X T M (b + 1) (endX X b) []) (x.num.toNat - i) o2 = repR (exc X T M (b + 1) (endX X b) []) x.num.toNat out ∧ o2.length ≤ K) (fun ⟨i, o2, vo2⟩ => x.num.toNat - i) (0, out, .slice A_vo1 (out.length) c_vo1) ?_ ?_ ?_ ?_
     ·exact ⟨Nat.zero_le _, rfl, hlo⟩
     ·exact ⟨rfl, rfl, trivial⟩
     ·exact ((Weak.selF [2, 0, 0]).trans (Some'.weak (.takeEq (by first | rfl | simp) (.take (.take (.nil _))))))
     rintro ⟨i, o2, vo2⟩ fr hinv
     show Run _ _ (over _ _ [(9, vo2), (14, .int .i64 (((i : Nat) : Int)))] fr) [.own vo2 69 3 (o2.length) (ints (fl o2)), .own v1 69 3 ((exc X T M (b + 1) (endX X b) []).length) (ints (fl (exc X T M (b + 1) (endX X b) []))), .blk b1 77 [sv (x.word), .int .i64 (x.g3.1), .int .i64 (x.g3.2.1), .int .i64 (x.g3.2.2), .int .i64 (x.num), sv (x.nm), .slice Aq (x.ar.length) cq]]
     try dsimp only at hinv
     refine .seq ?_
     refine .sr ?_
     refine .m ?_
     refine .fa Tfo_77_2 ?_
     refine .u (.int .i64 (x.num)) (.load1 Tone_3 rfl (.b (.tail _ (.tail _ (.head _))))) ?_
     refine .w (.bool (decide ((((i : Nat) : Int)) < (x.num)))) ?_
     rcases Bool.eq_false_or_eq_true (decide ((((i : Nat) : Int)) < (x.num))) with h79 | h79
     ·refine .mb h79 ?_
      have p79 := h79; try simp only [bs] at p79
      refine .w vo2 ?_
      refine Run.formOwn (.head _) (fun A_vo21 c_vo21 hv hcapc_vo21 hmaxc_vo21 => ?_) (fun _ _ _ => ⟨nofun, nofun, nofun⟩)
      subst hv
      refine .u (.int .i64 (((o2.length : Nat) : Int))) (.len Tsl_22 rfl) ?_
      refine .w (.bool (decide ((((o2.length : Nat) : Int)) ≤ 400))) ?_
      refine .w (.bool (decide ((((o2.length : Nat) : Int)) ≤ 400))) ?_
      refine .done ?_
      refine .cond (b := decide ((((o2.length : Nat) : Int)) ≤ 400)) rfl (fun h83 => ?_) (fun h83 => ?_)
      ·have p83 := h83; try simp only [bs] at p83
       refine .skip ?_
       refine .seq ?_
       refine .block ?_
       obtain ⟨hi1, hi2, hi3⟩ := hinv
       have hi4 := hi2
       rw [show x.num.toNat - i = (x.num.toNat - (i + 1)) + 1 by omega, repR, if_pos (by omega)] at hi4
       refine .region ?_
       refine .m ?_
       refine .w v1 ?_
       refine .step rfl (.append (H1 := []) (H2 := [.own v1 69 3 ((exc X T M (b + 1) (endX X b) []).length) (ints (fl (exc X T M (b + 1) (endX X b) []))), .blk b1 77 [sv (x.word), .int .i64 (x.g3.1), .int .i64 (x.g3.2.1), .int .i64 (x.g3.2.2), .int .i64 (x.num), sv (x.nm), .slice Aq (x.ar.length) cq]]) (v := .slice A_vo21 (o2.length) c_vo21) (u := v1) (n := o2.length) (m := (exc X T M (b + 1) (endX X b) []).length) (xs := ints (fl o2)) (ys := ints (fl (exc X T M (b + 1) (endX X b) []))) Tsl_22 (by decide) rfl rfl rfl rfl (fun w hs => hs.slOwn (.tail _ (.head _))) (by first | exact ints_all _ | simp [Value.oneCell']) (by omega) (by simp only [maxLen]; omega) fun av3 hnav3 => ?_)
       refine Run.weak (H' := [.own av3 69 3 ((o2 ++ ((exc X T M (b + 1) (endX X b) []))).length) (ints (fl (o2 ++ ((exc X T M (b + 1) (endX X b) []))))), .own v1 69 3 ((exc X T M (b + 1) (endX X b) []).length) (ints (fl (exc X T M (b + 1) (endX X b) []))), .blk b1 77 [sv (x.word), .int .i64 (x.g3.1), .int .i64 (x.g3.2.1), .int .i64 (x.g3.2.2), .int .i64 (x.num), sv (x.nm), .slice Aq (x.ar.length) cq]]) (Some'.weak (.takeEq (by first | (rw [List.length_append, List.length_map, fl_append, ints_append]; done) | (rw [List.length_append, fl_append, ints_append]; done) | (rw [List.length_append, fl_append, ints_append]; rfl)) (.take (.take (.nil _))))) ?_ ⟨_, _, rfl, fun _ => nofun, fun _ => nofun⟩
       refine .w av3 ?_
       refine .done ?_
       refine .blockEnd ?_
       refine .region ?_
       refine .m ?_
       refine .u (.int .i64 ((((i : Nat) : Int)) + 1)) (.add rfl rfl rfl (by omega) (by omega)) ?_
       refine .m ?_
       refine .done ?_
       refine .goal ⟨(by repeat (first | exact Same.refl _ _ | refine Same.put rfl ?_ | refine Same.over rfl rfl ?_)), (i + 1, (o2 ++ ((exc X T M (b + 1) (endX X b) []))), av3), ?_, ?_, ?_, ?_⟩
       ·refine ⟨by omega, hi4, ?_⟩
        rw [List.length_append]; omega
       ·show x.num.toNat - (i + 1) < x.num.toNat - i; omega
       ·exact ⟨(by first | rfl | (congr 1; omega) | simp), (by first | rfl | (congr 1; omega) | simp), trivial⟩
       ·exact ((Weak.refl _).trans (Some'.weak (.takeEq (by first | rfl | simp) (.takeEq (by first | rfl | simp) (.take (.nil _))))))
      have p83 := h83; try simp only [bs] at p83
      refine .exit rfl ?_
      obtain ⟨hi1, hi2, hi3⟩ := hinv
      have hgo3 := hgo
      have hro : repR (exc X T M (b + 1) (endX X b) []) x.num.toNat out = o2 := by
       rw [← hi2]
       by_cases hz : x.num.toNat - i = 0
       ·rw [hz, repR]
       ·rw [show x.num.toNat - i = (x.num.toNat - (i + 1)) + 1 by omega, repR, if_neg (by omega)]
      rw [hro] at hgo3
      refine .region ?_
      iterate 2 refine .m ?_
      refine .done ?_
      iterate 2 refine .blockEnd ?_
      refine .region ?_
      refine .m ?_
      refine .u (.int .i64 ((((endX X b : Nat) : Int)) + 1)) (.add rfl rfl rfl (by omega) (by omega)) ?_
      refine .m ?_
      refine .done ?_
      refine .goal ⟨(by repeat (first | exact Same.refl _ _ | refine Same.put rfl ?_ | refine Same.over rfl rfl ?_)), (endX X b + 1, o2, .slice A_vo21 (o2.length) c_vo21), ?_, ?_, ?_, ?_⟩
      ·refine ⟨by omega, by first | exact hgo | exact hgo3, ?_⟩
       rw [hK]; first | omega | (simp only [List.length_append, List.length_singleton]; omega)
      ·show z - (endX X b + 1) < z - b; omega
      ·exact ⟨(by first | rfl | (congr 1; omega) | simp), (by first | rfl | (congr 1; omega) | simp), trivial⟩
      ·exact ((Weak.refl _).trans (Some'.weak (.takeEq (by first | rfl | simp) (.nil _))))
     refine .mb h79 ?_
     have p79 := h79; try simp only [bs] at p79
     iterate 3 refine .pass rfl ?_
     refine .w (.bool false) ?_
     refine .done ?_
     refine .cond (b := false) rfl (fun h => nomatch h) (fun _ => ?_)
     refine .exit rfl ?_
     obtain ⟨hi1, hi2, hi3⟩ := hinv
     have hgo3 := hgo
     have hro : repR (exc X T M (b + 1) (endX X b) []) x.num.toNat out = o2 := by
      rw [← hi2]
      by_cases hz : x.num.toNat - i = 0
      ·rw [hz, repR]
      ·rw [show x.num.toNat - i = (x.num.toNat - (i + 1)) + 1 by omega, repR, if_neg (by omega)]
     rw [hro] at hgo3
     refine .region ?_
     iterate 2 refine .m ?_
     refine .done ?_
     iterate 2 refine .blockEnd ?_
     refine .region ?_
     refine .m ?_
     refine .u (.int .i64 ((((endX X b : Nat) : Int)) + 1)) (.add rfl rfl rfl (by omega) (by omega)) ?_
     refine .m ?_
     refine .done ?_
     refine .goal ⟨(by repeat (first | exact Same.refl _ _ | refine Same.put rfl ?_ | refine Same.over rfl rfl ?_)), (endX X b + 1, o2, vo2), ?_, ?_, ?_, ?_⟩
     ·refine ⟨by omega, by first | exact hgo | exact hgo3, ?_⟩
      rw [hK]; first | omega | (simp only [List.length_append, List.length_singleton]; omega)
     ·show z - (endX X b + 1) < z - b; omega
     ·exact ⟨(by first | rfl | (congr 1; omega) | simp), (by first | rfl | (congr 1; omega) | simp), trivial⟩
     ·exact ((Weak.refl _).trans (Some'.weak (.takeEq (by first | rfl | simp) (.nil _))))
    have p68 := h68; try simp only [bs] at p68
    have hez2 : endX X b < z := hrng b hab hltb (by first | exact .inl (by rw [hxX]; exact p60) | exact .inr (by rw [hxX]; exact p60))
    rw [if_neg p68, if_pos (by first | exact p60 | exact absurd p60 p68)] at hgo
    refine .skip ?_
    refine .region ?_
    iterate 2 refine .m ?_
    refine .done ?_
    iterate 2 refine .blockEnd ?_
    refine .region ?_
    refine .m ?_
    refine .u (.int .i64 ((((endX X b : Nat) : Int)) + 1)) (.add rfl rfl rfl (by omega) (by omega)) ?_
    refine .m ?_
    refine .done ?_
    refine .goal ⟨(by repeat (first | exact Same.refl _ _ | refine Same.put rfl ?_ | refine Same.over rfl rfl ?_)), (endX X b + 1, out, .slice A_vo1 (out.length) c_vo1), ?_, ?_, ?_, ?_⟩
    ·refine ⟨by omega, by first | exact hgo | exact hgo3, ?_⟩
     rw [hK]; first | omega | (simp only [List.length_append, List.length_singleton]; omega)
    ·show z - (endX X b + 1) < z - b; omega
    ·exact ⟨(by first | rfl | (congr 1; omega) | simp), (by first | rfl | (congr 1; omega) | simp), trivial⟩
    ·exact ((Weak.selF [1]).trans (Some'.weak (.takeEq (by first | rfl | simp) (.nil _))))
   have p60 := h60; try simp only [bs] at p60
   have h60a := p60
   refine .region ?_
   refine .u (.bool ((x.word) == wD)) (.eqS rfl rfl) ?_
   refine .m ?_
   refine .done ?_
   refine .cond (b := (x.word) == wD) rfl (fun h60 => ?_) (fun h60 => ?_)
   ·have p60 := h60; try simp only [bs] at p60
    refine .sr ?_
    iterate 2 refine .m ?_
    refine .c (.int .i64 (((endX X b : Nat) : Int))) [.pointer (some ⟨r, 0, none⟩), .int .i64 (((b : Nat) : Int))] Tcall_78 (fun w hs => (by have h := end_spec (i0 := b) (hs.sl hr) (hs.sl ha) (hA.go hs) (by omega) h1 (by omega); rw [hX] at h; exact h)) ?_
    refine .m ?_
    refine .done ?_
    refine .seq ?_
    refine .sr ?_
    refine .fa Tfo_77_0 ?_
    refine .u (sv (x.word)) (.load1 Tone_9 rfl (.b (.head _))) ?_
    refine .u (.bool ((x.word) == wR)) (.eqS rfl rfl) ?_
    refine .done ?_
    refine .cond (b := (x.word) == wR) rfl (fun h68 => ?_) (fun h68 => ?_)
    ·have p68 := h68; try simp only [bs] at p68
     rw [if_pos p68] at hgo
     have hrng2 : RngOk X (b + 1) (endX X b) := fun j hj1 hj2 hj3 => hnest b j (by omega) hj2 (.inl (by rw [hxX]; exact p68)) hj3
     have hez2 : endX X b < z := hrng b hab hltb (.inl (by rw [hxX]; exact p68))
     have hcal2 : CalOk X T M (b + 1) (endX X b) := fun j hj1 hj2 => hcal j (by omega) (by omega)
     refine .sr ?_
     iterate 3 refine .m ?_
     refine .u (.int .i64 ((((b : Nat) : Int)) + 1)) (.add rfl rfl rfl (by omega) (by omega)) ?_
     refine .m ?_
     refine .step rfl (.c [.pointer (some ⟨r, 0, none⟩), .slice Ad m cd, .int .i64 ((((b : Nat) : Int)) + 1), .int .i64 (((endX X b : Nat) : Int))] Tcall_48 (fun w hs => (by have h := ih (n - (b + 1)) (by omega) (a := b + 1) (z := endX X b) rfl (hs.sl hr) (hs.sl ha) (hA.go hs) (hs.sl hd) (hs.sl hg) (hG.go hs) hn16 h1 (by omega) hez (by rw [hX]; exact hnest) (by rw [hX]; exact hrng2) (by rw [hX, hM]; exact hcal2) (by rw [hM]; exact hM400) (by rw [hX]; exact hcx); rw [hX, hM] at h; exact h)) ?_)
     rintro v1 _ rfl
     show Run _ _ (putF _ _ _ v1) [.own v1 69 3 ((exc X T M (b + 1) (endX X b) []).length) (ints (fl (exc X T M (b + 1) (endX X b) []))), .blk b1 77 [sv (x.word), .int .i64 (x.g3.1), .int .i64 (x.g3.2.1), .int .i64 (x.g3.2.2), .int .i64 (x.num), sv (x.nm), .slice Aq (x.ar.length) cq], .own (.slice A_vo1 (out.length) c_vo1) 69 3 (out.length) (ints (fl out))]
     refine .w v1 ?_
     refine .dsr ?_
     refine .m ?_
     refine .done ?_
     refine .block ?_
     refine Run.loop (ι := Nat × List G3 × Value) [9, 14, 75, 76, 77, 78, 79, 80, 81, 82, 83, 84, 85, 86, 87, 88] (fun ⟨i, o2, vo2⟩ => [(9, vo2), (14, .int .i64 (((i : Nat) : Int)))]) (fun ⟨i, o2, vo2⟩ => [.own vo2 69 3 (o2.length) (ints (fl o2)), .own v1 69 3 ((exc X T M (b + 1) (endX X b) []).length) (ints (fl (exc X T M (b + 1) (endX X b) []))), .blk b1 77 [sv (x.word), .int .i64 (x.g3.1), .int .i64 (x.g3.2.1), .int .i64 (x.g3.2.2), .int .i64 (x.num), sv (x.nm), .slice Aq (x.ar.length) cq]]) (fun ⟨i, o2, vo2⟩ => i ≤ x.num.toNat ∧ repR (exc X T M (b + 1) (endX X b) []) (x.num.toNat - i) o2 = repR (exc X T M (b + 1) (endX X b) []) x.num.toNat out ∧ o2.length ≤ K) (fun ⟨i, o2, vo2⟩ => x.num.toNat - i) (0, out, .slice A_vo1 (out.length) c_vo1) ?_ ?_ ?_ ?_
     ·exact ⟨Nat.zero_le _, rfl, hlo⟩
     ·exact ⟨rfl, rfl, trivial⟩
     ·exact ((Weak.selF [2, 0, 0]).trans (Some'.weak (.takeEq (by first | rfl | simp) (.take (.take (.nil _))))))
     rintro ⟨i, o2, vo2⟩ fr hinv
     show Run _ _ (over _ _ [(9, vo2), (14, .int .i64 (((i : Nat) : Int)))] fr) [.own vo2 69 3 (o2.length) (ints (fl o2)), .own v1 69 3 ((exc X T M (b + 1) (endX X b) []).length) (ints (fl (exc X T M (b + 1) (endX X b) []))), .blk b1 77 [sv (x.word), .int .i64 (x.g3.1), .int .i64 (x.g3.2.1), .int .i64 (x.g3.2.2), .int .i64 (x.num), sv (x.nm), .slice Aq (x.ar.length) cq]]
     try dsimp only at hinv
     refine .seq ?_
     refine .sr ?_
     refine .m ?_
     refine .fa Tfo_77_2 ?_
     refine .u (.int .i64 (x.num)) (.load1 Tone_3 rfl (.b (.tail _ (.tail _ (.head _))))) ?_
     refine .w (.bool (decide ((((i : Nat) : Int)) < (x.num)))) ?_
     rcases Bool.eq_false_or_eq_true (decide ((((i : Nat) : Int)) < (x.num))) with h79 | h79
     ·refine .mb h79 ?_
      have p79 := h79; try simp only [bs] at p79
      refine .w vo2 ?_
      refine Run.formOwn (.head _) (fun A_vo22 c_vo22 hv hcapc_vo22 hmaxc_vo22 => ?_) (fun _ _ _ => ⟨nofun, nofun, nofun⟩)
      subst hv
      refine .u (.int .i64 (((o2.length : Nat) : Int))) (.len Tsl_22 rfl) ?_
      refine .w (.bool (decide ((((o2.length : Nat) : Int)) ≤ 400))) ?_
      refine .w (.bool (decide ((((o2.length : Nat) : Int)) ≤ 400))) ?_
      refine .done ?_
      refine .cond (b := decide ((((o2.length : Nat) : Int)) ≤ 400)) rfl (fun h83 => ?_) (fun h83 => ?_)
      ·have p83 := h83; try simp only [bs] at p83
       refine .skip ?_
       refine .seq ?_
       refine .block ?_
       obtain ⟨hi1, hi2, hi3⟩ := hinv
       have hi4 := hi2
       rw [show x.num.toNat - i = (x.num.toNat - (i + 1)) + 1 by omega, repR, if_pos (by omega)] at hi4
       refine .region ?_
       refine .m ?_
       refine .w v1 ?_
       refine .step rfl (.append (H1 := []) (H2 := [.own v1 69 3 ((exc X T M (b + 1) (endX X b) []).length) (ints (fl (exc X T M (b + 1) (endX X b) []))), .blk b1 77 [sv (x.word), .int .i64 (x.g3.1), .int .i64 (x.g3.2.1), .int .i64 (x.g3.2.2), .int .i64 (x.num), sv (x.nm), .slice Aq (x.ar.length) cq]]) (v := .slice A_vo22 (o2.length) c_vo22) (u := v1) (n := o2.length) (m := (exc X T M (b + 1) (endX X b) []).length) (xs := ints (fl o2)) (ys := ints (fl (exc X T M (b + 1) (endX X b) []))) Tsl_22 (by decide) rfl rfl rfl rfl (fun w hs => hs.slOwn (.tail _ (.head _))) (by first | exact ints_all _ | simp [Value.oneCell']) (by omega) (by simp only [maxLen]; omega) fun av4 hnav4 => ?_)
       refine Run.weak (H' := [.own av4 69 3 ((o2 ++ ((exc X T M (b + 1) (endX X b) []))).length) (ints (fl (o2 ++ ((exc X T M (b + 1) (endX X b) []))))), .own v1 69 3 ((exc X T M (b + 1) (endX X b) []).length) (ints (fl (exc X T M (b + 1) (endX X b) []))), .blk b1 77 [sv (x.word), .int .i64 (x.g3.1), .int .i64 (x.g3.2.1), .int .i64 (x.g3.2.2), .int .i64 (x.num), sv (x.nm), .slice Aq (x.ar.length) cq]]) (Some'.weak (.takeEq (by first | (rw [List.length_append, List.length_map, fl_append, ints_append]; done) | (rw [List.length_append, fl_append, ints_append]; done) | (rw [List.length_append, fl_append, ints_append]; rfl)) (.take (.take (.nil _))))) ?_ ⟨_, _, rfl, fun _ => nofun, fun _ => nofun⟩
       refine .w av4 ?_
       refine .done ?_
       refine .blockEnd ?_
       refine .region ?_
       refine .m ?_
       refine .u (.int .i64 ((((i : Nat) : Int)) + 1)) (.add rfl rfl rfl (by omega) (by omega)) ?_
       refine .m ?_
       refine .done ?_
       refine .goal ⟨(by repeat (first | exact Same.refl _ _ | refine Same.put rfl ?_ | refine Same.over rfl rfl ?_)), (i + 1, (o2 ++ ((exc X T M (b + 1) (endX X b) []))), av4), ?_, ?_, ?_, ?_⟩
       ·refine ⟨by omega, hi4, ?_⟩
        rw [List.length_append]; omega
       ·show x.num.toNat - (i + 1) < x.num.toNat - i; omega
       ·exact ⟨(by first | rfl | (congr 1; omega) | simp), (by first | rfl | (congr 1; omega) | simp), trivial⟩
       ·exact ((Weak.refl _).trans (Some'.weak (.takeEq (by first | rfl | simp) (.takeEq (by first | rfl | simp) (.take (.nil _))))))
      have p83 := h83; try simp only [bs] at p83
      refine .exit rfl ?_
      obtain ⟨hi1, hi2, hi3⟩ := hinv
      have hgo3 := hgo
      have hro : repR (exc X T M (b + 1) (endX X b) []) x.num.toNat out = o2 := by
       rw [← hi2]
       by_cases hz : x.num.toNat - i = 0
       ·rw [hz, repR]
       ·rw [show x.num.toNat - i = (x.num.toNat - (i + 1)) + 1 by omega, repR, if_neg (by omega)]
      rw [hro] at hgo3
      refine .region ?_
      iterate 2 refine .m ?_
      refine .done ?_
      iterate 2 refine .blockEnd ?_
      refine .region ?_
      refine .m ?_
      refine .u (.int .i64 ((((endX X b : Nat) : Int)) + 1)) (.add rfl rfl rfl (by omega) (by omega)) ?_
      refine .m ?_
      refine .done ?_
      refine .goal ⟨(by repeat (first | exact Same.refl _ _ | refine Same.put rfl ?_ | refine Same.over rfl rfl ?_)), (endX X b + 1, o2, .slice A_vo22 (o2.length) c_vo22), ?_, ?_, ?_, ?_⟩
      ·refine ⟨by omega, by first | exact hgo | exact hgo3, ?_⟩
       rw [hK]; first | omega | (simp only [List.length_append, List.length_singleton]; omega)
      ·show z - (endX X b + 1) < z - b; omega
      ·exact ⟨(by first | rfl | (congr 1; omega) | simp), (by first | rfl | (congr 1; omega) | simp), trivial⟩
      ·exact ((Weak.refl _).trans (Some'.weak (.takeEq (by first | rfl | simp) (.nil _))))
     refine .mb h79 ?_
     have p79 := h79; try simp only [bs] at p79
     iterate 3 refine .pass rfl ?_
     refine .w (.bool false) ?_
     refine .done ?_
     refine .cond (b := false) rfl (fun h => nomatch h) (fun _ => ?_)
     refine .exit rfl ?_
     obtain ⟨hi1, hi2, hi3⟩ := hinv
     have hgo3 := hgo
     have hro : repR (exc X T M (b + 1) (endX X b) []) x.num.toNat out = o2 := by
      rw [← hi2]
      by_cases hz : x.num.toNat - i = 0
      ·rw [hz, repR]
      ·rw [show x.num.toNat - i = (x.num.toNat - (i + 1)) + 1 by omega, repR, if_neg (by omega)]
     rw [hro] at hgo3
     refine .region ?_
     iterate 2 refine .m ?_
     refine .done ?_
     iterate 2 refine .blockEnd ?_
     refine .region ?_
     refine .m ?_
     refine .u (.int .i64 ((((endX X b : Nat) : Int)) + 1)) (.add rfl rfl rfl (by omega) (by omega)) ?_
     refine .m ?_
     refine .done ?_
     refine .goal ⟨(by repeat (first | exact Same.refl _ _ | refine Same.put rfl ?_ | refine Same.over rfl rfl ?_)), (endX X b + 1, o2, vo2), ?_, ?_, ?_, ?_⟩
     ·refine ⟨by omega, by first | exact hgo | exact hgo3, ?_⟩
      rw [hK]; first | omega | (simp only [List.length_append, List.length_singleton]; omega)
     ·show z - (endX X b + 1) < z - b; omega
     ·exact ⟨(by first | rfl | (congr 1; omega) | simp), (by first | rfl | (congr 1; omega) | simp), trivial⟩
     ·exact ((Weak.refl _).trans (Some'.weak (.takeEq (by first | rfl | simp) (.nil _))))
    have p68 := h68; try simp only [bs] at p68
    have hez2 : endX X b < z := hrng b hab hltb (by first | exact .inl (by rw [hxX]; exact p60) | exact .inr (by rw [hxX]; exact p60))
    rw [if_neg p68, if_pos (by first | exact p60 | exact absurd p60 p68)] at hgo
    refine .skip ?_
    refine .region ?_
    iterate 2 refine .m ?_
    refine .done ?_
    iterate 2 refine .blockEnd ?_
    refine .region ?_
    refine .m ?_
    refine .u (.int .i64 ((((endX X b : Nat) : Int)) + 1)) (.add rfl rfl rfl (by omega) (by omega)) ?_
    refine .m ?_
    refine .done ?_
    refine .goal ⟨(by repeat (first | exact Same.refl _ _ | refine Same.put rfl ?_ | refine Same.over rfl rfl ?_)), (endX X b + 1, out, .slice A_vo1 (out.length) c_vo1), ?_, ?_, ?_, ?_⟩
    ·refine ⟨by omega, by first | exact hgo | exact hgo3, ?_⟩
     rw [hK]; first | omega | (simp only [List.length_append, List.length_singleton]; omega)
    ·show z - (endX X b + 1) < z - b; omega
    ·exact ⟨(by first | rfl | (congr 1; omega) | simp), (by first | rfl | (congr 1; omega) | simp), trivial⟩
    ·exact ((Weak.selF [1]).trans (Some'.weak (.takeEq (by first | rfl | simp) (.nil _))))
   have p60 := h60; try simp only [bs] at p60
   rw [if_neg h60a, if_neg p60] at hgo
   refine .skip ?_
   iterate 2 refine .blockEnd ?_
   refine .region ?_
   refine .m ?_
   refine .u (.int .i64 ((((b : Nat) : Int)) + 1)) (.add rfl rfl rfl (by omega) (by omega)) ?_
   refine .m ?_
   refine .done ?_
   refine .goal ⟨(by repeat (first | exact Same.refl _ _ | refine Same.put rfl ?_ | refine Same.over rfl rfl ?_)), (b + 1, out, .slice A_vo1 (out.length) c_vo1), ?_, ?_, ?_, ?_⟩
   ·refine ⟨by omega, by first | exact hgo | exact hgo3, ?_⟩
    rw [hK]; first | omega | (simp only [List.length_append, List.length_singleton]; omega)
   ·show z - (b + 1) < z - b; omega
   ·exact ⟨(by first | rfl | (congr 1; omega) | simp), (by first | rfl | (congr 1; omega) | simp), trivial⟩
   ·exact ((Weak.selF [1]).trans (Some'.weak (.takeEq (by first | rfl | simp) (.nil _))))
  have p23 := h23; try simp only [bs] at p23
  refine .exit rfl ?_
  refine .seq ?_
  obtain ⟨hab, hgo, hlo⟩ := hinv
  have hfin : out = exc X T M a z [] := by rw [← hgo, exc_end (by omega)]
  refine .region ?_
  iterate 2 refine .m ?_
  refine .done ?_
  refine .ret ?_
  refine ⟨.slice A_vo1 (out.length) c_vo1, [.own (.slice A_vo1 (out.length) c_vo1) 69 3 ((exc X T M a z []).length) (ints (fl (exc X T M a z [])))], Out.one rfl rfl, (Some'.weak (.takeEq (by rw [hfin]) (.nil _))), ?_⟩
  rfl
 refine .mb h19 ?_
 have p19 := h19; try simp only [bs] at p19
 iterate 3 refine .pass rfl ?_
 refine .w (.bool false) ?_
 refine .done ?_
 refine .cond (b := false) rfl (fun h => nomatch h) (fun _ => ?_)
 refine .exit rfl ?_
 refine .seq ?_
 obtain ⟨hab, hgo, hlo⟩ := hinv
 have hfin : out = exc X T M a z [] := by rw [← hgo, exc_end (by omega)]
 refine .region ?_
 refine .w vo ?_
 refine .w vo ?_
 refine .done ?_
 refine .ret ?_
 refine ⟨vo, [.own vo 69 3 ((exc X T M a z []).length) (ints (fl (exc X T M a z [])))], Out.one rfl rfl, (Some'.weak (.takeEq (by rw [hfin]) (.nil _))), ?_⟩
 rfl


theorem expStmt_all (d : Nat) : ExpStmt d := by
  induction d using Nat.strongRecOn with
  | _ d ih =>
    intro r n m g a z va vd vt L T G w hd0 hr ha hA hd hg hG hn16 h1 han hzn hnest hrng hcal hM400 hcx
    exact expand_step d ih hd0 hr ha hA hd hg hG hn16 h1 han hzn hnest hrng hcal hM400 hcx

end Go.Proofs.YtgpkpopbajkklaaGreatDoor
/- Plain: how the blocks of a circuit text lie. -/
set_option linter.unusedSimpArgs false
set_option linter.unusedVariables false
namespace Go.Proofs.YtgpkpopbajkklaaGreatDoor
open Go Go.RowKit
theorem liAt_lt {X : List Li} {k : Nat} (h : (liAt X k).word ≠ wE) : k < X.length := by
  by_cases hk : k < X.length
  · exact hk
  · exact absurd (by rw [liAt, List.getD, List.getElem?_eq_none (by omega)]; rfl) h
theorem word_cases (x : Li) : x.word = wQ ∨ x.word = wR ∨ x.word = wD ∨ x.word = wC ∨ x.word = wE ∨ x.word = wG := by
  cases x <;> simp [Li.word]
def repF (B : List G3) (m : Nat) : List G3 := (List.replicate m B).flatten
/-- Lines that are a row of items, and the gates that they say. -/
inductive Seg (X : List Li) (cf : Nat → List G3) : Nat → Nat → List G3 → Prop
  | nil (a : Nat) : Seg X cf a a []
  | gate {a b : Nat} {L : List G3} (h : (liAt X a).word = wG) (hs : Seg X cf (a + 1) b L) : Seg X cf a b ((liAt X a).g3 :: L)
  | call {a b : Nat} {L : List G3} (h : (liAt X a).word = wC) (hs : Seg X cf (a + 1) b L) : Seg X cf a b (cf a ++ L)
  | rep {a e b : Nat} {B L : List G3} (h : (liAt X a).word = wR) (hb : Seg X cf (a + 1) e B) (he : (liAt X e).word = wE) (hel : e < X.length) (hs : Seg X cf (e + 1) b L) : Seg X cf a b (repF B (liAt X a).num.toNat ++ L)
theorem Seg.le {X : List Li} {cf : Nat → List G3} {a b : Nat} {L : List G3} (h : Seg X cf a b L) : a ≤ b := by
  induction h with
  | nil a => exact Nat.le_refl _
  | gate h hs ih => omega
  | call h hs ih => omega
  | rep h hb he hel hs ih1 ih2 => omega
/-- The rows, whatever the calls say. -/
def SegE (X : List Li) (a b : Nat) : Prop := ∀ cf, ∃ L, Seg X cf a b L
theorem SegE.nil (X : List Li) (a : Nat) : SegE X a a := fun cf => ⟨_, .nil a⟩
theorem SegE.gate {X : List Li} {a b : Nat} (h : (liAt X a).word = wG) (hs : SegE X (a + 1) b) : SegE X a b := fun cf => by
  obtain ⟨L, hL⟩ := hs cf; exact ⟨_, .gate h hL⟩
theorem SegE.call {X : List Li} {a b : Nat} (h : (liAt X a).word = wC) (hs : SegE X (a + 1) b) : SegE X a b := fun cf => by
  obtain ⟨L, hL⟩ := hs cf; exact ⟨_, .call h hL⟩
theorem SegE.rep {X : List Li} {a e b : Nat} (h : (liAt X a).word = wR) (hb : SegE X (a + 1) e) (he : (liAt X e).word = wE) (hel : e < X.length) (hs : SegE X (e + 1) b) : SegE X a b := fun cf => by
  obtain ⟨B, hB⟩ := hb cf; obtain ⟨L, hL⟩ := hs cf; exact ⟨_, .rep h hB he hel hL⟩
theorem fbGo_at {X : List Li} {k : Nat} {num : Int} {st : List Int} {on : Bool} (hk : k < X.length) : fbGo (X.drop k) num st on =
    if (liAt X k).word = wE then (if st.length = 0 then num else fbGo (X.drop (k + 1)) (num + 1) st.dropLast on)
    else if (liAt X k).word = wD then (if 0 < st.length ∨ on = false then num else fbGo (X.drop (k + 1)) (num + 1) (st ++ [num]) on)
    else if (liAt X k).word = wR then fbGo (X.drop (k + 1)) (num + 1) (st ++ [num]) (on && decide (0 < st.length))
    else fbGo (X.drop (k + 1)) (num + 1) st (on && decide (0 < st.length)) := by
  rw [drop_li hk, fbGo]; rfl
def PosL (st : List Int) : Prop := ∀ s ∈ st, 0 < s
theorem PosL.app {st : List Int} (h : PosL st) {n : Int} (hn : 0 < n) : PosL (st ++ [n]) := fun s hs => by
  rcases List.mem_append.1 hs with h1 | h1
  · exact h s h1
  · simp at h1; omega
theorem PosL.last {st : List Int} (h : PosL st) (hl : 0 < st.length) : 0 < (st.getLast?).getD 0 := by
  obtain ⟨s, hs⟩ : ∃ s, st.getLast? = some s := by
    cases hst : st.getLast? with
    | some s => exact ⟨s, rfl⟩
    | none => rw [List.getLast?_eq_none_iff] at hst; subst hst; simp at hl
  rw [hs]; exact h s (List.mem_of_getLast? hs)
/-- No line but the first tells the qubits. -/
def OneQ (X : List Li) : Prop := ∀ i, 0 < i → (liAt X i).word ≠ wQ
/-- Within a block. -/
theorem fb_in {X : List Li} (hQ : OneQ X) : ∀ (d k : Nat) (num : Int) (st : List Int) (on : Bool), X.length - k = d → 0 < k → 0 < st.length → PosL st → 0 < num → fbGo (X.drop k) num st on = 0 →
    ∃ e num', k ≤ e ∧ e < X.length ∧ (liAt X e).word = wE ∧ SegE X k e ∧ 0 < num' ∧ fbGo (X.drop (e + 1)) num' st.dropLast on = 0 := by
  intro d
  induction d using Nat.strongRecOn with
  | _ d ih =>
    intro k num st on hd hk0 hst hp hn h
    by_cases hk : k < X.length
    · rw [fbGo_at hk] at h
      split at h
      · rename_i hw
        rw [if_neg (by omega)] at h
        exact ⟨k, num + 1, Nat.le_refl _, hk, hw, SegE.nil _ _, by omega, h⟩
      · rename_i hwE
        split at h
        · rw [if_pos (.inl hst)] at h; omega
        · rename_i hwD
          split at h
          · rename_i hw
            rw [decide_eq_true hst, Bool.and_true] at h
            obtain ⟨e1, n1, h1, h2, h3, h4, h5, h6⟩ := ih (X.length - (k + 1)) (by omega) (k + 1) (num + 1) (st ++ [num]) on rfl (by omega) (by simp) (hp.app hn) (by omega) h
            rw [List.dropLast_concat] at h6
            obtain ⟨e, n2, g1, g2, g3, g4, g5, g6⟩ := ih (X.length - (e1 + 1)) (by omega) (e1 + 1) n1 st on rfl (by omega) hst hp h5 h6
            exact ⟨e, n2, by omega, g2, g3, SegE.rep hw h4 h3 h2 g4, g5, g6⟩
          · rename_i hwR
            rw [decide_eq_true hst, Bool.and_true] at h
            obtain ⟨e, n1, h1, h2, h3, h4, h5, h6⟩ := ih (X.length - (k + 1)) (by omega) (k + 1) (num + 1) st on rfl (by omega) hst hp (by omega) h
            refine ⟨e, n1, by omega, h2, h3, ?_, h5, h6⟩
            rcases word_cases (liAt X k) with w | w | w | w | w | w
            · exact absurd w (hQ k hk0)
            · exact absurd w hwR
            · exact absurd w hwD
            · exact SegE.call w h4
            · exact absurd w hwE
            · exact SegE.gate w h4
    · rw [List.drop_eq_nil_iff.2 (by omega), fbGo] at h
      have := hp.last hst; omega
/-- Behind the definitions. -/
theorem fb_main {X : List Li} (hQ : OneQ X) : ∀ (d k : Nat) (num : Int), X.length - k = d → 0 < k → k ≤ X.length → 0 < num → fbGo (X.drop k) num [] false = 0 → SegE X k X.length := by
  intro d
  induction d using Nat.strongRecOn with
  | _ d ih =>
    intro k num hd hk0 hkl hn h
    by_cases hk : k < X.length
    · rw [fbGo_at hk] at h
      split at h
      · rw [if_pos (show ([] : List Int).length = 0 from rfl)] at h; omega
      · rename_i hwE
        split at h
        · rw [if_pos (.inr rfl)] at h; omega
        · rename_i hwD
          split at h
          · rename_i hw
            obtain ⟨e1, n1, h1, h2, h3, h4, h5, h6⟩ := fb_in hQ _ (k + 1) (num + 1) [num] _ rfl (by omega) (by simp) (fun s hs => by simp at hs; omega) (by omega) h
            exact SegE.rep hw h4 h3 h2 (ih (X.length - (e1 + 1)) (by omega) (e1 + 1) n1 rfl (by omega) (by omega) h5 h6)
          · rename_i hwR
            have h4 := ih (X.length - (k + 1)) (by omega) (k + 1) (num + 1) rfl (by omega) (by omega) (by omega) h
            rcases word_cases (liAt X k) with w | w | w | w | w | w
            · exact absurd w (hQ k hk0)
            · exact absurd w hwR
            · exact absurd w hwD
            · exact SegE.call w h4
            · exact absurd w hwE
            · exact SegE.gate w h4
    · have : k = X.length := by omega
      subst this; exact SegE.nil _ _
/-- A text from a line on: definitions (the lines that open and close them), then items. -/
inductive Prog (X : List Li) : Nat → List (Nat × Nat) → Prop
  | main {k : Nat} (hk : k ≤ X.length) (hD : (liAt X k).word ≠ wD) (h : SegE X k X.length) : Prog X k []
  | dfn {k e : Nat} {ps : List (Nat × Nat)} (hk : (liAt X k).word = wD) (hs : SegE X (k + 1) e) (he : (liAt X e).word = wE) (hel : e < X.length) (h : Prog X (e + 1) ps) : Prog X k ((k, e) :: ps)
theorem fb_prog {X : List Li} (hQ : OneQ X) : ∀ (d k : Nat) (num : Int), X.length - k = d → 0 < k → k ≤ X.length → 0 < num → fbGo (X.drop k) num [] true = 0 → ∃ ps, Prog X k ps := by
  intro d
  induction d using Nat.strongRecOn with
  | _ d ih =>
    intro k num hd hk0 hkl hn h
    by_cases hk : k < X.length
    · rw [fbGo_at hk] at h
      split at h
      · rw [if_pos (show ([] : List Int).length = 0 from rfl)] at h; omega
      · rename_i hwE
        split at h
        · rename_i hw
          rw [if_neg (by simp)] at h
          obtain ⟨e1, n1, h1, h2, h3, h4, h5, h6⟩ := fb_in hQ _ (k + 1) (num + 1) [num] _ rfl (by omega) (by simp) (fun s hs => by simp at hs; omega) (by omega) h
          obtain ⟨ps, hps⟩ := ih (X.length - (e1 + 1)) (by omega) (e1 + 1) n1 rfl (by omega) (by omega) h5 h6
          exact ⟨_, .dfn hw h4 h3 h2 hps⟩
        · rename_i hwD
          split at h
          · rename_i hw
            obtain ⟨e1, n1, h1, h2, h3, h4, h5, h6⟩ := fb_in hQ _ (k + 1) (num + 1) [num] _ rfl (by omega) (by simp) (fun s hs => by simp at hs; omega) (by omega) h
            exact ⟨[], .main (by omega) hwD (SegE.rep hw h4 h3 h2 (fb_main hQ _ (e1 + 1) n1 rfl (by omega) (by omega) h5 h6))⟩
          · rename_i hwR
            have h4 := fb_main hQ _ (k + 1) (num + 1) rfl (by omega) (by omega) (by omega) h
            refine ⟨[], .main (by omega) hwD ?_⟩
            rcases word_cases (liAt X k) with w | w | w | w | w | w
            · exact absurd w (hQ k hk0)
            · exact absurd w hwR
            · exact absurd w hwD
            · exact SegE.call w h4
            · exact absurd w hwE
            · exact SegE.gate w h4
    · have hkl : k = X.length := by omega
      refine ⟨[], .main (by omega) ?_ (by rw [hkl]; exact SegE.nil _ _)⟩
      intro w
      have := liAt_lt (X := X) (k := k) (by rw [w]; decide)
      omega
theorem fbL_prog {X : List Li} (hQ : OneQ X) (h1 : 1 ≤ X.length) (h : fbL X = 0) : ∃ ps, Prog X 1 ps := fb_prog hQ _ 1 2 rfl (by decide) h1 (by decide) h
/-! ### Where blocks end -/
theorem endD_seg {X : List Li} {cf : Nat → List G3} {a b : Nat} {L : List G3} (h : Seg X cf a b L) : ∀ d : Int, 1 ≤ d → endD (X.drop a) a d = endD (X.drop b) b d := by
  induction h with
  | nil a => intro d _; rfl
  | gate h hs ih =>
    intro d hd
    have hk := liAt_lt (X := X) (by rw [h]; decide)
    rw [endD_at hk rfl, dpS_no (by rw [h]; decide) (by rw [h]; decide) (by rw [h]; decide), if_neg (by omega), ih d hd]
  | call h hs ih =>
    intro d hd
    have hk := liAt_lt (X := X) (by rw [h]; decide)
    rw [endD_at hk rfl, dpS_no (by rw [h]; decide) (by rw [h]; decide) (by rw [h]; decide), if_neg (by omega), ih d hd]
  | rep h hb he hel hs ih1 ih2 =>
    intro d hd
    have hk := liAt_lt (X := X) (by rw [h]; decide)
    rw [endD_at hk rfl, dpS_up (.inl h), if_neg (by omega), ih1 _ (by omega), endD_at hel rfl, dpS_dn he, if_neg (by omega), show d + 1 - 1 = d by omega, ih2 d hd]
theorem endX_blk {X : List Li} {cf : Nat → List G3} {a e : Nat} {L : List G3} (ho : isOpen (liAt X a)) (h : Seg X cf (a + 1) e L) (he : (liAt X e).word = wE) (hel : e < X.length) : endX X a = e := by
  have hk : a < X.length := by have := h.le; omega
  rw [endX, endD_at hk rfl, dpS_up ho, if_neg (by decide), endD_seg h _ (by decide), endD_at hel rfl, dpS_dn he, if_pos (by decide)]
/-- The blocks that lines open end among them. -/
theorem Seg.rng {X : List Li} {cf : Nat → List G3} {a b : Nat} {L : List G3} (h : Seg X cf a b L) : RngOk X a b := by
  induction h with
  | nil a => intro j h1 h2; omega
  | @gate a b L h hs ih =>
    intro j h1 h2 h3
    rcases Nat.eq_or_lt_of_le h1 with e | e
    · subst e; rcases h3 with h3 | h3 <;> rw [h] at h3 <;> exact absurd h3 (by decide)
    · exact ih j e h2 h3
  | @call a b L h hs ih =>
    intro j h1 h2 h3
    rcases Nat.eq_or_lt_of_le h1 with e | e
    · subst e; rcases h3 with h3 | h3 <;> rw [h] at h3 <;> exact absurd h3 (by decide)
    · exact ih j e h2 h3
  | @rep a e b B L h hb he hel hs ih1 ih2 =>
    have hle := hs.le
    intro j h1 h2 h3
    rcases Nat.eq_or_lt_of_le h1 with q | q
    · subst q; rw [endX_blk h3 hb he hel]; omega
    · rcases Nat.lt_trichotomy j e with q2 | q2 | q2
      · have := ih1 j q q2 h3; omega
      · subst q2; rcases h3 with h3 | h3 <;> rw [he] at h3 <;> exact absurd h3 (by decide)
      · exact ih2 j q2 h2 h3
/-- What opens a block among them has an end that its row reaches. -/
def NestIn (X : List Li) (a b : Nat) : Prop := ∀ i, a ≤ i → i < b → isOpen (liAt X i) → RngOk X (i + 1) (endX X i)
theorem Seg.nest {X : List Li} {cf : Nat → List G3} {a b : Nat} {L : List G3} (h : Seg X cf a b L) : NestIn X a b := by
  induction h with
  | nil a => intro j h1 h2; omega
  | @gate a b L h hs ih =>
    intro j h1 h2 h3
    rcases Nat.eq_or_lt_of_le h1 with e | e
    · subst e; rcases h3 with h3 | h3 <;> rw [h] at h3 <;> exact absurd h3 (by decide)
    · exact ih j e h2 h3
  | @call a b L h hs ih =>
    intro j h1 h2 h3
    rcases Nat.eq_or_lt_of_le h1 with e | e
    · subst e; rcases h3 with h3 | h3 <;> rw [h] at h3 <;> exact absurd h3 (by decide)
    · exact ih j e h2 h3
  | @rep a e b B L h hb he hel hs ih1 ih2 =>
    intro j h1 h2 h3
    rcases Nat.eq_or_lt_of_le h1 with q | q
    · subst q; rw [endX_blk h3 hb he hel]; exact hb.rng
    · rcases Nat.lt_trichotomy j e with q2 | q2 | q2
      · exact ih1 j q q2 h3
      · subst q2; rcases h3 with h3 | h3 <;> rw [he] at h3 <;> exact absurd h3 (by decide)
      · exact ih2 j q2 h2 h3
theorem Prog.nest {X : List Li} {k : Nat} {ps : List (Nat × Nat)} (h : Prog X k ps) : NestIn X k X.length ∧ RngOk X k X.length := by
  induction h with
  | main hk hD h => obtain ⟨L, hL⟩ := h (fun _ => []); exact ⟨hL.nest, hL.rng⟩
  | @dfn k e ps hk hs he hel h ih =>
    obtain ⟨L, hL⟩ := hs (fun _ => [])
    have hle := hL.le
    constructor
    · intro j h1 h2 h3
      rcases Nat.eq_or_lt_of_le h1 with q | q
      · subst q; rw [endX_blk h3 hL he hel]; exact hL.rng
      · rcases Nat.lt_trichotomy j e with q2 | q2 | q2
        · exact hL.nest j q q2 h3
        · subst q2; rcases h3 with h3 | h3 <;> rw [he] at h3 <;> exact absurd h3 (by decide)
        · exact ih.1 j q2 h2 h3
    · intro j h1 h2 h3
      rcases Nat.eq_or_lt_of_le h1 with q | q
      · subst q; rw [endX_blk h3 hL he hel]; omega
      · rcases Nat.lt_trichotomy j e with q2 | q2 | q2
        · have := hL.rng j q q2 h3; omega
        · subst q2; rcases h3 with h3 | h3 <;> rw [he] at h3 <;> exact absurd h3 (by decide)
        · exact ih.2 j q2 h2 h3
theorem Prog.nestOk {X : List Li} {ps : List (Nat × Nat)} (h : Prog X 1 ps) (hq : (liAt X 0).word = wQ) : NestOk X := by
  intro i j hij hj ho hoj
  have hi : i < X.length := liAt_lt (by rcases ho with h | h <;> rw [h] <;> decide)
  have hi1 : 1 ≤ i := by
    rcases Nat.eq_zero_or_pos i with h0 | h0
    · subst h0; rcases ho with h | h <;> rw [hq] at h <;> exact absurd h (by decide)
    · exact h0
  exact h.nest.1 i hi1 hi ho j hij hj hoj

end Go.Proofs.YtgpkpopbajkklaaGreatDoor
/- Plain: the definitions of a circuit text, and its faults. -/
set_option linter.unusedSimpArgs false
set_option linter.unusedVariables false
namespace Go.Proofs.YtgpkpopbajkklaaGreatDoor
open Go Go.RowKit
/-! ### The definitions that the reference finds -/
def Closed (T : List Dn) : Prop := T = [] ∨ (dnx T (T.length - 1)).z ≠ 0
theorem dfT_seg {X : List Li} {cf : Nat → List G3} {a b : Nat} {L : List G3} (h : Seg X cf a b L) : ∀ (T : List Dn) (dp : Int), (0 ≤ dp ∨ Closed T) → dfT X a = (T, dp) → dfT X b = (T, dp) := by
  induction h with
  | nil a => intro T dp _ h; exact h
  | gate h hs ih => intro T dp hc h1; exact ih T dp hc (by rw [dfT, h1, dfN (by rw [h]; decide) (by rw [h]; decide) (by rw [h]; decide)])
  | call h hs ih => intro T dp hc h1; exact ih T dp hc (by rw [dfT, h1, dfN (by rw [h]; decide) (by rw [h]; decide) (by rw [h]; decide)])
  | rep h hb he hel hs ih1 ih2 =>
    intro T dp hc h1
    have h2 := ih1 T (dp + 1) (hc.elim (fun h => .inl (by omega)) .inr) (by rw [dfT, h1, dfR h])
    refine ih2 T dp hc ?_
    rw [dfT, h2, dfE0 he, show dp + 1 - 1 = dp by omega]
    rintro ⟨e1, e2, e3⟩
    rcases hc with hc | hc | hc
    · omega
    · rw [hc] at e2; exact absurd e2 (by simp)
    · exact hc e3
/-- The definitions between lines. -/
def tt (X : List Li) (ps : List (Nat × Nat)) : List Dn := ps.map fun p => ⟨(liAt X p.1).nm, (liAt X p.1).num, ((p.1 : Nat) : Int) + 1, ((p.2 : Nat) : Int)⟩
theorem dfT_prog {X : List Li} {k : Nat} {ps : List (Nat × Nat)} (h : Prog X k ps) : ∀ (T : List Dn) (dp : Int), Closed T → dfT X k = (T, dp) → (dfT X X.length).1 = T ++ tt X ps := by
  induction h with
  | main hk hD h =>
    intro T dp hc h1
    obtain ⟨L, hL⟩ := h (fun _ => [])
    rw [dfT_seg hL T dp (.inr hc) h1]; simp [tt]
  | @dfn k e ps hk hs he hel h ih =>
    intro T dp hc h1
    obtain ⟨L, hL⟩ := hs (fun _ => [])
    have hle := hL.le
    have h2 := dfT_seg hL _ 0 (.inl (Int.le_refl _)) (show dfT X (k + 1) = (T ++ [⟨(liAt X k).nm, (liAt X k).num, ((k : Nat) : Int) + 1, 0⟩], 0) by rw [dfT, h1, dfD hk])
    have hl : (T ++ [(⟨(liAt X k).nm, (liAt X k).num, ((k : Nat) : Int) + 1, 0⟩ : Dn)]).length - 1 = T.length := by simp
    have hx : dnx (T ++ [(⟨(liAt X k).nm, (liAt X k).num, ((k : Nat) : Int) + 1, 0⟩ : Dn)]) T.length = ⟨(liAt X k).nm, (liAt X k).num, ((k : Nat) : Int) + 1, 0⟩ := by simp [dnx, List.getD]
    have h3 := ih (T ++ [⟨(liAt X k).nm, (liAt X k).num, ((k : Nat) : Int) + 1, ((e : Nat) : Int)⟩]) (-1) (.inr (by
      have hl2 : (T ++ [(⟨(liAt X k).nm, (liAt X k).num, ((k : Nat) : Int) + 1, ((e : Nat) : Int)⟩ : Dn)]).length - 1 = T.length := by simp
      have hx2 : dnx (T ++ [(⟨(liAt X k).nm, (liAt X k).num, ((k : Nat) : Int) + 1, ((e : Nat) : Int)⟩ : Dn)]) T.length = ⟨(liAt X k).nm, (liAt X k).num, ((k : Nat) : Int) + 1, ((e : Nat) : Int)⟩ := by simp [dnx, List.getD]
      rw [hl2, hx2]; show ((e : Nat) : Int) ≠ 0; omega)) (by
      rw [dfT, h2, dfE1 he rfl (by rw [List.length_append, List.length_singleton]; omega) (by rw [hl, hx]), setZ_snoc]; rfl)
    rw [h3]; simp [tt]
theorem dfsR_prog {X : List Li} {ps : List (Nat × Nat)} (h : Prog X 1 ps) (hq : (liAt X 0).word = wQ) : dfsR X = tt X ps := by
  have h1 : dfT X 1 = ([], 0) := by rw [dfT, dfT, dfN (by rw [hq]; decide) (by rw [hq]; decide) (by rw [hq]; decide)]
  have := dfT_prog h [] 0 (.inl rfl) h1
  rw [dfsR, this]; rfl
/-! ### Where definitions lie -/
/-- The definitions' lines are in order, from a line on. -/
def Ord : Nat → List (Nat × Nat) → Prop
  | _, [] => True
  | k, p :: ps => p.1 = k ∧ k < p.2 ∧ Ord (p.2 + 1) ps
theorem Prog.ord {X : List Li} {k : Nat} {ps : List (Nat × Nat)} (h : Prog X k ps) : Ord k ps := by
  induction h with
  | main hk hD h => trivial
  | dfn hk hs he hel h ih => obtain ⟨L, hL⟩ := hs (fun _ => []); have := hL.le; exact ⟨rfl, by omega, ih⟩
theorem tt_length (X : List Li) (ps : List (Nat × Nat)) : (tt X ps).length = ps.length := by simp [tt]
theorem dnx_tt {X : List Li} {ps : List (Nat × Nat)} {j : Nat} (hj : j < ps.length) : dnx (tt X ps) j = ⟨(liAt X (ps.getD j (0, 0)).1).nm, (liAt X (ps.getD j (0, 0)).1).num, (((ps.getD j (0, 0)).1 : Nat) : Int) + 1, (((ps.getD j (0, 0)).2 : Nat) : Int)⟩ := by
  simp [dnx, tt, List.getD, List.getElem?_map, List.getElem?_eq_getElem hj]
theorem Ord.at_ : ∀ {ps : List (Nat × Nat)} {k i j : Nat}, Ord k ps → i < j → j < ps.length → k ≤ (ps.getD i (0, 0)).1 ∧ (ps.getD i (0, 0)).1 < (ps.getD i (0, 0)).2 ∧ (ps.getD i (0, 0)).2 < (ps.getD j (0, 0)).1 ∧ (ps.getD j (0, 0)).1 < (ps.getD j (0, 0)).2
  | p :: ps, k, 0, j + 1, h, _, hj => by
    obtain ⟨h1, h2, h3⟩ := h
    have hj' : j < ps.length := by simpa using hj
    have key : ∀ {qs : List (Nat × Nat)} {k j : Nat}, Ord k qs → j < qs.length → k ≤ (qs.getD j (0, 0)).1 ∧ (qs.getD j (0, 0)).1 < (qs.getD j (0, 0)).2 := by
      intro qs
      induction qs with
      | nil => intro k j _ h; simp at h
      | cons q qs ih =>
        intro k j h hj
        obtain ⟨g1, g2, g3⟩ := h
        cases j with
        | zero => simp; omega
        | succ j =>
          have := ih g3 (by simpa using hj)
          simp at this ⊢; omega
    have := key h3 hj'
    simp at this ⊢; omega
  | p :: ps, k, i + 1, j + 1, h, hij, hj => by
    obtain ⟨h1, h2, h3⟩ := h
    have := Ord.at_ h3 (i := i) (j := j) (by omega) (by simpa using hj)
    simp at this ⊢; omega
theorem Ord.one : ∀ {ps : List (Nat × Nat)} {k j : Nat}, Ord k ps → j < ps.length → k ≤ (ps.getD j (0, 0)).1 ∧ (ps.getD j (0, 0)).1 < (ps.getD j (0, 0)).2
  | p :: ps, k, 0, h, _ => by obtain ⟨h1, h2, h3⟩ := h; simp; omega
  | p :: ps, k, j + 1, h, hj => by
    obtain ⟨h1, h2, h3⟩ := h
    have := Ord.one h3 (j := j) (by simpa using hj)
    simp at this ⊢; omega
theorem findI_cut {p q : Nat → Bool} {n m : Nat} (hm : m ≤ n) (h1 : ∀ i, i < m → p i = q i) (h2 : ∀ i, m ≤ i → i < n → p i = false) : findI p n = findI q m := by
  by_cases hex : ∃ i, i < m ∧ q i = true
  · obtain ⟨k, ⟨hk1, hk2⟩, hk3⟩ := least_ex hex
    have hlow : ∀ i, i < k → q i = false := fun i hi => by
      cases hq : q i with
      | false => rfl
      | true => have := hk3 i ⟨by omega, hq⟩; omega
    rw [findI_hit hlow hk2 hk1, findI_hit (k := k) (fun i hi => by rw [h1 i (by omega)]; exact hlow i hi) (by rw [h1 k hk1]; exact hk2) (by omega)]
  · have hno : ∀ i, i < m → q i = false := fun i hi => by
      cases hq : q i with
      | false => rfl
      | true => exact absurd ⟨i, hi, hq⟩ hex
    rw [findI_none hno, findI_none fun i hi => by
      by_cases h : i < m
      · rw [h1 i h]; exact hno i h
      · exact h2 i (by omega) hi]
theorem anyI_cut {p q : Nat → Bool} {n m : Nat} (hm : m ≤ n) (h1 : ∀ i, i < m → p i = q i) (h2 : ∀ i, m ≤ i → i < n → p i = false) : anyI p n = anyI q m := by
  have h := findI_cut hm h1 h2
  have e1 := findI_nonneg (p := p) (n := n)
  have e2 := findI_nonneg (p := q) (n := m)
  rw [h] at e1
  cases ha : anyI p n <;> cases hb : anyI q m <;> simp_all
/-- A line behind the first j definitions, and before the ends of the others. -/
def Lies (ps : List (Nat × Nat)) (j i : Nat) : Prop := j ≤ ps.length ∧ (∀ q, q < j → (ps.getD q (0, 0)).2 < i) ∧ (∀ q, j ≤ q → q < ps.length → i ≤ (ps.getD q (0, 0)).2)
theorem finR_lies {X : List Li} {ps : List (Nat × Nat)} {j i : Nat} (h : Lies ps j i) (nm : Bs) : finR (tt X ps) nm ((i : Nat) : Int) = findI (fun q => (liAt X (ps.getD q (0, 0)).1).nm == nm) j := by
  rw [finR, tt_length]
  refine findI_cut h.1 (fun q hq => ?_) (fun q hq1 hq2 => ?_)
  · have := h.2.1 q hq
    rw [dnx_tt (by have := h.1; omega)]
    simp only [decide_eq_true (show (((ps.getD q (0, 0)).2 : Nat) : Int) < ((i : Nat) : Int) by omega), Bool.and_true]
  · have := h.2.2 q hq1 hq2
    rw [dnx_tt hq2]
    simp only [decide_eq_false (show ¬ (((ps.getD q (0, 0)).2 : Nat) : Int) < ((i : Nat) : Int) by omega), Bool.and_false]

end Go.Proofs.YtgpkpopbajkklaaGreatDoor
/- Plain: the program goes through a block as the reference looks at its lines. -/
set_option linter.unusedSimpArgs false
set_option linter.unusedVariables false
namespace Go.Proofs.YtgpkpopbajkklaaGreatDoor
open Go Go.RowKit
theorem body_lies {ps : List (Nat × Nat)} {k i j : Nat} (h : Ord k ps) (hj : j < ps.length) (h1 : (ps.getD j (0, 0)).1 < i) (h2 : i ≤ (ps.getD j (0, 0)).2) : Lies ps j i := by
  refine ⟨by omega, fun q hq => ?_, fun q hq1 hq2 => ?_⟩
  · have := h.at_ hq hj; omega
  · rcases Nat.eq_or_lt_of_le hq1 with e | e
    · subst e; exact h2
    · have := h.at_ e hq2; omega
theorem main_lies {ps : List (Nat × Nat)} {i : Nat} (h : ∀ q, q < ps.length → (ps.getD q (0, 0)).2 < i) : Lies ps ps.length i :=
  ⟨Nat.le_refl _, h, fun q h1 h2 => by omega⟩
theorem widR_body {X : List Li} {ps : List (Nat × Nat)} {k i j : Nat} (h : Ord k ps) (hj : j < ps.length) (h1 : (ps.getD j (0, 0)).1 < i) (h2 : i < (ps.getD j (0, 0)).2) : widR (tt X ps) X ((i : Nat) : Int) = (liAt X (ps.getD j (0, 0)).1).num := by
  have hf : findI (fun q => decide ((dnx (tt X ps) q).a ≤ ((i : Nat) : Int)) && decide (((i : Nat) : Int) < (dnx (tt X ps) q).z)) (tt X ps).length = ((j : Nat) : Int) := by
    rw [tt_length]
    refine findI_hit (fun q hq => ?_) ?_ hj
    · have := h.at_ hq hj
      rw [dnx_tt (by omega)]
      simp only [decide_eq_false (show ¬ ((i : Nat) : Int) < (((ps.getD q (0, 0)).2 : Nat) : Int) by omega), Bool.and_false]
    · rw [dnx_tt hj]
      simp only [decide_eq_true (show (((ps.getD j (0, 0)).1 : Nat) : Int) + 1 ≤ ((i : Nat) : Int) by omega), decide_eq_true (show ((i : Nat) : Int) < (((ps.getD j (0, 0)).2 : Nat) : Int) by omega), Bool.and_self]
  rw [widR, hf, if_pos (by omega), Int.toNat_natCast, dnx_tt hj]
theorem widR_main {X : List Li} {ps : List (Nat × Nat)} {i : Nat} (h : ∀ q, q < ps.length → (ps.getD q (0, 0)).2 < i) : widR (tt X ps) X ((i : Nat) : Int) = (liAt X 0).num := by
  have hf : findI (fun q => decide ((dnx (tt X ps) q).a ≤ ((i : Nat) : Int)) && decide (((i : Nat) : Int) < (dnx (tt X ps) q).z)) (tt X ps).length = -1 := by
    rw [tt_length]
    refine findI_none fun q hq => ?_
    have := h q hq
    rw [dnx_tt hq]
    simp only [decide_eq_false (show ¬ ((i : Nat) : Int) < (((ps.getD q (0, 0)).2 : Nat) : Int) by omega), Bool.and_false]
  rw [widR, hf]; rfl
/-! ### Faults, line by line -/
def stepP (T : List Dn) (X : List Li) (i : Nat) (p : Int × Int) : Int × Int :=
  if evN T (liAt X i) ((i : Nat) : Int) = true then tellP 4 (((i : Nat) : Int) + 1) p else if evG T X (liAt X i) ((i : Nat) : Int) = true then tellP 5 (((i : Nat) : Int) + 1) p else p
/-- The fault that was noted up to a line. -/
def pq (T : List Dn) (X : List Li) : Nat → Int × Int
  | 0 => (0, 0)
  | i + 1 => stepP T X i (pq T X i)
theorem evN_no {T : List Dn} {x : Li} {i : Int} (h : x.word ≠ wD) (h' : x.word ≠ wC) : evN T x i = false := by
  rw [evN, beq_eq_false_iff_ne.2 h, beq_eq_false_iff_ne.2 h']; rfl
theorem evG_no {T : List Dn} {X : List Li} {x : Li} {i : Int} (h : x.word ≠ wG) (h' : x.word ≠ wC) : evG T X x i = false := by
  rw [evG, beq_eq_false_iff_ne.2 h, beq_eq_false_iff_ne.2 h']; rfl
theorem stepP_no {T : List Dn} {X : List Li} {i : Nat} {p : Int × Int} (h : (liAt X i).word ≠ wG) (h' : (liAt X i).word ≠ wC) (h2 : (liAt X i).word ≠ wD) : stepP T X i p = p := by
  rw [stepP, if_neg (by rw [evN_no h2 h']; decide), if_neg (by rw [evG_no h h']; decide)]
theorem li_gate {x : Li} (h : x.word = wG) : x.g3 = gateG x.kind x.qs := by
  cases x <;> first | rfl | exact absurd h (by simp only [Li.word]; decide)
theorem li_call {x : Li} (h : x.word = wC) : x.ar = x.qs := by
  cases x <;> first | rfl | exact absurd h (by simp only [Li.word]; decide)
theorem gate_step {T : List Dn} {X : List Li} {i : Nat} {n : Int} (h : (liAt X i).word = wG) (hw : widR T X ((i : Nat) : Int) = n) (p : Int × Int) : (gateP n (liAt X i).kind (liAt X i).qs ((i : Nat) : Int) p).2 = stepP T X i p := by
  have h1 : evN T (liAt X i) ((i : Nat) : Int) = false := evN_no (by rw [h]; decide) (by rw [h]; decide)
  have h2 : evG T X (liAt X i) ((i : Nat) : Int) = !gateOk n (gateG (liAt X i).kind (liAt X i).qs).1 (gateG (liAt X i).kind (liAt X i).qs).2.1 (gateG (liAt X i).kind (liAt X i).qs).2.2 := by
    rw [evG, hw, li_gate h, beq_iff_eq.2 h, beq_eq_false_iff_ne.2 (show (liAt X i).word ≠ wC by rw [h]; decide), Bool.true_and, Bool.false_and, Bool.or_false]
  rw [stepP, if_neg (by rw [h1]; decide), h2, gateP]
  cases gateOk n (gateG (liAt X i).kind (liAt X i).qs).1 (gateG (liAt X i).kind (liAt X i).qs).2.1 (gateG (liAt X i).kind (liAt X i).qs).2.2 <;> rfl
theorem gate_out {T : List Dn} {X : List Li} {i : Nat} {n : Int} (h : (liAt X i).word = wG) (hw : widR T X ((i : Nat) : Int) = n) (he : evG T X (liAt X i) ((i : Nat) : Int) = false) (p : Int × Int) : (gateP n (liAt X i).kind (liAt X i).qs ((i : Nat) : Int) p).1 = [(liAt X i).g3] ∧ gateOk n (liAt X i).g3.1 (liAt X i).g3.2.1 (liAt X i).g3.2.2 = true := by
  rw [evG, hw, beq_iff_eq.2 h, beq_eq_false_iff_ne.2 (show (liAt X i).word ≠ wC by rw [h]; decide), Bool.true_and, Bool.false_and, Bool.or_false, Bool.not_eq_false'] at he
  refine ⟨?_, he⟩
  rw [li_gate h] at he ⊢
  rw [gateP, if_pos he]
theorem badC_any {n m : Int} {q : List Int} (h1 : 1 ≤ q.length) : anyI (badC n m q) q.length = (decide (((q.length : Nat) : Int) ≠ m) || anyI (badR n q) q.length) := by
  by_cases hm : ((q.length : Nat) : Int) = m
  · rw [decide_eq_false (fun h => h hm), Bool.false_or]
    refine anyI_congr fun i hi => ?_
    rw [badC, badR, decide_eq_true hm]; simp
  · rw [decide_eq_true hm, Bool.true_or]
    refine anyI_true (i := 0) (by omega) ?_
    rw [badC, decide_eq_false hm]; simp
structure BlkOk (X : List Li) (T : List Dn) (D : List Df) (known : Nat) (n : Int) (a b : Nat) : Prop where
  wid : ∀ i : Nat, a ≤ i → i < b → widR T X ((i : Nat) : Int) = n
  fin : ∀ i : Nat, a ≤ i → i < b → ∀ nm, fdJ D known nm = finR T nm ((i : Nat) : Int)
  num : ∀ q, q < known → (dfx D q).n = (dnx T q).n
theorem BlkOk.sub {X : List Li} {T : List Dn} {D : List Df} {known : Nat} {n : Int} {a b a' b' : Nat} (h : BlkOk X T D known n a b) (ha : a ≤ a') (hb : b' ≤ b) : BlkOk X T D known n a' b' :=
  ⟨fun i h1 h2 => h.wid i (by omega) (by omega), fun i h1 h2 => h.fin i (by omega) (by omega), h.num⟩
theorem call_step {T : List Dn} {X : List Li} {D : List Df} {known i a b : Nat} {n : Int} (h : (liAt X i).word = wC) (hb : BlkOk X T D known n a b) (ha : a ≤ i) (hi : i < b) (h1 : 1 ≤ (liAt X i).qs.length) (p : Int × Int) : (callP n D known (liAt X i).nm (liAt X i).qs ((i : Nat) : Int) p).2 = stepP T X i p := by
  have hf := hb.fin i ha hi (liAt X i).nm
  have hN : evN T (liAt X i) ((i : Nat) : Int) = decide (finR T (liAt X i).nm ((i : Nat) : Int) < 0) := by
    rw [evN, beq_iff_eq.2 h, beq_eq_false_iff_ne.2 (show (liAt X i).word ≠ wD by rw [h]; decide), Bool.true_and, Bool.false_and, Bool.false_or]
  have hG : evG T X (liAt X i) ((i : Nat) : Int) = (decide ((((liAt X i).qs.length : Nat) : Int) ≠ (dnx T (finR T (liAt X i).nm ((i : Nat) : Int)).toNat).n) || anyI (badR n (liAt X i).qs) (liAt X i).qs.length) := by
    rw [evG, hb.wid i ha hi, li_call h, beq_iff_eq.2 h, beq_eq_false_iff_ne.2 (show (liAt X i).word ≠ wG by rw [h]; decide), Bool.true_and, Bool.false_and, Bool.false_or]
  rw [callP, stepP, hN, hG, hf]
  by_cases h0 : finR T (liAt X i).nm ((i : Nat) : Int) < 0
  · rw [if_pos h0, if_pos (decide_eq_true h0)]
  · have hlt : fdJ D known (liAt X i).nm < (known : Int) := fdJ_lt
    rw [if_neg h0, hb.num (finR T (liAt X i).nm ((i : Nat) : Int)).toNat (by omega), if_neg (show ¬ decide (finR T (liAt X i).nm ((i : Nat) : Int) < 0) = true by rw [decide_eq_true_iff]; exact h0), ← badC_any h1]
    split
    · rfl
    · rfl
theorem call_out {T : List Dn} {X : List Li} {D : List Df} {known i a b : Nat} {n : Int} (h : (liAt X i).word = wC) (hb : BlkOk X T D known n a b) (ha : a ≤ i) (hi : i < b) (h1 : 1 ≤ (liAt X i).qs.length) (heN : evN T (liAt X i) ((i : Nat) : Int) = false) (heG : evG T X (liAt X i) ((i : Nat) : Int) = false) (p : Int × Int) :
    (callP n D known (liAt X i).nm (liAt X i).qs ((i : Nat) : Int) p).1 = (dfx D (finR T (liAt X i).nm ((i : Nat) : Int)).toNat).gs.map (mapG (liAt X i).ar) := by
  have hf := hb.fin i ha hi (liAt X i).nm
  rw [evN, beq_iff_eq.2 h, beq_eq_false_iff_ne.2 (show (liAt X i).word ≠ wD by rw [h]; decide), Bool.true_and, Bool.false_and, Bool.false_or, decide_eq_false_iff_not] at heN
  rw [evG, hb.wid i ha hi, li_call h, beq_iff_eq.2 h, beq_eq_false_iff_ne.2 (show (liAt X i).word ≠ wG by rw [h]; decide), Bool.true_and, Bool.false_and, Bool.false_or] at heG
  have hlt : fdJ D known (liAt X i).nm < (known : Int) := fdJ_lt
  rw [callP, hf, if_neg heN, hb.num (finR T (liAt X i).nm ((i : Nat) : Int)).toNat (by omega), badC_any h1, heG, if_neg (by decide), li_call h]
/-! ### Gates, cut behind the 401st -/
theorem trim_app (L M : List G3) : trim (trim L ++ M) = trim (L ++ M) := by
  unfold trim
  rw [List.take_append, List.take_append, List.take_take, List.length_take, Nat.min_self]
  congr 2
  omega
theorem trim_app2 (L M : List G3) : trim (L ++ trim M) = trim (L ++ M) := by
  unfold trim
  rw [List.take_append, List.take_append, List.take_take]
  congr 2
  omega
theorem trim_id {L : List G3} (h : L.length ≤ 401) : trim L = L := List.take_of_length_le h
theorem repF_succ (B : List G3) (m : Nat) : repF B (m + 1) = B ++ repF B m := by simp [repF, List.replicate_succ]
theorem repT_trim (B : List G3) : ∀ (m : Nat) (Z : List G3), repT (trim B) m (trim Z) = trim (Z ++ repF B m)
  | 0, Z => by rw [repT]; simp [repF]
  | m + 1, Z => by rw [repT, trim_app, trim_app2, repT_trim B m (Z ++ B), repF_succ, List.append_assoc]
theorem bk_seg {X : List Li} {cf : Nat → List G3} {T : List Dn} {D : List Df} {known : Nat} {n : Int} (hX : CallsOk X) {a b : Nat} {L : List G3} (h : Seg X cf a b L) : BlkOk X T D known n a b → ∀ out : List G3,
    ∃ out', bkc X D known n a (pq T X a) out = bkc X D known n b (pq T X b) out' ∧ ((∀ i, a ≤ i → i < b → evN T (liAt X i) ((i : Nat) : Int) = false ∧ evG T X (liAt X i) ((i : Nat) : Int) = false) →
      (∀ i, a ≤ i → i < b → (liAt X i).word = wC → (dfx D (finR T (liAt X i).nm ((i : Nat) : Int)).toNat).gs.map (mapG (liAt X i).ar) = trim (cf i)) → ∀ Z, out = trim Z → out' = trim (Z ++ L)) := by
  induction h with
  | nil a => intro hb out; exact ⟨out, rfl, fun _ _ Z hZ => by rw [hZ, List.append_nil]⟩
  | @gate a b L h hs ih =>
    intro hb out
    have hle := hs.le
    have hk := liAt_lt (X := X) (k := a) (by rw [h]; decide)
    have hw := hb.wid a (Nat.le_refl _) (by omega)
    obtain ⟨out', e1, e2⟩ := ih (hb.sub (Nat.le_succ a) (Nat.le_refl _)) (trim (out ++ (gateP n (liAt X a).kind (liAt X a).qs ((a : Nat) : Int) (pq T X a)).1))
    refine ⟨out', ?_, fun hev hc Z hZ => ?_⟩
    · rw [bkc_eq hk, if_neg (by rw [h]; decide), if_pos h, gate_step h hw]; exact e1
    · have hg := (gate_out h hw (hev a (Nat.le_refl _) (by omega)).2 (pq T X a)).1
      have := e2 (fun i h1 h2 => hev i (by omega) h2) (fun i h1 h2 => hc i (by omega) h2) (Z ++ [(liAt X a).g3]) (by rw [hg, hZ, trim_app])
      rw [this, List.append_assoc]; rfl
  | @call a b L h hs ih =>
    intro hb out
    have hle := hs.le
    have hk := liAt_lt (X := X) (k := a) (by rw [h]; decide)
    have h1 := (hX a hk).call h
    obtain ⟨out', e1, e2⟩ := ih (hb.sub (Nat.le_succ a) (Nat.le_refl _)) (trim (out ++ (callP n D known (liAt X a).nm (liAt X a).qs ((a : Nat) : Int) (pq T X a)).1))
    refine ⟨out', ?_, fun hev hc Z hZ => ?_⟩
    · rw [bkc_eq hk, if_neg (by rw [h]; decide), if_neg (by rw [h]; decide), if_pos h, call_step h hb (Nat.le_refl _) (by omega) h1]; exact e1
    · have hev1 := hev a (Nat.le_refl _) (by omega)
      have hg := call_out h hb (Nat.le_refl _) (by omega) h1 hev1.1 hev1.2 (pq T X a)
      have := e2 (fun i h1 h2 => hev i (by omega) h2) (fun i h1 h2 => hc i (by omega) h2) (Z ++ cf a) (by rw [hg, hZ, trim_app, hc a (Nat.le_refl _) (by omega) h, trim_app2])
      rw [this, List.append_assoc]
  | @rep a e b B L h hbS he hel hs ih1 ih2 =>
    intro hb out
    have hle := hs.le
    have hle1 := hbS.le
    have hk := liAt_lt (X := X) (k := a) (by rw [h]; decide)
    obtain ⟨o1, f1, f2⟩ := ih1 (hb.sub (Nat.le_succ a) (by omega)) []
    have hp : pq T X (a + 1) = pq T X a := stepP_no (by rw [h]; decide) (by rw [h]; decide) (by rw [h]; decide)
    have hp2 : pq T X (e + 1) = pq T X e := stepP_no (by rw [he]; decide) (by rw [he]; decide) (by rw [he]; decide)
    have hB : bkc X D known n (a + 1) (pq T X a) [] = (o1, e + 1, pq T X (e + 1)) := by rw [← hp, f1, bkc_eq hel, if_pos he, hp2]
    obtain ⟨out', e1, e2⟩ := ih2 (hb.sub (by omega) (Nat.le_refl _)) (repT o1 (liAt X a).num.toNat out)
    refine ⟨out', ?_, fun hev hc Z hZ => ?_⟩
    · rw [bkc_eq hk, if_neg (by rw [h]; decide), if_neg (by rw [h]; decide), if_neg (by rw [h]; decide), if_pos h, hB]; exact e1
    · have ho := f2 (fun i h1 h2 => hev i (by omega) (by omega)) (fun i h1 h2 => hc i (by omega) (by omega)) [] (by simp [trim])
      have := e2 (fun i h1 h2 => hev i (by omega) h2) (fun i h1 h2 => hc i (by omega) h2) (Z ++ repF B (liAt X a).num.toNat) (by rw [ho, hZ, List.nil_append, repT_trim])
      rw [this, List.append_assoc]

end Go.Proofs.YtgpkpopbajkklaaGreatDoor
/- Plain: the program and the reference go through a circuit text. -/
set_option linter.unusedSimpArgs false
set_option linter.unusedVariables false
namespace Go.Proofs.YtgpkpopbajkklaaGreatDoor
open Go Go.RowKit
/-- The definitions that the program has noted. -/
def DOf (X : List Li) (ps : List (Nat × Nat)) (j : Nat) (D : List Df) : Prop := D.length = j ∧ ∀ q, q < j → (dfx D q).nm = (liAt X (ps.getD q (0, 0)).1).nm ∧ (dfx D q).n = (liAt X (ps.getD q (0, 0)).1).num
theorem fdJ_of {X : List Li} {ps : List (Nat × Nat)} {j : Nat} {D : List Df} (h : DOf X ps j D) (nm : Bs) : fdJ D j nm = findI (fun q => (liAt X (ps.getD q (0, 0)).1).nm == nm) j :=
  findI_cut (Nat.le_refl _) (fun i hi => by simp only [(h.2 i hi).1]) (fun i h1 h2 => by omega)
theorem blk_body {X : List Li} {ps : List (Nat × Nat)} {k j : Nat} {D : List Df} (ho : Ord k ps) (hj : j < ps.length) (hD : DOf X ps j D) : BlkOk X (tt X ps) D j (liAt X (ps.getD j (0, 0)).1).num ((ps.getD j (0, 0)).1 + 1) (ps.getD j (0, 0)).2 where
  wid i h1 h2 := widR_body ho hj (by omega) h2
  fin i h1 h2 nm := by rw [fdJ_of hD, finR_lies (body_lies ho hj (by omega) (by omega))]
  num q hq := by rw [dnx_tt (by omega)]; exact (hD.2 q hq).2
theorem blk_main {X : List Li} {ps : List (Nat × Nat)} {m : Nat} {D : List Df} (hm : ∀ q, q < ps.length → (ps.getD q (0, 0)).2 < m) (hD : DOf X ps ps.length D) : BlkOk X (tt X ps) D ps.length (liAt X 0).num m X.length where
  wid i h1 h2 := widR_main fun q hq => by have := hm q hq; omega
  fin i h1 h2 nm := by rw [fdJ_of hD, finR_lies (main_lies fun q hq => by have := hm q hq; omega)]
  num q hq := by rw [dnx_tt hq]; exact (hD.2 q hq).2
theorem def_step {X : List Li} {ps : List (Nat × Nat)} {k j : Nat} {D : List Df} (ho : Ord k ps) (hj : j < ps.length) (hD : DOf X ps j D) (hw : (liAt X (ps.getD j (0, 0)).1).word = wD) (p : Int × Int) :
    twiceP D (liAt X (ps.getD j (0, 0)).1).nm (((ps.getD j (0, 0)).1 : Nat) : Int) p = stepP (tt X ps) X (ps.getD j (0, 0)).1 p := by
  have hd : anyI (dupN (tt X ps) (liAt X (ps.getD j (0, 0)).1).nm (((ps.getD j (0, 0)).1 : Nat) : Int)) (tt X ps).length = anyI (fun q => (liAt X (ps.getD q (0, 0)).1).nm == (liAt X (ps.getD j (0, 0)).1).nm) j := by
    rw [tt_length]
    refine anyI_cut (by omega) (fun q hq => ?_) (fun q h1 h2 => ?_)
    · have := ho.at_ hq hj
      rw [dupN, dnx_tt (by omega)]
      simp only [decide_eq_true (show (((ps.getD q (0, 0)).1 : Nat) : Int) + 1 ≤ (((ps.getD j (0, 0)).1 : Nat) : Int) by omega), Bool.and_true]
    · rw [dupN, dnx_tt h2]
      have : (ps.getD j (0, 0)).1 ≤ (ps.getD q (0, 0)).1 := by
        rcases Nat.eq_or_lt_of_le h1 with e | e
        · subst e; exact Nat.le_refl _
        · have := ho.at_ e h2; omega
      simp only [decide_eq_false (show ¬ (((ps.getD q (0, 0)).1 : Nat) : Int) + 1 ≤ (((ps.getD j (0, 0)).1 : Nat) : Int) by omega), Bool.and_false]
  have hN : evN (tt X ps) (liAt X (ps.getD j (0, 0)).1) (((ps.getD j (0, 0)).1 : Nat) : Int) = anyI (fun q => (liAt X (ps.getD q (0, 0)).1).nm == (liAt X (ps.getD j (0, 0)).1).nm) j := by
    rw [evN, hd, beq_iff_eq.2 hw, beq_eq_false_iff_ne.2 (show (liAt X (ps.getD j (0, 0)).1).word ≠ wC by rw [hw]; decide), Bool.true_and, Bool.false_and, Bool.or_false]
  have hG : evG (tt X ps) X (liAt X (ps.getD j (0, 0)).1) (((ps.getD j (0, 0)).1 : Nat) : Int) = false := evG_no (by rw [hw]; decide) (by rw [hw]; decide)
  rw [twiceP, stepP, hN, hG, hD.1, fdJ_of hD]
  by_cases h : 0 ≤ findI (fun q => (liAt X (ps.getD q (0, 0)).1).nm == (liAt X (ps.getD j (0, 0)).1).nm) j
  · rw [if_pos h, if_pos (findI_nonneg.1 h)]
  · rw [if_neg h, if_neg (fun e => h (findI_nonneg.2 e)), if_neg (by decide)]
/-- The line behind the definitions. -/
def mst : Nat → List (Nat × Nat) → Nat
  | k, [] => k
  | _, p :: ps => mst (p.2 + 1) ps
theorem trim_map (f : G3 → G3) (L : List G3) : trim (L.map f) = (trim L).map f := by unfold trim; rw [List.map_take]
/-- No line of some is at fault. -/
def NoEv (T : List Dn) (X : List Li) (a b : Nat) : Prop := ∀ i, a ≤ i → i < b → evN T (liAt X i) ((i : Nat) : Int) = false ∧ evG T X (liAt X i) ((i : Nat) : Int) = false
theorem fin_ok {X : List Li} {T : List Dn} {i : Nat} (h : evN T (liAt X i) ((i : Nat) : Int) = false) (hw : (liAt X i).word = wC) : 0 ≤ finR T (liAt X i).nm ((i : Nat) : Int) := by
  rw [evN, beq_iff_eq.2 hw, beq_eq_false_iff_ne.2 (show (liAt X i).word ≠ wD by rw [hw]; decide), Bool.true_and, Bool.false_and, Bool.false_or, decide_eq_false_iff_not] at h
  omega
theorem drop_cons {ps : List (Nat × Nat)} {j : Nat} {p : Nat × Nat} {qs : List (Nat × Nat)} (h : ps.drop j = p :: qs) : j < ps.length ∧ ps.getD j (0, 0) = p ∧ ps.drop (j + 1) = qs := by
  have hj : j < ps.length := by
    by_cases hj : j < ps.length
    · exact hj
    · rw [List.drop_eq_nil_iff.2 (by omega)] at h; cases h
  rw [List.drop_eq_getElem_cons hj] at h
  injection h with h1 h2
  exact ⟨hj, by rw [← h1]; simp [List.getD, hj], h2⟩
theorem DOf.snoc {X : List Li} {ps : List (Nat × Nat)} {j : Nat} {D : List Df} (h : DOf X ps j D) (gs : List G3) : DOf X ps (j + 1) (D ++ [⟨(liAt X (ps.getD j (0, 0)).1).nm, (liAt X (ps.getD j (0, 0)).1).num, gs⟩]) := by
  refine ⟨by rw [List.length_append, h.1]; rfl, fun q hq => ?_⟩
  by_cases hq2 : q < j
  · have e : dfx (D ++ [⟨(liAt X (ps.getD j (0, 0)).1).nm, (liAt X (ps.getD j (0, 0)).1).num, gs⟩]) q = dfx D q := by simp [dfx, List.getD, List.getElem?_append_left (show q < D.length by rw [h.1]; exact hq2)]
    rw [e]; exact h.2 q hq2
  · have hqj : q = j := by omega
    subst hqj
    have e : dfx (D ++ [⟨(liAt X (ps.getD q (0, 0)).1).nm, (liAt X (ps.getD q (0, 0)).1).num, gs⟩]) q = ⟨(liAt X (ps.getD q (0, 0)).1).nm, (liAt X (ps.getD q (0, 0)).1).num, gs⟩ := by
      have := h.1; subst this; simp [dfx, List.getD]
    rw [e]; exact ⟨rfl, rfl⟩
/-- The gates of the definitions. -/
def FdOk (X : List Li) (ps : List (Nat × Nat)) (FD : List (List G3)) (a b : Nat) : Prop := ∀ q, a ≤ q → q < b → Seg X (fun i => callG (tt X ps) FD (liAt X i) ((i : Nat) : Int)) ((ps.getD q (0, 0)).1 + 1) (ps.getD q (0, 0)).2 (gsx FD q)
theorem rn_prog {X : List Li} {ps0 : List (Nat × Nat)} (hX : CallsOk X) (ho : Ord 1 ps0) {k : Nat} {ps : List (Nat × Nat)} (h : Prog X k ps) : ∀ (j : Nat) (D : List Df), ps0.drop j = ps → j ≤ ps0.length → DOf X ps0 j D → (∀ q, q < j → (ps0.getD q (0, 0)).2 < k) →
    ∃ D', rnc X k (pq (tt X ps0) X k) D = (D', mst k ps, pq (tt X ps0) X (mst k ps)) ∧ DOf X ps0 ps0.length D' ∧ k ≤ mst k ps ∧ mst k ps ≤ X.length ∧ SegE X (mst k ps) X.length ∧ (∀ q, q < ps0.length → (ps0.getD q (0, 0)).2 < mst k ps) ∧
      (NoEv (tt X ps0) X k (mst k ps) → ∀ FD, FdOk X ps0 FD j ps0.length → (∀ q, q < j → (dfx D q).gs = trim (gsx FD q)) → ∀ q, q < ps0.length → (dfx D' q).gs = trim (gsx FD q)) := by
  induction h with
  | @main k hk hwD h =>
    intro j D hj hjl hD he
    have hj2 : j = ps0.length := by
      have := congrArg List.length hj; rw [List.length_drop] at this; simp at this; omega
    subst hj2
    exact ⟨D, rnc_end (fun hc => hwD hc.2), hD, Nat.le_refl _, hk, h, he, fun _ FD _ hg => hg⟩
  | @dfn k e ps hk hs he hel h ih =>
    intro j D hj hjl hD hlt
    obtain ⟨hj1, hj2, hj3⟩ := drop_cons hj
    have hkl := liAt_lt (X := X) (k := k) (by rw [hk]; decide)
    have hp1 : (ps0.getD j (0, 0)).1 = k := by rw [hj2]
    have hp2 : (ps0.getD j (0, 0)).2 = e := by rw [hj2]
    have hstep := def_step ho hj1 hD (by rw [hp1]; exact hk) (pq (tt X ps0) X k)
    have hblk := blk_body ho hj1 hD
    rw [hp1] at hstep hblk
    rw [hp2] at hblk
    have hpk : pq (tt X ps0) X (k + 1) = twiceP D (liAt X k).nm ((k : Nat) : Int) (pq (tt X ps0) X k) := hstep.symm
    have hpe : pq (tt X ps0) X (e + 1) = pq (tt X ps0) X e := stepP_no (by rw [he]; decide) (by rw [he]; decide) (by rw [he]; decide)
    obtain ⟨L0, hL0⟩ := hs (fun i => [])
    have hle := hL0.le
    obtain ⟨out', e1, _⟩ := bk_seg hX hL0 hblk []
    have hbk : bkc X D D.length (liAt X k).num (k + 1) (twiceP D (liAt X k).nm ((k : Nat) : Int) (pq (tt X ps0) X k)) [] = (out', e + 1, pq (tt X ps0) X (e + 1)) := by
      rw [← hpk, hD.1, e1, bkc_eq hel, if_pos he, hpe]
    have hD2 := hD.snoc out'
    rw [hp1] at hD2
    obtain ⟨D', g1, g2, g3, g4, g5, g6, g7⟩ := ih (j + 1) _ hj3 (by omega) hD2 (fun q hq => by
      rcases Nat.lt_succ_iff_lt_or_eq.1 hq with hq | hq
      · have := ho.at_ hq hj1; omega
      · rw [hq, hp2]; omega)
    refine ⟨D', ?_, g2, ?_, g4, g5, g6, ?_⟩
    · rw [rnc_eq hkl hk, hbk]; exact g1
    · show k ≤ mst (e + 1) ps; omega
    · intro hev FD hFD hgs
      have hev1 : NoEv (tt X ps0) X (k + 1) e := fun i h1 h2 => hev i (by omega) (by show i < mst (e + 1) ps; omega)
      have hseg := hFD j (Nat.le_refl _) hj1
      rw [hp1, hp2] at hseg
      obtain ⟨out2, f1, f2⟩ := bk_seg hX hseg hblk []
      have hoo : out2 = out' := by
        rw [e1, bkc_eq hel, if_pos he, bkc_eq hel, if_pos he] at f1
        injection f1 with f1; exact f1.symm
      have hout : out' = trim (gsx FD j) := by
        rw [← hoo]
        have := f2 hev1 (fun i h1 h2 hw => ?_) [] (by simp [trim])
        · rw [this, List.nil_append]
        · have hF0 := fin_ok (hev1 i h1 h2).1 hw
          have hF1 : finR (tt X ps0) (liAt X i).nm ((i : Nat) : Int) < (j : Int) := by rw [← hblk.fin i h1 h2]; exact fdJ_lt
          rw [callG, trim_map, hgs _ (by omega)]
      refine g7 (fun i h1 h2 => hev i (by omega) h2) FD (fun q h1 h2 => hFD q (by omega) h2) (fun q hq => ?_)
      by_cases hq2 : q < j
      · have e2 : dfx (D ++ [⟨(liAt X k).nm, (liAt X k).num, out'⟩]) q = dfx D q := by simp [dfx, List.getD, List.getElem?_append_left (show q < D.length by rw [hD.1]; exact hq2)]
        rw [e2]; exact hgs q hq2
      · have hqj : q = j := by omega
        have e2 : dfx (D ++ [⟨(liAt X k).nm, (liAt X k).num, out'⟩]) q = ⟨(liAt X k).nm, (liAt X k).num, out'⟩ := by
          have := hD.1; rw [hqj, ← this]; simp [dfx, List.getD]
        rw [e2, hqj]; exact hout
/-! ### The reference's expansion -/
/-- A list of gates up to its 400th, or more than 400. -/
def Tr (o f : List G3) : Prop := (f.length ≤ 400 → o = f) ∧ (400 < f.length → 400 < o.length)
theorem Tr.refl (L : List G3) : Tr L L := ⟨fun _ => rfl, id⟩
theorem Tr.of_le {o f : List G3} (h : Tr o f) (ho : o.length ≤ 400) : o = f := by
  by_cases hf : f.length ≤ 400
  · exact h.1 hf
  · have := h.2 (by omega); omega
theorem Tr.more {o f : List G3} (h : Tr o f) (ho : ¬ o.length ≤ 400) (L : List G3) : Tr o (f ++ L) := by
  refine ⟨fun hl => ?_, fun _ => by omega⟩
  rw [List.length_append] at hl
  have := h.1 (by omega)
  rw [this] at ho; omega
theorem Tr.app {o f p g : List G3} (h : Tr o f) (ho : o.length ≤ 400) (h' : Tr p g) : Tr (o ++ p) (f ++ g) := by
  have := h.of_le ho
  subst this
  refine ⟨fun hl => ?_, fun hl => ?_⟩
  · rw [List.length_append] at hl
    rw [h'.1 (by omega)]
  · rw [List.length_append] at hl ⊢
    by_cases hg : g.length ≤ 400
    · rw [h'.1 hg]; exact hl
    · have := h'.2 (by omega); omega
theorem repR_tr {p B : List G3} (hp : Tr p B) : ∀ (m : Nat) (o f : List G3), Tr o f → Tr (repR p m o) (f ++ repF B m)
  | 0, o, f, h => by rw [repR]; simpa [repF] using h
  | m + 1, o, f, h => by
    rw [repR]
    split
    · rename_i ho
      have := repR_tr hp m _ _ (h.app ho hp)
      rwa [List.append_assoc, ← repF_succ] at this
    · rename_i ho; exact h.more ho _
theorem ex_seg {X : List Li} {cf : Nat → List G3} {T : List Dn} {M : List (List G3)} {a b : Nat} {L : List G3} (h : Seg X cf a b L) : (∀ i, a ≤ i → i < b → (liAt X i).word = wC → callG T M (liAt X i) ((i : Nat) : Int) = cf i) → ∀ (last : Nat) (o f : List G3), b ≤ last → last ≤ X.length → Tr o f →
    ∃ o', exc X T M a last o = exc X T M b last o' ∧ Tr o' (f ++ L) := by
  induction h with
  | nil a => intro _ last o f _ _ h; exact ⟨o, rfl, by rwa [List.append_nil]⟩
  | @gate a b L h hs ih =>
    intro hc last o f hb hl ht
    have hle := hs.le
    by_cases ho : o.length ≤ 400
    · obtain ⟨o', e1, e2⟩ := ih (fun i h1 h2 => hc i (by omega) h2) last (o ++ [(liAt X a).g3]) (f ++ [(liAt X a).g3]) hb hl (ht.app ho (Tr.refl _))
      refine ⟨o', ?_, by rwa [List.append_assoc] at e2⟩
      rw [exc_eq hl (by omega) ho, if_pos h]; exact e1
    · exact ⟨o, by rw [exc_end (fun hc => ho hc.2), exc_end (fun hc => ho hc.2)], ht.more ho _⟩
  | @call a b L h hs ih =>
    intro hc last o f hb hl ht
    have hle := hs.le
    by_cases ho : o.length ≤ 400
    · obtain ⟨o', e1, e2⟩ := ih (fun i h1 h2 => hc i (by omega) h2) last (o ++ cf a) (f ++ cf a) hb hl (ht.app ho (Tr.refl _))
      refine ⟨o', ?_, by rwa [List.append_assoc] at e2⟩
      rw [exc_eq hl (by omega) ho, if_neg (by rw [h]; decide), if_pos h, hc a (Nat.le_refl _) (by omega) h]; exact e1
    · exact ⟨o, by rw [exc_end (fun hc => ho hc.2), exc_end (fun hc => ho hc.2)], ht.more ho _⟩
  | @rep a e b B L h hbS he hel hs ih1 ih2 =>
    intro hc last o f hb hl ht
    have hle := hs.le
    have hle1 := hbS.le
    by_cases ho : o.length ≤ 400
    · obtain ⟨p, f1, f2⟩ := ih1 (fun i h1 h2 => hc i (by omega) (by omega)) e [] [] (Nat.le_refl _) (by omega) (Tr.refl _)
      rw [exc_end (show ¬ (e < e ∧ p.length ≤ 400) by omega)] at f1
      rw [List.nil_append] at f2
      have hend : endX X a = e := endX_blk (.inl h) hbS he hel
      obtain ⟨o', e1, e2⟩ := ih2 (fun i h1 h2 => hc i (by omega) h2) last (repR p (liAt X a).num.toNat o) (f ++ repF B (liAt X a).num.toNat) hb hl (repR_tr f2 _ _ _ ht)
      refine ⟨o', ?_, by rwa [List.append_assoc] at e2⟩
      rw [exc_eq hl (by omega) ho, if_neg (by rw [h]; decide), if_neg (by rw [h]; decide), if_pos h, hend, f1]; exact e1
    · exact ⟨o, by rw [exc_end (fun hc => ho hc.2), exc_end (fun hc => ho hc.2)], ht.more ho _⟩
theorem ex_prog {X : List Li} {T : List Dn} {M : List (List G3)} {k : Nat} {ps : List (Nat × Nat)} (h : Prog X k ps) : exc X T M k X.length [] = exc X T M (mst k ps) X.length [] := by
  induction h with
  | main hk hD h => rfl
  | @dfn k e ps hk hs he hel h ih =>
    obtain ⟨L, hL⟩ := hs (fun _ => [])
    have hkl := liAt_lt (X := X) (k := k) (by rw [hk]; decide)
    rw [exc_eq (Nat.le_refl _) hkl (by simp), if_neg (by rw [hk]; decide), if_neg (by rw [hk]; decide), if_neg (by rw [hk]; decide), if_pos hk, endX_blk (.inr hk) hL he hel, ih]
    rfl

end Go.Proofs.YtgpkpopbajkklaaGreatDoor
