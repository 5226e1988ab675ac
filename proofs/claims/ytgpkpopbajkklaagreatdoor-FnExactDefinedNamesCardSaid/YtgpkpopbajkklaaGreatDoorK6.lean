/- Gates and definitions of a circuit text; walks: the program's mapped, tooMany, tell, find. -/
import Derived.Test.YtgpkpopbajkklaaGreatDoorK5
import Derived.Test.YtgpkpopbajkklaaGreatDoorProg
import Derived.Test.YtgpkpopbajkklaaGreatDoorK2
import Derived.Test.YtgpkpopbajkklaaGreatDoorK3
set_option linter.unusedSimpArgs false
set_option linter.unusedVariables false
namespace Go.Proofs.YtgpkpopbajkklaaGreatDoor
open Go Go.RowKit
namespace TxiT
theorem Tagg_59 : aggOf Tryz.prog 59 = some 3 := by kernel_rfl
theorem Tagg_69 : aggOf Tryz.prog 69 = some 3 := by kernel_rfl
theorem Tcall_95 : callable Tryz.prog 95 = true := by kernel_rfl
theorem Tfo_59_0 : fieldOff Tryz.prog 59 0 = some 0 := by kernel_rfl
theorem Tfo_69_0 : fieldOff Tryz.prog 69 0 = some 0 := by kernel_rfl
theorem Tfo_69_1 : fieldOff Tryz.prog 69 1 = some 1 := by kernel_rfl
theorem Tfo_69_2 : fieldOff Tryz.prog 69 2 = some 2 := by kernel_rfl
theorem Tfo_91_2 : fieldOff Tryz.prog 91 2 = some 2 := by kernel_rfl
theorem Tfo_91_3 : fieldOff Tryz.prog 91 3 = some 3 := by kernel_rfl
theorem Tfo_91_4 : fieldOff Tryz.prog 91 4 = some 4 := by kernel_rfl
theorem Tone_3 : oneOf Tryz.prog 3 = true := by kernel_rfl
theorem Tone_55 : oneOf Tryz.prog 55 = true := by kernel_rfl
theorem Tone_9 : oneOf Tryz.prog 9 = true := by kernel_rfl
theorem Tsize_3 : (Tryz.prog.info? 3).map (·.size) = some 1 := by kernel_rfl
theorem Tsize_59 : (Tryz.prog.info? 59).map (·.size) = some 3 := by kernel_rfl
theorem Tsize_69 : (Tryz.prog.info? 69).map (·.size) = some 3 := by kernel_rfl
theorem Tsl_22 : sliceOf Tryz.prog 22 = some (69, 3, 24, [.int .i64 0, .int .i64 0, .int .i64 0]) := by kernel_rfl
theorem Tsl_55 : sliceOf Tryz.prog 55 = some (59, 3, 48, [sv ([]), .int .i64 0, .slice none 0 0]) := by kernel_rfl
theorem Tsl_75 : sliceOf Tryz.prog 75 = some (3, 1, 8, [.int .i64 0]) := by kernel_rfl
theorem Tzero_59 : zeroOf Tryz.prog 59 = some [sv ([]), .int .i64 0, .slice none 0 0] := by kernel_rfl
theorem Tzero_69 : zeroOf Tryz.prog 69 = some [.int .i64 0, .int .i64 0, .int .i64 0] := by kernel_rfl
end TxiT
open TxiT
/-- A gate: kind, qubits. -/
abbrev G3 := Int × Int × Int
def g3 (g : G3) : List Int := [g.1, g.2.1, g.2.2]
def fl (L : List G3) : List Int := L.flatMap g3
def gx (L : List G3) (k : Nat) : G3 := L.getD k (0, 0, 0)
theorem g3_len (g : G3) : (g3 g).length = 3 := rfl
theorem fl_len : ∀ L : List G3, (fl L).length = L.length * 3
  | [] => rfl
  | g :: L => by
    have := fl_len L
    simp only [fl, List.flatMap_cons, List.length_append, List.length_cons, g3_len] at this ⊢; omega
theorem fl_append (L M : List G3) : fl (L ++ M) = fl L ++ fl M := by simp [fl]
theorem fl_one (g : G3) : fl [g] = [g.1, g.2.1, g.2.2] := by simp [fl, g3]
theorem fl_ix : ∀ {L : List G3} {k : Nat}, k < L.length → ix (fl L) (k * 3) = (gx L k).1 ∧ ix (fl L) (k * 3 + 1) = (gx L k).2.1 ∧ ix (fl L) (k * 3 + 2) = (gx L k).2.2
  | g :: L, 0, _ => ⟨rfl, rfl, rfl⟩
  | g :: L, k + 1, h => by
    have ih := fl_ix (L := L) (k := k) (by simpa using h)
    have e : ∀ j, ix (fl (g :: L)) ((k + 1) * 3 + j) = ix (fl L) (k * 3 + j) := by
      intro j
      have e1 : fl (g :: L) = g3 g ++ fl L := rfl
      rw [e1, show (k + 1) * 3 + j = 3 + (k * 3 + j) by omega]
      simp only [ix, List.getD]
      rw [List.getElem?_append_right (by rw [g3_len]; omega), g3_len, Nat.add_sub_cancel_left]
    have e2 : gx (g :: L) (k + 1) = gx L k := by simp [gx, List.getD]
    rw [e2]
    exact ⟨(e 0).trans ih.1, (e 1).trans ih.2.1, (e 2).trans ih.2.2⟩
theorem fl_take (L : List G3) : ∀ m, (fl L).take (m * 3) = fl (L.take m) := by
  induction L with
  | nil => intro m; simp [fl]
  | cons g L ih =>
    intro m
    cases m with
    | zero => simp [fl]
    | succ m =>
      have e1 : fl (g :: L) = g3 g ++ fl L := rfl
      have e2 : fl ((g :: L).take (m + 1)) = g3 g ++ fl (L.take m) := rfl
      rw [e1, e2, ← ih, show (m + 1) * 3 = 3 + m * 3 by omega, List.take_append, g3_len, List.take_of_length_le (by rw [g3_len]; omega)]
      congr 2; omega
theorem gx_mem {L : List G3} {k : Nat} (h : k < L.length) : gx L k ∈ L := by
  have : gx L k = L[k] := by simp [gx, List.getD, h]
  rw [this]; exact List.getElem_mem h
theorem take_gx {L : List G3} {k : Nat} (h : k < L.length) : L.take (k + 1) = L.take k ++ [gx L k] := by
  rw [← List.take_append_getElem h]; simp [gx, List.getD, h]
/-- A gate on other qubits. -/
def mapG (ts : List Int) (g : G3) : G3 := (g.1, if g.1 = 12 then g.2.1 else ix ts g.2.1.toNat, if 9 ≤ g.1 ∧ g.1 ≤ 11 then ix ts g.2.2.toNat else g.2.2)
/-- The gates' qubits have places. -/
def MapOk (m : Nat) (L : List G3) : Prop := ∀ g ∈ L, (g.1 ≠ 12 → 0 ≤ g.2.1 ∧ g.2.1 < (m : Int)) ∧ ((9 ≤ g.1 ∧ g.1 ≤ 11) → 0 ≤ g.2.2 ∧ g.2.2 < (m : Int))
/-- Cut to one gate more than there may be. -/
def trim (L : List G3) : List G3 := L.take 401
theorem trim_take {L : List G3} {n q : Nat} (hn : L.length = n) (hq : min n 401 = q) : L.take q = trim L := by
  subst hq; subst hn
  rw [trim, Nat.min_comm]
  exact List.take_eq_take_iff.2 (by simp)
/-- A definition: its name, its qubits, its gates. -/
structure Df where
  nm : Bs
  n : Int
  gs : List G3
abbrev DV := Df × Value
def dle (p : DV) : List Value := [sv p.1.nm, .int .i64 p.1.n, p.2]
def dls (L : List DV) : List Value := L.flatMap dle
def dgr (L : List DV) : List (Value × Nat × List Value) := L.map fun p => (p.2, p.1.gs.length, ints (fl p.1.gs))
def dx (L : List DV) (k : Nat) : DV := L.getD k (⟨[], 0, []⟩, undef)
theorem dle_len (p : DV) : (dle p).length = 3 := rfl
@[simp] theorem dls_length (L : List DV) : (dls L).length = L.length * 3 := flat_len dle_len L
theorem dls_preF {L : List DV} {k : Nat} {d : Df} {v : Value} (hk : k < L.length) (hx : (dx L k).1 = d) (hv : (dx L k).2 = v) : Pre (dls L) (k * 3) [sv d.nm, .int .i64 d.n, v] := by
  subst hx; subst hv; exact flat_pre dle_len (⟨[], 0, []⟩, undef) hk 3 0 (by decide)
def DQ (w : World) (L : List DV) : Prop := ∀ k, k < L.length → Sl w (dx L k).2 3 (dx L k).1.gs.length (ints (fl (dx L k).1.gs))
theorem dx_mem {L : List DV} {k : Nat} (hk : k < L.length) : dx L k ∈ L := by
  have : dx L k = L[k] := by simp [dx, List.getD, hk]
  rw [this]; exact List.getElem_mem hk
theorem St.dq {M : Nat → Prop} {w0 w : World} {H : List Res} {e : TypeId} {L : List DV} (hs : St M w0 w H) (hm : Res.grp e 3 (dgr L) ∈ H) : DQ w L :=
  fun k hk => hs.slGrpG hm (p := ((dx L k).2, (dx L k).1.gs.length, ints (fl (dx L k).1.gs))) (List.mem_map.2 ⟨_, dx_mem hk, rfl⟩)
theorem DQ.go {w0 w : World} {H : List Res} {L : List DV} (h : DQ w0 L) (hs : St No w0 w H) : DQ w L := fun k hk => hs.sl (h k hk)
theorem Weak.dgrSnoc {H : List Res} {e : TypeId} {d : Df} {v : Value} {L : List DV} : Weak (.own v e 3 d.gs.length (ints (fl d.gs)) :: .grp e 3 (dgr L) :: H) (.grp e 3 (dgr (L ++ [(d, v)])) :: H) :=
  Weak.grpSnocG (g := fun p : DV => (p.2, p.1.gs.length, ints (fl p.1.gs))) rfl
/-- The first definition of a name among the first ones: its number, or -1. -/
def fdI (L : List DV) (known : Nat) (nm : Bs) : Int := findI (fun i => (dx L i).1.nm == nm) known
/-- A fault is noted: the least code counts, and of one code the first line. -/
def tellP (c l : Int) (p : Int × Int) : Int × Int := if p.1 = 0 ∨ c < p.1 then (c, l) else p

set_option maxHeartbeats 4000000 in
set_option maxRecDepth 20000 in
theorem mapped_spec {va vt : Value} {n m : Nat} {L : List G3} {ts : List Int} {w : World} (ha : Sl w va 3 n (ints (fl L))) (ht : Sl w vt 1 m (ints ts)) (hm : MapOk m L) (hn16 : n ≤ 16777216) : Calls Tryz.prog 122 #[va, vt] w (Post No w fun v H => H = [.own v 69 3 L.length (ints (fl (L.map (mapG ts))))]) := by
 have hxl := ha.len
 have hn := ha.le
 obtain ⟨A, c, rfl, _, _⟩ := ha.form0
 have hLn : L.length = n := by have := fl_len L; omega
 have htl := ht.len
 obtain ⟨At, ct, rfl, _, _⟩ := ht.form0
 refine enter (n := 39) (args := [.slice A n c, .slice At m ct]) Tryz.func122 rfl rfl (St.empty _ _) ?_
 refine Run.sr ?_
 refine Run.p (.slice none 0 0) rfl rfl ?_
 refine Run.dsr ?_
 refine Run.step rfl (OpStep.buildSlice (us := []) Tsl_22 (by decide) (by decide) rfl rfl fun b1 => ?_)
 refine Run.p (.slice (some ⟨b1, 0, none⟩) 0 0) rfl rfl ?_
 refine Run.done ?_
 refine Run.seq ?_
 refine Run.sr ?_
 refine Run.p (.slice A n c) rfl rfl ?_
 refine Run.y (.int .i64 (((n : Nat) : Int))) rfl (OpY.len Tsl_22 rfl) ?_
 refine Run.p (.int .i64 0) rfl rfl ?_
 refine Run.done ?_
 refine Run.block ?_
 refine Run.loop (ι := Nat × Value) [5, 7, 11, 12, 13, 14, 15, 16, 17, 18, 19, 20, 21, 22, 23, 24, 25, 26, 27, 28, 29, 30, 31, 32, 33, 34, 35, 36, 37] (fun ⟨k, vo⟩ => [(5, vo), (11, .int .i64 (((k : Nat) : Int)))]) (fun ⟨k, vo⟩ => [.own vo 69 3 k (ints (fl ((L.take k).map (mapG ts))))]) (fun ⟨k, vo⟩ => k ≤ n) (fun ⟨k, vo⟩ => n - k) (0, .slice (some ⟨b1, 0, none⟩) 0 0) ?_ ?_ ?_ ?_
 ·exact Nat.zero_le _
 ·exact ⟨rfl, rfl, trivial⟩
 ·exact (Some'.weak (.takeEq (by first | rfl | simp [fl, ints]) (.nil _)))
 ·rintro ⟨k, vo⟩ fr hinv
  show Run _ _ (over _ _ [(5, vo), (11, .int .i64 (((k : Nat) : Int)))] fr) [.own vo 69 3 k (ints (fl ((L.take k).map (mapG ts))))]
  try dsimp only at hinv
  refine Run.sr ?_
  refine Run.p (.bool (decide ((((k : Nat) : Int)) < (((n : Nat) : Int))))) rfl rfl ?_
  refine Run.done ?_
  refine Run.seq ?_
  refine Run.cond (b := decide ((((k : Nat) : Int)) < (((n : Nat) : Int)))) rfl (fun h12 => ?_) (fun h12 => ?_)
  ·have p12 := h12; try simp only [bs] at p12
   have hltk : k < n := by omega
   have hfx := fl_ix (L := L) (k := k) (by omega)
   obtain ⟨⟨g, a, e⟩, hgx⟩ : ∃ q, gx L k = q := ⟨_, rfl⟩
   rw [hgx] at hfx
   have hgm := hm (gx L k) (gx_mem (by omega))
   rw [hgx] at hgm
   simp only at hfx hgm
   obtain ⟨b, o, rfl⟩ := ha.opn (by omega)
   refine Run.skip ?_
   refine Run.seq ?_
   refine Run.block ?_
   refine Run.sr ?_
   refine Run.y (.pointer (some ⟨b, o + k * 3, none⟩)) rfl (OpY.index (kk := k) Tsl_22 rfl rfl (by omega) (by omega) (by first | rfl | omega)) ?_
   refine Run.y (.agg #[.int .i64 g, .int .i64 a, .int .i64 e]) rfl (OpY.loadN (cs := [.int .i64 g, .int .i64 a, .int .i64 e]) Tagg_69 rfl (Cells.arg (k := k * 3) ha rfl (by omega) (by have h := pre3 (xs := fl L) (o := k * 3) (by omega); rw [hfx.1, hfx.2.1, hfx.2.2] at h; exact h))) ?_
   refine Run.step rfl (OpStep.alloc (zs := [.int .i64 0, .int .i64 0, .int .i64 0]) Tzero_69 fun b2 => ?_)
   refine Run.step rfl (OpStep.storeAll (us := [.int .i64 g, .int .i64 a, .int .i64 e]) Tsize_69 rfl rfl rfl (.here _) rfl ?_)
   refine Run.done ?_
   refine Run.seq ?_
   refine Run.sr ?_
   refine Run.y (.pointer (some ⟨b2, 0, none⟩)) rfl (OpY.fieldAddr Tfo_69_0 rfl rfl) ?_
   refine Run.y (.int .i64 g) rfl (OpY.load1 Tone_3 rfl (Cells.blk (.head _) ⟨rfl, trivial⟩)) ?_
   refine Run.p (.bool (g != 12)) rfl rfl ?_
   refine Run.done ?_
   refine Run.cond (b := g != 12) rfl (fun h17 => ?_) (fun h17 => ?_)
   ·have p17 := h17; try simp only [bs] at p17
    have ha1 := hgm.1 p17
    have haR : (0 : Int) ≤ a := ha1.1
    obtain ⟨bt, ot, rfl⟩ := ht.opn (by omega)
    refine Run.region ?_
    refine Run.p (.slice (some ⟨bt, ot, none⟩) m ct) rfl rfl ?_
    refine Run.y (.pointer (some ⟨b2, 1, none⟩)) rfl (OpY.fieldAddr Tfo_69_1 rfl rfl) ?_
    refine Run.y (.int .i64 a) rfl (OpY.load1 Tone_3 rfl (Cells.blk (.head _) ⟨rfl, trivial⟩)) ?_
    refine Run.y (.pointer (some ⟨bt, ot + a.toNat, none⟩)) rfl (OpY.index (kk := a.toNat) Tsl_75 rfl rfl (by omega) (by omega) (by first | rfl | omega)) ?_
    refine Run.y (.int .i64 (ix ts (a.toNat))) rfl (OpY.load1 Tone_3 rfl (Cells.arg (k := a.toNat) ht rfl (by omega) (pre1 (by omega)))) ?_
    refine Run.y (.pointer (some ⟨b2, 1, none⟩)) rfl (OpY.fieldAddr Tfo_69_1 rfl rfl) ?_
    refine Run.step rfl (OpStep.store (us := [.int .i64 (ix ts (a.toNat))]) Tsize_3 rfl rfl rfl (.here _) (by simp only [List.length_cons, List.length_nil]; omega) ?_)
    show Run _ _ _ [.blk b2 69 [.int .i64 g, .int .i64 (ix ts (a.toNat)), .int .i64 e], .own vo 69 3 k (ints (fl ((L.take k).map (mapG ts))))]
    refine Run.done ?_
    refine Run.seq ?_
    refine Run.sr ?_
    refine Run.y (.pointer (some ⟨b2, 0, none⟩)) rfl (OpY.fieldAddr Tfo_69_0 rfl rfl) ?_
    refine Run.y (.int .i64 g) rfl (OpY.load1 Tone_3 rfl (Cells.blk (.head _) ⟨rfl, trivial⟩)) ?_
    refine Run.q (v := .bool (decide (9 ≤ g ∧ g ≤ 11))) rfl (OpQ.call (vs := [.int .i64 g]) (caps := []) Tcall_95 rfl rfl (fun w hs => isTwo_spec _ w)) ?_
    refine Run.done ?_
    refine Run.cond (b := decide (9 ≤ g ∧ g ≤ 11)) rfl (fun h26 => ?_) (fun h26 => ?_)
    ·have p26 := h26; try simp only [bs] at p26
     have hb1 := hgm.2 p26
     refine Run.region ?_
     refine Run.p (.slice (some ⟨bt, ot, none⟩) m ct) rfl rfl ?_
     refine Run.y (.pointer (some ⟨b2, 2, none⟩)) rfl (OpY.fieldAddr Tfo_69_2 rfl rfl) ?_
     refine Run.y (.int .i64 e) rfl (OpY.load1 Tone_3 rfl (Cells.blk (.head _) ⟨rfl, trivial⟩)) ?_
     refine Run.y (.pointer (some ⟨bt, ot + e.toNat, none⟩)) rfl (OpY.index (kk := e.toNat) Tsl_75 rfl rfl (by omega) (by omega) (by first | rfl | omega)) ?_
     refine Run.y (.int .i64 (ix ts (e.toNat))) rfl (OpY.load1 Tone_3 rfl (Cells.arg (k := e.toNat) ht rfl (by omega) (pre1 (by omega)))) ?_
     refine Run.y (.pointer (some ⟨b2, 2, none⟩)) rfl (OpY.fieldAddr Tfo_69_2 rfl rfl) ?_
     refine Run.step rfl (OpStep.store (us := [.int .i64 (ix ts (e.toNat))]) Tsize_3 rfl rfl rfl (.here _) (by simp only [List.length_cons, List.length_nil]; omega) ?_)
     show Run _ _ _ [.blk b2 69 [.int .i64 g, .int .i64 (ix ts (a.toNat)), .int .i64 (ix ts (e.toNat))], .own vo 69 3 k (ints (fl ((L.take k).map (mapG ts))))]
     refine Run.dr ?_
     refine Run.p (vo) rfl rfl ?_
     refine Run.y (.agg #[.int .i64 g, .int .i64 (ix ts (a.toNat)), .int .i64 (ix ts (e.toNat))]) rfl (OpY.loadN (cs := [.int .i64 g, .int .i64 (ix ts (a.toNat)), .int .i64 (ix ts (e.toNat))]) Tagg_69 rfl (Cells.blk (.head _) ⟨rfl, rfl, rfl, trivial⟩)) ?_
     refine Run.step rfl (OpStep.buildSlice (us := [.int .i64 g, .int .i64 (ix ts (a.toNat)), .int .i64 (ix ts (e.toNat))]) Tsl_22 (by decide) (by decide) ⟨rfl, [.int .i64 g, .int .i64 (ix ts (a.toNat)), .int .i64 (ix ts (e.toNat))], _, rfl, rfl, rfl, rfl⟩ rfl fun b3 => ?_)
     refine Run.step rfl (OpStep.append (H1 := [.own (.slice (some ⟨b3, 0, none⟩) 1 1) 69 3 1 ([.int .i64 g, .int .i64 (ix ts (a.toNat)), .int .i64 (ix ts (e.toNat))]), .blk b2 69 [.int .i64 g, .int .i64 (ix ts (a.toNat)), .int .i64 (ix ts (e.toNat))]]) (H2 := []) (v := vo) (u := .slice (some ⟨b3, 0, none⟩) 1 1) (n := k) (m := 1) (xs := ints (fl ((L.take k).map (mapG ts)))) (ys := [.int .i64 g, .int .i64 (ix ts (a.toNat)), .int .i64 (ix ts (e.toNat))]) Tsl_22 (by decide) rfl rfl rfl rfl (fun w hs => hs.slOwn (.head _)) (by simp [Value.oneCell']) (by omega) (by simp only [maxLen]; omega) fun av1 hnav1 => ?_)
     refine Run.weak (H' := [.own (.slice (some ⟨b3, 0, none⟩) 1 1) 69 3 1 ([.int .i64 g, .int .i64 (ix ts (a.toNat)), .int .i64 (ix ts (e.toNat))]), .blk b2 69 [.int .i64 g, .int .i64 (ix ts (a.toNat)), .int .i64 (ix ts (e.toNat))], .own av1 69 3 (k + 1) (ints (fl ((L.take (k + 1)).map (mapG ts))))]) (Some'.weak (.take (.take (.takeEq (by rw [take_gx (by omega), hgx, List.map_append, fl_append, ints_append, List.map_cons, List.map_nil, fl_one]; simp [mapG, ints, *]) (.nil _))))) ?_ ⟨_, _, rfl, fun _ => nofun, fun _ => nofun⟩
     refine Run.p (av1) rfl rfl ?_
     refine Run.done ?_
     refine Run.blockEnd ?_
     refine Run.region ?_
     refine Run.y (.int .i64 ((((k : Nat) : Int)) + 1)) rfl (OpY.add rfl rfl rfl (by omega) (by omega)) ?_
     refine Run.p (.int .i64 ((((k : Nat) : Int)) + 1)) rfl rfl ?_
     refine Run.done ?_
     refine Run.goal ⟨(by repeat (first | exact Same.refl _ _ | refine Same.put rfl ?_ | refine Same.over rfl rfl ?_)), (k + 1, av1), ?_, ?_, ?_, ?_⟩
     ·show k + 1 ≤ n; omega
     ·show n - (k + 1) < n - k; omega
     ·exact ⟨(by first | rfl | (congr 1; omega) | simp), (by first | rfl | (congr 1; omega) | simp), trivial⟩
     ·exact (Some'.weak (.skip (.skip (.takeEq (by first | rfl | simp [fl, ints]) (.nil _)))))
    ·have p26 := h26; try simp only [bs] at p26
     refine Run.skip ?_
     refine Run.region ?_
     refine Run.p (vo) rfl rfl ?_
     refine Run.y (.agg #[.int .i64 g, .int .i64 (ix ts (a.toNat)), .int .i64 e]) rfl (OpY.loadN (cs := [.int .i64 g, .int .i64 (ix ts (a.toNat)), .int .i64 e]) Tagg_69 rfl (Cells.blk (.head _) ⟨rfl, rfl, rfl, trivial⟩)) ?_
     refine Run.step rfl (OpStep.buildSlice (us := [.int .i64 g, .int .i64 (ix ts (a.toNat)), .int .i64 e]) Tsl_22 (by decide) (by decide) ⟨rfl, [.int .i64 g, .int .i64 (ix ts (a.toNat)), .int .i64 e], _, rfl, rfl, rfl, rfl⟩ rfl fun b4 => ?_)
     refine Run.step rfl (OpStep.append (H1 := [.own (.slice (some ⟨b4, 0, none⟩) 1 1) 69 3 1 ([.int .i64 g, .int .i64 (ix ts (a.toNat)), .int .i64 e]), .blk b2 69 [.int .i64 g, .int .i64 (ix ts (a.toNat)), .int .i64 e]]) (H2 := []) (v := vo) (u := .slice (some ⟨b4, 0, none⟩) 1 1) (n := k) (m := 1) (xs := ints (fl ((L.take k).map (mapG ts)))) (ys := [.int .i64 g, .int .i64 (ix ts (a.toNat)), .int .i64 e]) Tsl_22 (by decide) rfl rfl rfl rfl (fun w hs => hs.slOwn (.head _)) (by simp [Value.oneCell']) (by omega) (by simp only [maxLen]; omega) fun av2 hnav2 => ?_)
     refine Run.weak (H' := [.own (.slice (some ⟨b4, 0, none⟩) 1 1) 69 3 1 ([.int .i64 g, .int .i64 (ix ts (a.toNat)), .int .i64 e]), .blk b2 69 [.int .i64 g, .int .i64 (ix ts (a.toNat)), .int .i64 e], .own av2 69 3 (k + 1) (ints (fl ((L.take (k + 1)).map (mapG ts))))]) (Some'.weak (.take (.take (.takeEq (by rw [take_gx (by omega), hgx, List.map_append, fl_append, ints_append, List.map_cons, List.map_nil, fl_one]; simp [mapG, ints, *]) (.nil _))))) ?_ ⟨_, _, rfl, fun _ => nofun, fun _ => nofun⟩
     refine Run.p (av2) rfl rfl ?_
     refine Run.done ?_
     refine Run.blockEnd ?_
     refine Run.region ?_
     refine Run.y (.int .i64 ((((k : Nat) : Int)) + 1)) rfl (OpY.add rfl rfl rfl (by omega) (by omega)) ?_
     refine Run.p (.int .i64 ((((k : Nat) : Int)) + 1)) rfl rfl ?_
     refine Run.done ?_
     refine Run.goal ⟨(by repeat (first | exact Same.refl _ _ | refine Same.put rfl ?_ | refine Same.over rfl rfl ?_)), (k + 1, av2), ?_, ?_, ?_, ?_⟩
     ·show k + 1 ≤ n; omega
     ·show n - (k + 1) < n - k; omega
     ·exact ⟨(by first | rfl | (congr 1; omega) | simp), (by first | rfl | (congr 1; omega) | simp), trivial⟩
     ·exact (Some'.weak (.skip (.skip (.takeEq (by first | rfl | simp [fl, ints]) (.nil _)))))
   ·have p17 := h17; try simp only [bs] at p17
    refine Run.skip ?_
    refine Run.seq ?_
    refine Run.sr ?_
    refine Run.y (.pointer (some ⟨b2, 0, none⟩)) rfl (OpY.fieldAddr Tfo_69_0 rfl rfl) ?_
    refine Run.y (.int .i64 g) rfl (OpY.load1 Tone_3 rfl (Cells.blk (.head _) ⟨rfl, trivial⟩)) ?_
    refine Run.q (v := .bool (decide (9 ≤ g ∧ g ≤ 11))) rfl (OpQ.call (vs := [.int .i64 g]) (caps := []) Tcall_95 rfl rfl (fun w hs => isTwo_spec _ w)) ?_
    refine Run.done ?_
    refine Run.cond (b := decide (9 ≤ g ∧ g ≤ 11)) rfl (fun h26 => ?_) (fun h26 => ?_)
    ·have p26 := h26; try simp only [bs] at p26
     exact absurd p26 (by omega) --DONE
    ·have p26 := h26; try simp only [bs] at p26
     refine Run.skip ?_
     refine Run.region ?_
     refine Run.p (vo) rfl rfl ?_
     refine Run.y (.agg #[.int .i64 g, .int .i64 a, .int .i64 e]) rfl (OpY.loadN (cs := [.int .i64 g, .int .i64 a, .int .i64 e]) Tagg_69 rfl (Cells.blk (.head _) ⟨rfl, rfl, rfl, trivial⟩)) ?_
     refine Run.step rfl (OpStep.buildSlice (us := [.int .i64 g, .int .i64 a, .int .i64 e]) Tsl_22 (by decide) (by decide) ⟨rfl, [.int .i64 g, .int .i64 a, .int .i64 e], _, rfl, rfl, rfl, rfl⟩ rfl fun b5 => ?_)
     refine Run.step rfl (OpStep.append (H1 := [.own (.slice (some ⟨b5, 0, none⟩) 1 1) 69 3 1 ([.int .i64 g, .int .i64 a, .int .i64 e]), .blk b2 69 [.int .i64 g, .int .i64 a, .int .i64 e]]) (H2 := []) (v := vo) (u := .slice (some ⟨b5, 0, none⟩) 1 1) (n := k) (m := 1) (xs := ints (fl ((L.take k).map (mapG ts)))) (ys := [.int .i64 g, .int .i64 a, .int .i64 e]) Tsl_22 (by decide) rfl rfl rfl rfl (fun w hs => hs.slOwn (.head _)) (by simp [Value.oneCell']) (by omega) (by simp only [maxLen]; omega) fun av3 hnav3 => ?_)
     refine Run.weak (H' := [.own (.slice (some ⟨b5, 0, none⟩) 1 1) 69 3 1 ([.int .i64 g, .int .i64 a, .int .i64 e]), .blk b2 69 [.int .i64 g, .int .i64 a, .int .i64 e], .own av3 69 3 (k + 1) (ints (fl ((L.take (k + 1)).map (mapG ts))))]) (Some'.weak (.take (.take (.takeEq (by rw [take_gx (by omega), hgx, List.map_append, fl_append, ints_append, List.map_cons, List.map_nil, fl_one]; simp [mapG, ints, *]) (.nil _))))) ?_ ⟨_, _, rfl, fun _ => nofun, fun _ => nofun⟩
     refine Run.p (av3) rfl rfl ?_
     refine Run.done ?_
     refine Run.blockEnd ?_
     refine Run.region ?_
     refine Run.y (.int .i64 ((((k : Nat) : Int)) + 1)) rfl (OpY.add rfl rfl rfl (by omega) (by omega)) ?_
     refine Run.p (.int .i64 ((((k : Nat) : Int)) + 1)) rfl rfl ?_
     refine Run.done ?_
     refine Run.goal ⟨(by repeat (first | exact Same.refl _ _ | refine Same.put rfl ?_ | refine Same.over rfl rfl ?_)), (k + 1, av3), ?_, ?_, ?_, ?_⟩
     ·show k + 1 ≤ n; omega
     ·show n - (k + 1) < n - k; omega
     ·exact ⟨(by first | rfl | (congr 1; omega) | simp), (by first | rfl | (congr 1; omega) | simp), trivial⟩
     ·exact (Some'.weak (.skip (.skip (.takeEq (by first | rfl | simp [fl, ints]) (.nil _)))))
  ·have p12 := h12; try simp only [bs] at p12
   have hkn : k = n := by omega
   have htk : L.take k = L := by rw [hkn, ← hLn, List.take_length]
   refine Run.exit rfl ?_
   refine Run.sr ?_
   refine Run.p (vo) rfl rfl ?_
   refine Run.p (vo) rfl rfl ?_
   refine Run.done ?_
   refine Run.ret ?_
   refine ⟨vo, [.own vo 69 3 (L.length) (ints (fl (L.map (mapG ts))))], Out.one rfl rfl, (Some'.weak (.takeEq (by rw [htk, hkn, hLn]) (.nil _))), ?_⟩
   rfl

set_option maxHeartbeats 1000000 in
set_option maxRecDepth 20000 in
theorem tooMany_spec {va : Value} {n : Nat} {L : List G3} {w : World} (hn : L.length = n) (h : (Res.own va 69 3 n (ints (fl L))).holds w) : Calls Tryz.prog 110 #[va] w (Post (Of [.own va 69 3 n (ints (fl L))]) w fun v H => H = [.own v 69 3 (trim L).length (ints (fl (trim L)))]) := by
 obtain ⟨q, hq⟩ : ∃ q, min n 401 = q := ⟨_, rfl⟩
 have htr : (trim L).length = q := by rw [trim, List.length_take]; omega
 have hne : ((q : Nat) : Int) = min ((n : Nat) : Int) 401 := by omega
 refine enter (n := 8) (args := [va]) Tryz.func110 rfl rfl (St.start1 h) ?_
 refine Run.sr ?_
 refine Run.p (.slice none 0 0) rfl rfl ?_
 refine Run.dsr ?_
 refine Run.p (va) rfl rfl ?_
 refine Run.p (va) rfl rfl ?_
 refine Run.formOwn (.head _) (fun A_va1 c_va1 hv hcapc_va1 hmaxc_va1 => ?_) (fun _ _ _ => ⟨nofun, nofun, nofun⟩)
 subst hv
 refine Run.y (.int .i64 (((n : Nat) : Int))) rfl (OpY.len Tsl_22 rfl) ?_
 refine Run.y (.int .i64 (min (((n : Nat) : Int)) 401)) rfl (OpY.min rfl rfl) ?_
 refine Run.y (.slice A_va1 q c_va1) rfl (OpY.sliceHN (h := q) Tsl_22 rfl rfl hne.symm (by omega)) ?_
 refine Run.weak (H' := [.own (.slice A_va1 q c_va1) 69 3 q (ints (fl (trim L)))]) ((Weak.ownTake (m := q) (by omega)).trans (Some'.weak (.takeEq (by rw [ints_take', fl_take, trim_take hn hq]) (.nil _)))) ?_ ⟨_, _, rfl, fun _ => nofun, fun _ => nofun⟩
 refine Run.p (.slice A_va1 q c_va1) rfl rfl ?_
 refine Run.done ?_
 refine Run.ret ?_
 refine ⟨.slice A_va1 q c_va1, [.own (.slice A_va1 q c_va1) 69 3 ((trim L).length) (ints (fl (trim L)))], Out.one rfl rfl, (Some'.weak (.takeEq (by rw [htr]) (.nil _))), ?_⟩
 rfl

set_option maxHeartbeats 1000000 in
set_option maxRecDepth 20000 in
theorem tell_spec {r : Nat} {vl vd : Value} {a1 c1 l1 cd ln : Int} {w : World} (h : (Res.blk r 91 [vl, .int .i64 a1, vd, .int .i64 c1, .int .i64 l1]).holds w) : Calls Tryz.prog 59 #[.pointer (some ⟨r, 0, none⟩), .int .i64 cd, .int .i64 ln] w (Post (Of [.blk r 91 [vl, .int .i64 a1, vd, .int .i64 c1, .int .i64 l1]]) w fun v H => v = .tuple #[] ∧ H = [.blk r 91 [vl, .int .i64 a1, vd, .int .i64 (tellP cd ln (c1, l1)).1, .int .i64 (tellP cd ln (c1, l1)).2]]) := by
 refine enter (n := 27) (args := [.pointer (some ⟨r, 0, none⟩), .int .i64 cd, .int .i64 ln]) Tryz.func59 rfl rfl (St.start1 h) ?_
 refine Run.sr ?_
 refine Run.p (.pointer (some ⟨r, 0, none⟩)) rfl rfl ?_
 refine Run.y (.pointer (some ⟨r, 0, none⟩)) rfl (OpY.nilCheck rfl) ?_
 refine Run.y (.pointer (some ⟨r, 3, none⟩)) rfl (OpY.fieldAddr Tfo_91_3 rfl rfl) ?_
 refine Run.y (.int .i64 c1) rfl (OpY.load1 Tone_3 rfl (Cells.blk (.head _) ⟨rfl, trivial⟩)) ?_
 refine Run.p (.bool (c1 == 0)) rfl rfl ?_
 rcases Bool.eq_false_or_eq_true (c1 == 0) with h11 | h11
 ·refine Run.q (v := .bool true) rfl (OpQ.y (OpY.moveB rfl h11)) ?_
  have p11 := h11; try simp only [bs] at p11
  refine Run.pass rfl ?_
  refine Run.pass rfl ?_
  refine Run.pass rfl ?_
  refine Run.pass rfl ?_
  refine Run.pass rfl ?_
  refine Run.pass rfl ?_
  refine Run.p (.bool true) rfl rfl ?_
  refine Run.done ?_
  refine Run.cond (b := true) rfl (fun _ => ?_) (fun h => nomatch h)
  have htp : tellP cd ln (c1, l1) = (cd, ln) := if_pos (by first | exact .inl p11 | exact .inr p18)
  refine Run.region ?_
  refine Run.p (.pointer (some ⟨r, 0, none⟩)) rfl rfl ?_
  refine Run.p (.pointer (some ⟨r, 0, none⟩)) rfl rfl ?_
  refine Run.p (.int .i64 cd) rfl rfl ?_
  refine Run.p (.int .i64 ln) rfl rfl ?_
  refine Run.y (.pointer (some ⟨r, 0, none⟩)) rfl (OpY.nilCheck rfl) ?_
  refine Run.y (.pointer (some ⟨r, 3, none⟩)) rfl (OpY.fieldAddr Tfo_91_3 rfl rfl) ?_
  refine Run.step rfl (OpStep.store (us := [.int .i64 cd]) Tsize_3 rfl rfl rfl (.here _) (by simp only [List.length_cons, List.length_nil]; omega) ?_)
  show Run _ _ _ [.blk r 91 [vl, .int .i64 a1, vd, .int .i64 cd, .int .i64 l1]]
  refine Run.y (.pointer (some ⟨r, 0, none⟩)) rfl (OpY.nilCheck rfl) ?_
  refine Run.y (.pointer (some ⟨r, 4, none⟩)) rfl (OpY.fieldAddr Tfo_91_4 rfl rfl) ?_
  refine Run.step rfl (OpStep.store (us := [.int .i64 ln]) Tsize_3 rfl rfl rfl (.here _) (by simp only [List.length_cons, List.length_nil]; omega) ?_)
  show Run _ _ _ [.blk r 91 [vl, .int .i64 a1, vd, .int .i64 cd, .int .i64 ln]]
  refine Run.done ?_
  refine Run.fin ?_
  refine ⟨.tuple #[], [.blk r 91 [vl, .int .i64 a1, vd, .int .i64 ((tellP cd ln (c1, l1)).1), .int .i64 ((tellP cd ln (c1, l1)).2)]], Out.none rfl, (Some'.weak (.takeEq (by rw [htp]) (.nil _))), ?_⟩
  exact ⟨rfl, rfl⟩
 ·refine Run.q (v := .bool false) rfl (OpQ.y (OpY.moveB rfl h11)) ?_
  have p11 := h11; try simp only [bs] at p11
  refine Run.p (.int .i64 cd) rfl rfl ?_
  refine Run.p (.pointer (some ⟨r, 0, none⟩)) rfl rfl ?_
  refine Run.y (.pointer (some ⟨r, 0, none⟩)) rfl (OpY.nilCheck rfl) ?_
  refine Run.y (.pointer (some ⟨r, 3, none⟩)) rfl (OpY.fieldAddr Tfo_91_3 rfl rfl) ?_
  refine Run.y (.int .i64 c1) rfl (OpY.load1 Tone_3 rfl (Cells.blk (.head _) ⟨rfl, trivial⟩)) ?_
  refine Run.p (.bool (decide (cd < c1))) rfl rfl ?_
  refine Run.p (.bool (decide (cd < c1))) rfl rfl ?_
  refine Run.done ?_
  refine Run.cond (b := decide (cd < c1)) rfl (fun h18 => ?_) (fun h18 => ?_)
  ·have p18 := h18; try simp only [bs] at p18
   have htp : tellP cd ln (c1, l1) = (cd, ln) := if_pos (by first | exact .inl p11 | exact .inr p18)
   refine Run.region ?_
   refine Run.p (.pointer (some ⟨r, 0, none⟩)) rfl rfl ?_
   refine Run.p (.pointer (some ⟨r, 0, none⟩)) rfl rfl ?_
   refine Run.p (.int .i64 cd) rfl rfl ?_
   refine Run.p (.int .i64 ln) rfl rfl ?_
   refine Run.y (.pointer (some ⟨r, 0, none⟩)) rfl (OpY.nilCheck rfl) ?_
   refine Run.y (.pointer (some ⟨r, 3, none⟩)) rfl (OpY.fieldAddr Tfo_91_3 rfl rfl) ?_
   refine Run.step rfl (OpStep.store (us := [.int .i64 cd]) Tsize_3 rfl rfl rfl (.here _) (by simp only [List.length_cons, List.length_nil]; omega) ?_)
   show Run _ _ _ [.blk r 91 [vl, .int .i64 a1, vd, .int .i64 cd, .int .i64 l1]]
   refine Run.y (.pointer (some ⟨r, 0, none⟩)) rfl (OpY.nilCheck rfl) ?_
   refine Run.y (.pointer (some ⟨r, 4, none⟩)) rfl (OpY.fieldAddr Tfo_91_4 rfl rfl) ?_
   refine Run.step rfl (OpStep.store (us := [.int .i64 ln]) Tsize_3 rfl rfl rfl (.here _) (by simp only [List.length_cons, List.length_nil]; omega) ?_)
   show Run _ _ _ [.blk r 91 [vl, .int .i64 a1, vd, .int .i64 cd, .int .i64 ln]]
   refine Run.done ?_
   refine Run.fin ?_
   refine ⟨.tuple #[], [.blk r 91 [vl, .int .i64 a1, vd, .int .i64 ((tellP cd ln (c1, l1)).1), .int .i64 ((tellP cd ln (c1, l1)).2)]], Out.none rfl, (Some'.weak (.takeEq (by rw [htp]) (.nil _))), ?_⟩
   exact ⟨rfl, rfl⟩
  ·have p18 := h18; try simp only [bs] at p18
   have htp : tellP cd ln (c1, l1) = (c1, l1) := if_neg (by rintro (h | h) <;> simp_all <;> omega)
   refine Run.skip ?_
   refine Run.fin ?_
   refine ⟨.tuple #[], [.blk r 91 [vl, .int .i64 a1, vd, .int .i64 ((tellP cd ln (c1, l1)).1), .int .i64 ((tellP cd ln (c1, l1)).2)]], Out.none rfl, (Some'.weak (.takeEq (by rw [htp]) (.nil _))), ?_⟩
   exact ⟨rfl, rfl⟩

set_option maxHeartbeats 4000000 in
set_option maxRecDepth 20000 in
theorem find_spec {r : Nat} {vl vd : Value} {a1 c1 l1 : Int} {n known : Nat} {nm : Bs} {D : List DV} {w : World} (hr : Sl w (.slice (some ⟨r, 0, none⟩) 1 1) 5 1 [vl, .int .i64 a1, vd, .int .i64 c1, .int .i64 l1]) (ha : Sl w vd 3 n (dls D)) (hD : DQ w D) (hk : known ≤ n) : Calls Tryz.prog 90 #[.pointer (some ⟨r, 0, none⟩), sv nm, .int .i64 ((known : Nat) : Int)] w (Post No w fun v H => ∃ s i A m c, v = .tuple #[.agg #[sv s, .int .i64 i, .slice A m c], .bool (decide (0 ≤ fdI D known nm))] ∧ H = [] ∧ (0 ≤ fdI D known nm → s = (dx D (fdI D known nm).toNat).1.nm ∧ i = (dx D (fdI D known nm).toNat).1.n ∧ m = (dx D (fdI D known nm).toNat).1.gs.length ∧ .slice A m c = (dx D (fdI D known nm).toNat).2)) := by
 have hDn : D.length = n := by have := ha.1; simp at this; omega
 obtain ⟨A, c, rfl, hnc, _⟩ := ha.form0
 have hn := ha.le
 refine enter (n := 28) (args := [.pointer (some ⟨r, 0, none⟩), sv nm, .int .i64 (((known : Nat) : Int))]) Tryz.func90 rfl rfl (St.empty _ _) ?_
 refine Run.sr ?_
 refine Run.step rfl (OpStep.alloc (zs := [sv ([]), .int .i64 0, .slice none 0 0]) Tzero_59 fun b1 => ?_)
 refine Run.p (.bool false) rfl rfl ?_
 refine Run.done ?_
 refine Run.seq ?_
 refine Run.sr ?_
 refine Run.p (.pointer (some ⟨r, 0, none⟩)) rfl rfl ?_
 refine Run.y (.pointer (some ⟨r, 0, none⟩)) rfl (OpY.nilCheck rfl) ?_
 refine Run.y (.pointer (some ⟨r, 2, none⟩)) rfl (OpY.fieldAddr Tfo_91_2 rfl rfl) ?_
 refine Run.y (.slice A n c) rfl (OpY.load1 Tone_55 rfl (Cells.env (k := 2) hr rfl (by decide) ⟨rfl, trivial⟩)) ?_
 refine Run.p (.int .i64 (((known : Nat) : Int))) rfl rfl ?_
 refine Run.y (.slice A known c) rfl (OpY.sliceHN (h := known) Tsl_55 rfl rfl rfl (by omega)) ?_
 refine Run.y (.int .i64 (((known : Nat) : Int))) rfl (OpY.len Tsl_55 rfl) ?_
 refine Run.p (.int .i64 0) rfl rfl ?_
 refine Run.done ?_
 refine Run.block ?_
 refine Run.loop (ι := Nat) [7, 9, 17, 18, 19, 20, 21, 22, 23, 24, 25, 26] (fun k => [(17, .int .i64 (((k : Nat) : Int)))]) (fun k => [.blk b1 59 [sv ([]), .int .i64 0, .slice none 0 0]]) (fun k => k ≤ known ∧ ∀ i, i < k → ((dx D i).1.nm == nm) = false) (fun k => known - k) 0 ?_ ?_ ?_ ?_
 ·exact ⟨Nat.zero_le _, fun i hi => by omega⟩
 ·exact ⟨rfl, trivial⟩
 ·exact (Some'.weak (.take (.nil _)))
 ·rintro k fr hinv
  show Run _ _ (over _ _ [(17, .int .i64 (((k : Nat) : Int)))] fr) [.blk b1 59 [sv ([]), .int .i64 0, .slice none 0 0]]
  try dsimp only at hinv
  refine Run.sr ?_
  refine Run.p (.bool (decide ((((k : Nat) : Int)) < (((known : Nat) : Int))))) rfl rfl ?_
  refine Run.done ?_
  refine Run.seq ?_
  refine Run.cond (b := decide ((((k : Nat) : Int)) < (((known : Nat) : Int)))) rfl (fun h18 => ?_) (fun h18 => ?_)
  ·have p18 := h18; try simp only [bs] at p18
   have hltk : k < known := by omega
   obtain ⟨d, hx⟩ : ∃ d, (dx D k).1 = d := ⟨_, rfl⟩
   obtain ⟨Ag, cg, hq, _, _⟩ := (hD k (by omega)).form0
   rw [hx] at hq
   obtain ⟨b, o, rfl⟩ := ha.opn (by omega)
   refine Run.skip ?_
   refine Run.seq ?_
   refine Run.block ?_
   refine Run.sr ?_
   refine Run.y (.pointer (some ⟨b, o + k * 3, none⟩)) rfl (OpY.index (kk := k) Tsl_55 rfl rfl (by omega) (by omega) (by first | rfl | omega)) ?_
   refine Run.y (.agg #[sv (d.nm), .int .i64 (d.n), .slice Ag (d.gs.length) cg]) rfl (OpY.loadN (cs := [sv (d.nm), .int .i64 (d.n), .slice Ag (d.gs.length) cg]) Tagg_59 rfl (Cells.arg (k := k * 3) ha rfl (by omega) (dls_preF (k := k) (by omega) hx hq))) ?_
   refine Run.step rfl (OpStep.alloc (zs := [sv ([]), .int .i64 0, .slice none 0 0]) Tzero_59 fun b2 => ?_)
   refine Run.step rfl (OpStep.storeAll (us := [sv (d.nm), .int .i64 (d.n), .slice Ag (d.gs.length) cg]) Tsize_59 rfl rfl rfl (.here _) rfl ?_)
   refine Run.dsr ?_
   refine Run.y (.pointer (some ⟨b2, 0, none⟩)) rfl (OpY.fieldAddr Tfo_59_0 rfl rfl) ?_
   refine Run.y (sv (d.nm)) rfl (OpY.load1 Tone_9 rfl (Cells.blk (.head _) ⟨rfl, trivial⟩)) ?_
   refine Run.p (sv nm) rfl rfl ?_
   refine Run.y (.bool ((d.nm) == nm)) rfl (OpY.eqS rfl rfl) ?_
   refine Run.done ?_
   refine Run.cond (b := (d.nm) == nm) rfl (fun h24 => ?_) (fun h24 => ?_)
   ·have p24 := h24; try simp only [bs] at p24
    refine Run.seq ?_
    have hfd : fdI D known nm = ((k : Nat) : Int) := findI_hit hinv.2 (by rw [hx]; exact h24) hltk
    refine Run.region ?_
    refine Run.y (.agg #[sv (d.nm), .int .i64 (d.n), .slice Ag (d.gs.length) cg]) rfl (OpY.loadN (cs := [sv (d.nm), .int .i64 (d.n), .slice Ag (d.gs.length) cg]) Tagg_59 rfl (Cells.blk (.head _) ⟨rfl, rfl, rfl, trivial⟩)) ?_
    refine Run.step rfl (OpStep.storeAll (us := [sv (d.nm), .int .i64 (d.n), .slice Ag (d.gs.length) cg]) Tsize_59 rfl rfl rfl (.there _ (.here _)) rfl ?_)
    refine Run.p (.bool true) rfl rfl ?_
    refine Run.done ?_
    refine Run.ret ?_
    refine ⟨.tuple #[.agg #[sv (d.nm), .int .i64 (d.n), .slice Ag (d.gs.length) cg], .bool true], [], Out.cell2 (cs := [sv (d.nm), .int .i64 (d.n), .slice Ag (d.gs.length) cg]) rfl Tagg_59 rfl (Cells.blk (.tail _ (List.Mem.head _)) ⟨rfl, rfl, rfl, trivial⟩) rfl, (Some'.weak (.nil _)), ?_⟩
    first | exact ⟨_, _, _, _, _, by rw [hfd]; rfl, rfl, by rw [hfd]; intro h; omega⟩ | exact ⟨_, _, _, _, _, by rw [hfd, show decide ((0 : Int) ≤ ((k : Nat) : Int)) = true from decide_eq_true (by omega)], rfl, by rw [hfd, Int.toNat_natCast, hx]; intro _; exact ⟨rfl, rfl, rfl, hq.symm⟩⟩
   ·have p24 := h24; try simp only [bs] at p24
    refine Run.skip ?_
    refine Run.blockEnd ?_
    have hgood : ((dx D k).1.nm == nm) = false := by rw [hx]; exact h24
    refine Run.region ?_
    refine Run.y (.int .i64 ((((k : Nat) : Int)) + 1)) rfl (OpY.add rfl rfl rfl (by omega) (by omega)) ?_
    refine Run.p (.int .i64 ((((k : Nat) : Int)) + 1)) rfl rfl ?_
    refine Run.done ?_
    refine Run.goal ⟨(by repeat (first | exact Same.refl _ _ | refine Same.put rfl ?_ | refine Same.over rfl rfl ?_)), k + 1, ?_, ?_, ?_, ?_⟩
    ·refine ⟨by omega, ?_⟩
     intro i hi
     rcases Nat.lt_succ_iff_lt_or_eq.1 hi with h | h
     ·exact hinv.2 i h
     ·rw [h]; exact hgood
    ·omega
    ·exact ⟨(by first | rfl | (congr 1; omega) | simp), trivial⟩
    ·exact (Some'.weak (.skip (.take (.nil _))))
  ·have p18 := h18; try simp only [bs] at p18
   have hkn : k = known := by omega
   have hfd : fdI D known nm = -1 := by rw [← hkn]; exact findI_none hinv.2
   refine Run.exit rfl ?_
   refine Run.sr ?_
   refine Run.y (.agg #[sv ([]), .int .i64 0, .slice none 0 0]) rfl (OpY.build (cs := [sv ([]), .int .i64 0, .slice none 0 0]) (by kernel_rfl)) ?_
   refine Run.step rfl (OpStep.storeAll (us := [sv ([]), .int .i64 0, .slice none 0 0]) Tsize_59 rfl rfl rfl (.here _) rfl ?_)
   refine Run.p (.bool false) rfl rfl ?_
   refine Run.done ?_
   refine Run.ret ?_
   refine ⟨.tuple #[.agg #[sv ([]), .int .i64 0, .slice none 0 0], .bool false], [], Out.cell2 (cs := [sv ([]), .int .i64 0, .slice none 0 0]) rfl Tagg_59 rfl (Cells.blk (.head _) ⟨rfl, rfl, rfl, trivial⟩) rfl, (Some'.weak (.nil _)), ?_⟩
   first | exact ⟨_, _, _, _, _, by rw [hfd]; rfl, rfl, by rw [hfd]; intro h; omega⟩ | exact ⟨_, _, _, _, _, by rw [hfd, show decide ((0 : Int) ≤ ((k : Nat) : Int)) = true from decide_eq_true (by omega)], rfl, by rw [hfd, Int.toNat_natCast, hx]; intro _; exact ⟨rfl, rfl, rfl, hq.symm⟩⟩

end Go.Proofs.YtgpkpopbajkklaaGreatDoor
/- Lists of truth values as cells. -/
set_option linter.unusedSimpArgs false
set_option linter.unusedVariables false
namespace Go.Proofs.YtgpkpopbajkklaaGreatDoor
open Go Go.RowKit
section
variable {E : Env} {f : Fr} {H : List Res} {d : Option Tmp} {ty : TypeId} {pos : String} {after : Array Edge} {gd : Option (Nat × Bool)}
end
end Go.Proofs.YtgpkpopbajkklaaGreatDoor
/- Walks: the neighbours of a node. -/
set_option linter.unusedSimpArgs false
set_option linter.unusedVariables false
namespace Go.Proofs.YtgpkpopbajkklaaGreatDoor
open Go Go.RowKit
end Go.Proofs.YtgpkpopbajkklaaGreatDoor
/- Plain laws: distances in a graph. -/
set_option linter.unusedSimpArgs false
set_option linter.unusedVariables false
namespace Go.Proofs.YtgpkpopbajkklaaGreatDoor
open Go Go.RowKit
/-- How many numbers below n have the property. -/
def cntP (p : Nat → Bool) : Nat → Nat
  | 0 => 0
  | n + 1 => cntP p n + (if p n then 1 else 0)
theorem cntP_le (p : Nat → Bool) : ∀ n, cntP p n ≤ n
  | 0 => Nat.le_refl _
  | n + 1 => by have := cntP_le p n; simp only [cntP]; split <;> omega
theorem cntP_mono {p q : Nat → Bool} : ∀ {n}, (∀ i, i < n → p i = true → q i = true) → cntP p n ≤ cntP q n
  | 0, _ => Nat.le_refl _
  | n + 1, h => by
    have ih := cntP_mono (n := n) fun i hi => h i (by omega)
    have h1 := h n (by omega)
    simp only [cntP]
    cases hp : p n
    · simp; omega
    · simp [h1 hp]; exact ih
theorem cntP_congr {p q : Nat → Bool} {n : Nat} (h : ∀ i, i < n → p i = q i) : cntP p n = cntP q n :=
  Nat.le_antisymm (cntP_mono fun i hi hp => by rw [← h i hi]; exact hp) (cntP_mono fun i hi hp => by rw [h i hi]; exact hp)
/-- One number more has the property. -/
theorem cntP_add {p q : Nat → Bool} {x : Nat} : ∀ {n}, x < n → (∀ i, i < n → i ≠ x → p i = q i) → p x = false → q x = true → cntP q n = cntP p n + 1
  | 0, h, _, _, _ => by omega
  | n + 1, hx, h, hp, hq => by
    simp only [cntP]
    by_cases e : x = n
    · subst e
      rw [cntP_congr (p := q) (q := p) fun i hi => (h i (by omega) (by omega)).symm]; simp [hp, hq]
    · rw [cntP_add (n := n) (by omega) (fun i hi hne => h i (by omega) hne) hp hq, h n (by omega) (by omega)]; omega

/-- The distances of all nodes from node s: 0 at s; each other one that is reached has a neighbour one step nearer; neighbours of reached nodes are reached, at most one step further; -1 elsewhere. -/
structure IsDist (A : Nat → Nat → Bool) (N s : Nat) (o : List Int) : Prop where
  len : o.length = N
  src : ix o s = 0
  low : ∀ v, v < N → -1 ≤ ix o v
  par : ∀ v, v < N → 0 ≤ ix o v → v = s ∨ ∃ u, u < N ∧ A u v = true ∧ 0 ≤ ix o u ∧ ix o v = ix o u + 1
  rel : ∀ u, u < N → ∀ v, v < N → 0 ≤ ix o u → A u v = true → 0 ≤ ix o v ∧ ix o v ≤ ix o u + 1
theorem IsDist.key {A : Nat → Nat → Bool} {N s : Nat} {o o' : List Int} (h : IsDist A N s o) (h' : IsDist A N s o') : ∀ (d : Nat) (v : Nat), v < N → ix o v = d → 0 ≤ ix o' v ∧ ix o' v ≤ d := by
  intro d
  induction d with
  | zero =>
    intro v hv e
    rcases h.par v hv (by omega) with rfl | ⟨u, hu, ha, h0, h1⟩
    · have := h'.src; omega
    · omega
  | succ d ih =>
    intro v hv e
    rcases h.par v hv (by omega) with rfl | ⟨u, hu, ha, h0, h1⟩
    · have := h'.src; omega
    · have h2 := ih u hu (by omega)
      have h3 := h'.rel u hu v hv h2.1 ha
      omega
/-! ### The reference: level by level -/
/-- The first d levels are right. -/
structure IsLev (A : Nat → Nat → Bool) (N s d : Nat) (o : List Int) : Prop where
  len : o.length = N
  src : ix o s = 0
  low : ∀ v, v < N → -1 ≤ ix o v ∧ ix o v ≤ d
  par : ∀ v, v < N → 0 ≤ ix o v → v = s ∨ ∃ u, u < N ∧ A u v = true ∧ 0 ≤ ix o u ∧ ix o v = ix o u + 1
  rel : ∀ u, u < N → ∀ v, v < N → 0 ≤ ix o u → ix o u < d → A u v = true → 0 ≤ ix o v ∧ ix o v ≤ ix o u + 1
/-- In round d, behind all pairs (u, v) with u below i, or u = i and v below k. -/
structure InRound (A : Nat → Nat → Bool) (N d i k : Nat) (o0 o : List Int) : Prop where
  len : o.length = N
  old : ∀ v, v < N → 0 ≤ ix o0 v → ix o v = ix o0 v
  new : ∀ v, v < N → ix o0 v < 0 → (ix o v = ix o0 v ∨ (ix o v = d + 1 ∧ ∃ u, u < N ∧ ix o0 u = d ∧ A u v = true))
  done : ∀ u, u < i → u < N → ∀ v, v < N → ix o0 u = d → A u v = true → 0 ≤ ix o v
  part : ∀ v, v < k → v < N → ix o0 i = d → A i v = true → 0 ≤ ix o v
theorem InRound.start {A : Nat → Nat → Bool} {N d : Nat} {o : List Int} (h : o.length = N) : InRound A N d 0 0 o o :=
  ⟨h, fun _ _ _ => rfl, fun _ _ _ => .inl rfl, fun _ h => by omega, fun _ h => by omega⟩
theorem InRound.next {A : Nat → Nat → Bool} {N d i : Nat} {o0 o : List Int} (h : InRound A N d i N o0 o) : InRound A N d (i + 1) 0 o0 o :=
  ⟨h.len, h.old, h.new, fun u hu huN v hv h0 ha => by
    by_cases e : u = i
    · subst e; exact h.part v hv hv h0 ha
    · exact h.done u (by omega) huN v hv h0 ha, fun _ h => by omega⟩
/-- Nothing is to be set. -/
theorem InRound.keep {A : Nat → Nat → Bool} {N d i k : Nat} {o0 o : List Int} (h : InRound A N d i k o0 o) (hc : ix o0 i = d → A i k = true → 0 ≤ ix o k) : InRound A N d i (k + 1) o0 o :=
  ⟨h.len, h.old, h.new, h.done, fun v hv hvN h0 ha => by
    by_cases e : v = k
    · subst e; exact hc h0 ha
    · exact h.part v (by omega) hvN h0 ha⟩
theorem InRound.set {A : Nat → Nat → Bool} {N d i k : Nat} {o0 o : List Int} (h : InRound A N d i k o0 o) (hi : i < N) (hk : k < N) (h0 : ix o0 i = d) (ha : A i k = true) (hneg : ix o k < 0) : InRound A N d i (k + 1) o0 (o.set k (d + 1)) := by
  have hx : ∀ v, v < N → ix (o.set k ((d : Int) + 1)) v = if k = v then (d : Int) + 1 else ix o v := fun v hv => ix_set (by rw [h.len]; exact hv)
  refine ⟨by simp [h.len], fun v hv h1 => ?_, fun v hv h1 => ?_, fun u hu huN v hv h1 h2 => ?_, fun v hv hvN h1 h2 => ?_⟩
  · rw [hx v hv]
    have := h.old v hv h1
    by_cases e : k = v
    · subst e; omega
    · rw [if_neg e]; exact this
  · rw [hx v hv]
    by_cases e : k = v
    · subst e; rw [if_pos rfl]; exact .inr ⟨rfl, i, hi, h0, ha⟩
    · rw [if_neg e]; exact h.new v hv h1
  · rw [hx v hv]; split
    · omega
    · exact h.done u hu huN v hv h1 h2
  · rw [hx v hvN]; split
    · omega
    · exact h.part v (by omega) hvN h1 h2
theorem IsLev.start {A : Nat → Nat → Bool} {N s : Nat} (hs : s < N) : IsLev A N s 0 ((List.replicate N (-1 : Int)).set s 0) := by
  have hx : ∀ v, v < N → ix ((List.replicate N (-1 : Int)).set s 0) v = if s = v then 0 else -1 := fun v hv => by
    rw [ix_set (by simpa using hv)]; split
    · rfl
    · simp [ix, List.getD, hv]
  refine ⟨by simp, by rw [hx s hs]; simp, fun v hv => by rw [hx v hv]; split <;> omega, fun v hv h => ?_, fun u hu v hv h1 h2 => ?_⟩
  · rw [hx v hv] at h
    by_cases e : s = v
    · exact .inl e.symm
    · rw [if_neg e] at h; omega
  · omega

/-! ### The program: a queue -/
/-- The queue q behind the nodes before at and the neighbours before position k of ns of the node at at. -/
structure InQ (A : Nat → Nat → Bool) (N s : Nat) (q : List Int) (at_ : Nat) (o : List Int) : Prop where
  slt : s < N
  len : o.length = N
  src : ix o s = 0
  low : ∀ v, v < N → -1 ≤ ix o v
  node : ∀ i, i < q.length → 0 ≤ ix q i ∧ ix q i < N
  val : ∀ i, i < q.length → 0 ≤ ix o (ix q i).toNat
  mem : ∀ v, v < N → 0 ≤ ix o v → ∃ i, i < q.length ∧ ix q i = v
  par : ∀ v, v < N → 0 ≤ ix o v → v = s ∨ ∃ u, u < N ∧ A u v = true ∧ 0 ≤ ix o u ∧ ix o v = ix o u + 1
  cnt : q.length = cntP (fun v => decide (0 ≤ ix o v)) N
  mono : ∀ i j, i ≤ j → j < q.length → ix o (ix q i).toNat ≤ ix o (ix q j).toNat
  last : at_ < q.length → ∀ i, i < q.length → ix o (ix q i).toNat ≤ ix o (ix q at_).toNat + 1
  rel : ∀ i, i < at_ → i < q.length → ∀ v, v < N → A (ix q i).toNat v = true → 0 ≤ ix o v ∧ ix o v ≤ ix o (ix q i).toNat + 1
theorem InQ.start {A : Nat → Nat → Bool} {N s : Nat} (hs : s < N) : InQ A N s [(s : Int)] 0 ((List.replicate N (-1 : Int)).set s 0) := by
  have hx : ∀ v, v < N → ix ((List.replicate N (-1 : Int)).set s 0) v = if s = v then 0 else -1 := fun v hv => by
    rw [ix_set (by simpa using hv)]; split
    · rfl
    · simp [ix, List.getD, hv]
  have h0 : ∀ i, i < [(s : Int)].length → i = 0 := fun i hi => by simp at hi; omega
  have e0 : ix [(s : Int)] 0 = s := rfl
  refine ⟨hs, by simp, by rw [hx s hs]; simp, fun v hv => by rw [hx v hv]; split <;> omega, fun i hi => ?_, fun i hi => ?_, fun v hv h => ?_, fun v hv h => ?_, ?_, fun i j hij hj => ?_, fun _ i hi => ?_, fun i hi => by omega⟩
  · rw [h0 i hi, e0]; omega
  · rw [h0 i hi, e0, Int.toNat_natCast, hx s hs]; simp
  · rw [hx v hv] at h
    by_cases e : s = v
    · exact ⟨0, by simp, by rw [e0, e]⟩
    · rw [if_neg e] at h; omega
  · rw [hx v hv] at h
    by_cases e : s = v
    · exact .inl e.symm
    · rw [if_neg e] at h; omega
  · have := cntP_add (p := fun _ => false) (q := fun v => decide (0 ≤ ix ((List.replicate N (-1 : Int)).set s 0) v)) (x := s) (n := N) hs (fun i hi hne => by rw [hx i hi, if_neg (by omega)]; simp) rfl (by rw [hx s hs]; simp)
    have h1 : ∀ n, cntP (fun _ => false) n = 0 := fun n => by induction n with
      | zero => rfl
      | succ n ih => simp [cntP, ih]
    rw [this, h1]; rfl
  · rw [h0 j hj, h0 i (by omega)]; exact Int.le_refl _
  · rw [h0 i hi]; omega
theorem InQ.size {A : Nat → Nat → Bool} {N s : Nat} {q : List Int} {at_ : Nat} {o : List Int} (h : InQ A N s q at_ o) : q.length ≤ N := by rw [h.cnt]; exact cntP_le _ _
theorem ix_append_left {xs ys : List Int} {i : Nat} (h : i < xs.length) : ix (xs ++ ys) i = ix xs i := by simp only [ix, List.getD, List.getElem?_append_left h]
theorem ix_append_one {xs : List Int} {a : Int} : ix (xs ++ [a]) xs.length = a := by simp [ix, List.getD]
/-- All neighbours of the node at at are met. -/
theorem InQ.next {A : Nat → Nat → Bool} {N s : Nat} {q : List Int} {at_ : Nat} {o : List Int} (h : InQ A N s q at_ o) (hat : at_ < q.length) (hall : ∀ v, v < N → A (ix q at_).toNat v = true → 0 ≤ ix o v) : InQ A N s q (at_ + 1) o :=
  ⟨h.slt, h.len, h.src, h.low, h.node, h.val, h.mem, h.par, h.cnt, h.mono, fun h2 i hi => by
    have h3 := h.last hat i hi
    have h4 := h.mono at_ (at_ + 1) (by omega) h2
    omega, fun i hi1 hi v hv hA => by
    by_cases e : i = at_
    · subst e
      have h1 := hall v hv hA
      obtain ⟨j, hj, e2⟩ := h.mem v hv h1
      have h3 := h.last hat j hj
      rw [e2, Int.toNat_natCast] at h3
      exact ⟨h1, h3⟩
    · exact h.rel i (by omega) hi v hv hA⟩

end Go.Proofs.YtgpkpopbajkklaaGreatDoor
/- Walks: distances in a coupling graph. -/
set_option linter.unusedSimpArgs false
set_option linter.unusedVariables false
namespace Go.Proofs.YtgpkpopbajkklaaGreatDoor
open Go Go.RowKit
/-- Two nodes are connected, by their numbers. -/
def adjN (xs : List Int) (n : Nat) (a b : Nat) : Bool := adj xs n a b
theorem filterL_mem {p : Nat → Bool} : ∀ {N v : Nat}, v < N → p v = true → ∃ i, i < (filterL p N).length ∧ ix (filterL p N) i = v
  | 0, v, h, _ => by omega
  | N + 1, v, h, hp => by
    simp only [filterL]
    by_cases e : v < N
    · obtain ⟨i, h1, h2⟩ := filterL_mem e hp
      exact ⟨i, by simp only [List.length_append]; omega, by rw [ix_append_left h1]; exact h2⟩
    · have e2 : v = N := by omega
      subst e2
      rw [hp]
      exact ⟨(filterL p v).length, by simp, by simp only [if_true]; exact ix_append_one⟩
theorem nb_mem {M : Nat} {xs : List Int} {n : Nat} {u : Int} {v : Nat} (hv : v < M) (ha : adj xs n u v = true) : ∃ i, i < (nbL (M : Int) xs n u).length ∧ ix (nbL (M : Int) xs n u) i = v := filterL_mem (by simpa using hv) ha
end Go.Proofs.YtgpkpopbajkklaaGreatDoor
/- Plain functions: the depths of the gates of a circuit. -/
set_option linter.unusedSimpArgs false
set_option linter.unusedVariables false
namespace Go.Proofs.YtgpkpopbajkklaaGreatDoor
open Go Go.RowKit
/-- The qubits of gate i. -/
def gq (xs : List Int) (i : Nat) : List Int := qs (ix xs (i * 3)) (ix xs (i * 3 + 1)) (ix xs (i * 3 + 2))
/-- The greatest value at some qubits. -/
def top (b : Int → Int) (Q : List Int) : Int := Q.foldl (fun m q => max m (b q)) 0
/-- The depth at a qubit behind the first i gates, where a gate of kind k counts inc k. -/
def bst (inc : Int → Int) (xs : List Int) : Nat → Int → Int
  | 0, _ => 0
  | i + 1, q => if (gq xs i).contains q then top (bst inc xs i) (gq xs i) + inc (ix xs (i * 3)) else bst inc xs i q
/-- The depth of gate i. -/
def dep (inc : Int → Int) (xs : List Int) (i : Nat) : Int := top (bst inc xs i) (gq xs i) + inc (ix xs (i * 3))
/-- The depths at the first five qubits. -/
def bstL (inc : Int → Int) (xs : List Int) (i : Nat) : List Int := (List.range 5).map fun q : Nat => bst inc xs i q
@[simp] theorem bstL_length (inc : Int → Int) (xs : List Int) (i : Nat) : (bstL inc xs i).length = 5 := by simp [bstL]
/-- The list with the value d at some places. -/
def putQ (l : List Int) (d : Int) : List Int → List Int
  | [] => l
  | q :: Q => putQ (l.set q.toNat d) d Q
@[simp] theorem putQ_length (d : Int) : ∀ (Q l : List Int), (putQ l d Q).length = l.length
  | [], _ => rfl
  | _ :: Q, l => by rw [putQ, putQ_length d Q]; simp
end Go.Proofs.YtgpkpopbajkklaaGreatDoor
/- Walks: gates with a common qubit, TDepthOf of the program and of the reference. -/
set_option linter.unusedSimpArgs false
set_option linter.unusedVariables false
namespace Go.Proofs.YtgpkpopbajkklaaGreatDoor
open Go Go.RowKit
def deepL (inc : Int → Int) (xs : List Int) (k : Nat) : List Int := (List.range k).map (dep inc xs)
@[simp] theorem deepL_length (inc : Int → Int) (xs : List Int) (k : Nat) : (deepL inc xs k).length = k := by simp [deepL]
end Go.Proofs.YtgpkpopbajkklaaGreatDoor
/- Walks: the layers and the depth of a circuit. -/
set_option linter.unusedSimpArgs false
set_option linter.unusedVariables false
namespace Go.Proofs.YtgpkpopbajkklaaGreatDoor
open Go Go.RowKit
end Go.Proofs.YtgpkpopbajkklaaGreatDoor
/- Walks: the diameter of a coupling graph. -/
set_option linter.unusedSimpArgs false
set_option linter.unusedVariables false
namespace Go.Proofs.YtgpkpopbajkklaaGreatDoor
open Go Go.RowKit
end Go.Proofs.YtgpkpopbajkklaaGreatDoor
/- Walks: SwapBound of the program and of the reference; circuits that fit a coupling graph. -/
set_option linter.unusedSimpArgs false
set_option linter.unusedVariables false
namespace Go.Proofs.YtgpkpopbajkklaaGreatDoor
open Go Go.RowKit
end Go.Proofs.YtgpkpopbajkklaaGreatDoor
/- Walks: shortest paths in a coupling graph. -/
set_option linter.unusedSimpArgs false
set_option linter.unusedVariables false
namespace Go.Proofs.YtgpkpopbajkklaaGreatDoor
open Go Go.RowKit
/-- The neighbours that are one step nearer; the first of them. -/
def nxtP (M : Nat) (xs : List Int) (n : Nat) (o : List Int) (a : Int) (i : Nat) : Bool := decide (ix o (ix (nbL (M : Int) xs n a) i).toNat = ix o a.toNat - 1)
/-- A node at a positive distance has a neighbour that is one step nearer. -/
theorem nearer {M : Nat} {xs : List Int} {n : Nat} {o : List Int} {s : Nat} (hd : IsDist (adjN xs n) M s o) {a : Int} (h0 : 0 ≤ a) (hM : a < M) (hx : 0 ≤ ix o a.toNat) (hne : a ≠ (s : Int)) :
    0 < ix o a.toNat ∧ ∃ i, i < (nbL (M : Int) xs n a).length ∧ nxtP M xs n o a i = true := by
  rcases hd.par a.toNat (by omega) hx with e | ⟨u, hu, hA, h1, h2⟩
  · exfalso; omega
  · refine ⟨by omega, ?_⟩
    have hA' : adj xs n a (u : Int) = true := by
      rw [adjN, Int.toNat_of_nonneg h0] at hA
      rw [adj_comm]; exact hA
    obtain ⟨i, hi, e⟩ := nb_mem hu hA'
    refine ⟨i, hi, ?_⟩
    rw [nxtP, e, Int.toNat_natCast, decide_eq_true_eq]
    omega
end Go.Proofs.YtgpkpopbajkklaaGreatDoor
/- Walks: the laws' own functions on slices of int. -/
set_option linter.unusedSimpArgs false
set_option linter.unusedVariables false
namespace Go.Proofs.YtgpkpopbajkklaaGreatDoor
open Go Go.RowKit
end Go.Proofs.YtgpkpopbajkklaaGreatDoor
/- Walks: the elimination of rows. -/
set_option linter.unusedSimpArgs false
set_option linter.unusedVariables false
namespace Go.Proofs.YtgpkpopbajkklaaGreatDoor
open Go Go.RowKit
/-- Additions of rows as gates. -/
def flCX : List (Nat × Nat) → List Int
  | [] => []
  | (a, b) :: l => 9 :: (a : Int) :: (b : Int) :: flCX l
@[simp] theorem flCX_length : ∀ l : List (Nat × Nat), (flCX l).length = l.length * 3
  | [] => rfl
  | (_, _) :: l => by simp only [flCX, List.length_cons, flCX_length l]; omega
end Go.Proofs.YtgpkpopbajkklaaGreatDoor
/- Walks: routings: placements that are swapped, gates that fit. -/
set_option linter.unusedSimpArgs false
set_option linter.unusedVariables false
namespace Go.Proofs.YtgpkpopbajkklaaGreatDoor
open Go Go.RowKit
/-- The contents of nodes a and b are swapped. -/
def swI (a b x : Int) : Int := if x = a then b else if x = b then a else x
def swL (a b : Int) (ps : List Int) : List Int := ps.map (swI a b)
@[simp] theorem swL_length (a b : Int) (ps : List Int) : (swL a b ps).length = ps.length := by simp [swL]
/-- .. as far as number k. -/
def prt (a b : Int) (k : Nat) (ps : List Int) : List Int := (List.range ps.length).map fun j : Nat => if j < k then swI a b (ix ps j) else ix ps j
@[simp] theorem prt_length (a b : Int) (k : Nat) (ps : List Int) : (prt a b k ps).length = ps.length := by simp [prt]
end Go.Proofs.YtgpkpopbajkklaaGreatDoor
/- Walks: gates that meet, gates that are ready. -/
set_option linter.unusedSimpArgs false
set_option linter.unusedVariables false
namespace Go.Proofs.YtgpkpopbajkklaaGreatDoor
open Go Go.RowKit
end Go.Proofs.YtgpkpopbajkklaaGreatDoor
/- Walks: a routing does what can be done. -/
set_option linter.unusedSimpArgs false
set_option linter.unusedVariables false
namespace Go.Proofs.YtgpkpopbajkklaaGreatDoor
open Go Go.RowKit
/-- A slice that lies apart from the blocks that may turn. -/
structure Ap (H0 : List Res) (w : World) (v : Value) (size n : Nat) (xs : List Value) : Prop where
  sl : Sl w v size n xs
  off : 0 < n → ∀ k, v.ownBlock = some k → ¬ Of H0 k
theorem Ap.go {H0 H : List Res} {w0 w : World} {v : Value} {size n : Nat} {xs : List Value} (h : Ap H0 w0 v size n xs) (hs : St (Of H0) w0 w H) : Sl w v size n xs := hs.slOff h.sl h.off
theorem Sl.lt {w : World} {v : Value} {size n : Nat} {xs : List Value} (h : Sl w v size n xs) (h0 : 0 < n) {k : Nat} (hk : v.ownBlock = some k) : k < w.heap.size := by
  obtain ⟨_, A, c, rfl, _, _, h4⟩ := h
  obtain ⟨b, o, rfl, hb, _⟩ := h4 h0
  simp only [Value.ownBlock, Option.some.injEq] at hk; subst hk; exact hb
theorem Ap.arg {H0 R : List Res} {w0 w : World} {v : Value} {size n : Nat} {xs : List Value} (h : Sl w0 v size n xs) (hs : St No w0 w (H0 ++ R)) : Ap H0 w v size n xs :=
  ⟨hs.sl h, fun h0 k hk ⟨r, hr, hrk⟩ => hs.fresh r (List.mem_append_left _ hr) k hrk (h.lt h0 hk)⟩
theorem Ap.own {M : Nat → Prop} {H0 R : List Res} {w0 w : World} {v : Value} {e : TypeId} {size n : Nat} {xs : List Value} (hm : Res.own v e size n xs ∈ R) (hs : St M w0 w (H0 ++ R)) : Ap H0 w v size n xs :=
  ⟨hs.slOwn (List.mem_append_right _ hm), fun _ k hk ⟨r, hr, hrk⟩ => (List.pairwise_append.1 hs.disj).2.2 r hr _ hm k hrk hk⟩
theorem Cells.ap {E : Env} {H H0 : List Res} {b o n c size : Nat} {xs ys : List Value} {k : Nat} (h : Ap H0 E.w0 (.slice (some ⟨b, o, none⟩) n c) size n xs) (hM : E.M = Of H0) (hn : 0 < n) (hp : Pre xs k ys) : Cells E H b (o + k) ys := by
  intro w hs
  have hs' : St (Of H0) E.w0 w H := by rw [← hM]; exact hs
  obtain ⟨_, A, c', he, _, _, h4⟩ := h.go hs'
  injection he with e1 _ _
  obtain ⟨b', o', hA, _, hr⟩ := h4 hn
  rw [hA] at e1
  injection e1 with e1
  injection e1 with e2 e3
  subst e2; subst e3
  intro j v hv
  have := hr (k + j) v (hp.get j v hv)
  rw [← Nat.add_assoc] at this; exact this
abbrev T3 := Int × Int × Int
def fl3 : List T3 → List Int
  | [] => []
  | t :: l => t.1 :: t.2.1 :: t.2.2 :: fl3 l
@[simp] theorem fl3_length : ∀ l : List T3, (fl3 l).length = l.length * 3
  | [] => rfl
  | t :: l => by simp [fl3, fl3_length l]; omega
end Go.Proofs.YtgpkpopbajkklaaGreatDoor
/- Walks: the program reads gates and calls of a circuit text. -/
set_option linter.unusedSimpArgs false
set_option linter.unusedVariables false
namespace Go.Proofs.YtgpkpopbajkklaaGreatDoor
open Go Go.RowKit
namespace TxjT
theorem Tagg_69 : aggOf Tryz.prog 69 = some 3 := by kernel_rfl
theorem Tcall_121 : callable Tryz.prog 121 = true := by kernel_rfl
theorem Tcall_122 : callable Tryz.prog 122 = true := by kernel_rfl
theorem Tcall_59 : callable Tryz.prog 59 = true := by kernel_rfl
theorem Tcall_65 : callable Tryz.prog 65 = true := by kernel_rfl
theorem Tcall_90 : callable Tryz.prog 90 = true := by kernel_rfl
theorem Tfo_59_1 : fieldOff Tryz.prog 59 1 = some 1 := by kernel_rfl
theorem Tfo_59_2 : fieldOff Tryz.prog 59 2 = some 2 := by kernel_rfl
theorem Tfo_69_1 : fieldOff Tryz.prog 69 1 = some 1 := by kernel_rfl
theorem Tfo_69_2 : fieldOff Tryz.prog 69 2 = some 2 := by kernel_rfl
theorem Tfo_91_1 : fieldOff Tryz.prog 91 1 = some 1 := by kernel_rfl
theorem Tfo_95_1 : fieldOff Tryz.prog 95 1 = some 1 := by kernel_rfl
theorem Tfo_95_2 : fieldOff Tryz.prog 95 2 = some 2 := by kernel_rfl
theorem Tfo_95_4 : fieldOff Tryz.prog 95 4 = some 4 := by kernel_rfl
theorem Tone_22 : oneOf Tryz.prog 22 = true := by kernel_rfl
theorem Tone_3 : oneOf Tryz.prog 3 = true := by kernel_rfl
theorem Tone_75 : oneOf Tryz.prog 75 = true := by kernel_rfl
theorem Tone_9 : oneOf Tryz.prog 9 = true := by kernel_rfl
theorem Tsize_3 : (Tryz.prog.info? 3).map (·.size) = some 1 := by kernel_rfl
theorem Tsize_59 : (Tryz.prog.info? 59).map (·.size) = some 3 := by kernel_rfl
theorem Tsize_69 : (Tryz.prog.info? 69).map (·.size) = some 3 := by kernel_rfl
theorem Tsl_22 : sliceOf Tryz.prog 22 = some (69, 3, 24, [.int .i64 0, .int .i64 0, .int .i64 0]) := by kernel_rfl
theorem Tsl_75 : sliceOf Tryz.prog 75 = some (3, 1, 8, [.int .i64 0]) := by kernel_rfl
theorem Tzero_59 : zeroOf Tryz.prog 59 = some [sv ([]), .int .i64 0, .slice none 0 0] := by kernel_rfl
theorem Tzero_69 : zeroOf Tryz.prog 69 = some [.int .i64 0, .int .i64 0, .int .i64 0] := by kernel_rfl
end TxjT
open TxjT
/-- The gate of a line. -/
def gateG (k : Int) (q : List Int) : G3 := (k, if 0 < q.length then ix q 0 else 0, if 1 < q.length then ix q 1 else 0)
def gateP (n k : Int) (q : List Int) (a : Int) (p : Int × Int) : List G3 × (Int × Int) := if gateOk n (gateG k q).1 (gateG k q).2.1 (gateG k q).2.2 then ([gateG k q], p) else ([], tellP 5 (a + 1) p)
def dfx (D : List Df) (k : Nat) : Df := D.getD k ⟨[], 0, []⟩
theorem dx_df (D : List DV) (k : Nat) : (dx D k).1 = dfx (D.map (·.1)) k := by
  simp only [dx, dfx, List.getD, List.getElem?_map]
  cases D[k]? <;> rfl
def fdJ (D : List Df) (known : Nat) (nm : Bs) : Int := findI (fun i => (dfx D i).nm == nm) known
theorem fdI_J (D : List DV) (known : Nat) (nm : Bs) : fdI D known nm = fdJ (D.map (·.1)) known nm := by
  unfold fdI fdJ; congr 1; funext i; rw [dx_df]
/-- A call's qubit that is out of range, was there before, or (any of them) when there are not as many as the definition has. -/
def badC (n m : Int) (q : List Int) (i : Nat) : Bool := decide (n ≤ ix q i) || (hasI q (ix q i) i || !decide (((q.length : Nat) : Int) = m))
def callP (n : Int) (D : List Df) (known : Nat) (nm : Bs) (q : List Int) (a : Int) (p : Int × Int) : List G3 × (Int × Int) :=
  if fdJ D known nm < 0 then ([], tellP 4 (a + 1) p)
  else if anyI (badC n (dfx D (fdJ D known nm).toNat).n q) q.length then ([], tellP 5 (a + 1) p)
  else ((dfx D (fdJ D known nm).toNat).gs.map (mapG q), p)
def DAp (H0 : List Res) (w : World) (D : List DV) : Prop := ∀ k, k < D.length → Ap H0 w (dx D k).2 3 (dx D k).1.gs.length (ints (fl (dx D k).1.gs))
theorem DAp.go {H0 H : List Res} {w0 w : World} {D : List DV} (h : DAp H0 w0 D) (hs : St (Of H0) w0 w H) : DQ w D := fun k hk => (h k hk).go hs
/-- Every definition's gates are valid on its qubits. -/
def DVal (D : List Df) : Prop := ∀ k, k < D.length → ∀ g ∈ (dfx D k).gs, gateOk (dfx D k).n g.1 g.2.1 g.2.2 = true
theorem mapOk_of {n : Int} {m : Nat} {L : List G3} (h : ∀ g ∈ L, gateOk n g.1 g.2.1 g.2.2 = true) (hn : n = (m : Int)) : MapOk m L := by
  intro g hg
  have h1 := gateOk_split (h g hg)
  subst hn
  constructor
  · intro h2; rcases h1 with h1 | h1 | h1 <;> omega
  · intro h2; rcases h1 with h1 | h1 | h1 <;> omega
theorem fdJ_lt {D : List Df} {known : Nat} {nm : Bs} : fdJ D known nm < (known : Int) := (findI_lt).2

set_option maxHeartbeats 4000000 in
set_option maxRecDepth 20000 in
theorem tgate_spec {r : Nat} {vl vd vq : Value} {a1 c1 l1 n k num : Int} {m : Nat} {w0 nm : Bs} {q : List Int} {w : World} (hn : 1 ≤ n ∧ n ≤ 5) (ha : 0 ≤ a1 ∧ a1 ≤ 16777216) (hq : Ap [.blk r 91 [vl, .int .i64 a1, vd, .int .i64 c1, .int .i64 l1]] w vq 1 m (ints q)) (h : (Res.blk r 91 [vl, .int .i64 a1, vd, .int .i64 c1, .int .i64 l1]).holds w) : Calls Tryz.prog 108 #[.pointer (some ⟨r, 0, none⟩), .agg #[sv w0, .int .i64 k, sv nm, .int .i64 num, vq], .int .i64 n] w (Post (Of [.blk r 91 [vl, .int .i64 a1, vd, .int .i64 c1, .int .i64 l1]]) w fun v H => H = [.own v 69 3 (gateP n k q a1 (c1, l1)).1.length (ints (fl (gateP n k q a1 (c1, l1)).1)), .blk r 91 [vl, .int .i64 a1, vd, .int .i64 (gateP n k q a1 (c1, l1)).2.1, .int .i64 (gateP n k q a1 (c1, l1)).2.2]]) := by
 have hqm := hq.sl.len
 obtain ⟨A, c, rfl, _, _⟩ := hq.sl.form0
 refine enter (n := 42) (args := [.pointer (some ⟨r, 0, none⟩), .agg #[sv w0, .int .i64 k, sv nm, .int .i64 num, .slice A m c], .int .i64 n]) Tryz.func108 rfl rfl (St.start1 h) ?_
 refine Run.sr ?_
 refine Run.step rfl (OpStep.box (us := [sv w0, .int .i64 k, sv nm, .int .i64 num, .slice A m c]) rfl fun b1 => ?_)
 refine Run.p (.slice none 0 0) rfl rfl ?_
 refine Run.dsr ?_
 refine Run.y (.pointer (some ⟨b1, 1, none⟩)) rfl (OpY.fieldAddr Tfo_95_1 rfl rfl) ?_
 refine Run.y (.int .i64 k) rfl (OpY.load1 Tone_3 rfl (Cells.blk (.head _) ⟨rfl, trivial⟩)) ?_
 refine Run.y (.agg #[.int .i64 k, .int .i64 0, .int .i64 0]) rfl (OpY.build (cs := [.int .i64 k, .int .i64 0, .int .i64 0]) (by kernel_rfl)) ?_
 refine Run.step rfl (OpStep.alloc (zs := [.int .i64 0, .int .i64 0, .int .i64 0]) Tzero_69 fun b2 => ?_)
 refine Run.step rfl (OpStep.storeAll (us := [.int .i64 k, .int .i64 0, .int .i64 0]) Tsize_69 rfl rfl rfl (.here _) rfl ?_)
 refine Run.done ?_
 refine Run.seq ?_
 refine Run.sr ?_
 refine Run.y (.pointer (some ⟨b1, 4, none⟩)) rfl (OpY.fieldAddr Tfo_95_4 rfl rfl) ?_
 refine Run.y (.slice A m c) rfl (OpY.load1 Tone_75 rfl (Cells.blk (.tail _ (List.Mem.head _)) ⟨rfl, trivial⟩)) ?_
 refine Run.y (.int .i64 (((m : Nat) : Int))) rfl (OpY.len Tsl_75 rfl) ?_
 refine Run.p (.bool (decide ((((m : Nat) : Int)) > 0))) rfl rfl ?_
 refine Run.done ?_
 refine Run.cond (b := decide ((((m : Nat) : Int)) > 0)) rfl (fun h14 => ?_) (fun h14 => ?_)
 ·have p14 := h14; try simp only [bs] at p14
  obtain ⟨b, o, rfl⟩ := hq.sl.opn (by omega)
  refine Run.region ?_
  refine Run.y (.pointer (some ⟨b1, 4, none⟩)) rfl (OpY.fieldAddr Tfo_95_4 rfl rfl) ?_
  refine Run.y (.slice (some ⟨b, o, none⟩) m c) rfl (OpY.load1 Tone_75 rfl (Cells.blk (.tail _ (List.Mem.head _)) ⟨rfl, trivial⟩)) ?_
  refine Run.y (.pointer (some ⟨b, o, none⟩)) rfl (OpY.index (kk := 0) Tsl_75 rfl rfl (by omega) (by omega) (by first | rfl | omega)) ?_
  refine Run.y (.int .i64 (ix q (0))) rfl (OpY.load1 Tone_3 rfl (Cells.ap (k := 0) hq rfl (by omega) (pre1 (by omega)))) ?_
  refine Run.y (.pointer (some ⟨b2, 1, none⟩)) rfl (OpY.fieldAddr Tfo_69_1 rfl rfl) ?_
  refine Run.step rfl (OpStep.store (us := [.int .i64 (ix q (0))]) Tsize_3 rfl rfl rfl (.here _) (by simp only [List.length_cons, List.length_nil]; omega) ?_)
  show Run _ _ _ [.blk b2 69 [.int .i64 k, .int .i64 (ix q (0)), .int .i64 0], .blk b1 95 [sv w0, .int .i64 k, sv nm, .int .i64 num, .slice (some ⟨b, o, none⟩) m c], .blk r 91 [vl, .int .i64 a1, vd, .int .i64 c1, .int .i64 l1]]
  refine Run.done ?_
  refine Run.seq ?_
  refine Run.sr ?_
  refine Run.y (.pointer (some ⟨b1, 4, none⟩)) rfl (OpY.fieldAddr Tfo_95_4 rfl rfl) ?_
  refine Run.y (.slice (some ⟨b, o, none⟩) m c) rfl (OpY.load1 Tone_75 rfl (Cells.blk (.tail _ (List.Mem.head _)) ⟨rfl, trivial⟩)) ?_
  refine Run.y (.int .i64 (((m : Nat) : Int))) rfl (OpY.len Tsl_75 rfl) ?_
  refine Run.p (.bool (decide ((((m : Nat) : Int)) > 1))) rfl rfl ?_
  refine Run.done ?_
  refine Run.cond (b := decide ((((m : Nat) : Int)) > 1)) rfl (fun h23 => ?_) (fun h23 => ?_)
  ·have p23 := h23; try simp only [bs] at p23
   refine Run.region ?_
   refine Run.y (.pointer (some ⟨b1, 4, none⟩)) rfl (OpY.fieldAddr Tfo_95_4 rfl rfl) ?_
   refine Run.y (.slice (some ⟨b, o, none⟩) m c) rfl (OpY.load1 Tone_75 rfl (Cells.blk (.tail _ (List.Mem.head _)) ⟨rfl, trivial⟩)) ?_
   refine Run.y (.pointer (some ⟨b, o + 1, none⟩)) rfl (OpY.index (kk := 1) Tsl_75 rfl rfl (by omega) (by omega) (by first | rfl | omega)) ?_
   refine Run.y (.int .i64 (ix q (1))) rfl (OpY.load1 Tone_3 rfl (Cells.ap (k := 1) hq rfl (by omega) (pre1 (by omega)))) ?_
   refine Run.y (.pointer (some ⟨b2, 2, none⟩)) rfl (OpY.fieldAddr Tfo_69_2 rfl rfl) ?_
   refine Run.step rfl (OpStep.store (us := [.int .i64 (ix q (1))]) Tsize_3 rfl rfl rfl (.here _) (by simp only [List.length_cons, List.length_nil]; omega) ?_)
   show Run _ _ _ [.blk b2 69 [.int .i64 k, .int .i64 (ix q (0)), .int .i64 (ix q (1))], .blk b1 95 [sv w0, .int .i64 k, sv nm, .int .i64 num, .slice (some ⟨b, o, none⟩) m c], .blk r 91 [vl, .int .i64 a1, vd, .int .i64 c1, .int .i64 l1]]
   refine Run.done ?_
   refine Run.seq ?_
   refine Run.seq ?_
   have hG : gateG k q = (k, ix q (0), ix q (1)) := by unfold gateG; first | (rw [if_pos (by omega), if_pos (by omega)]; done) | (rw [if_pos (by omega), if_neg (by omega)]; done) | (rw [if_neg (by omega), if_neg (by omega)]; done) | (exfalso; omega)
   refine Run.region ?_
   refine Run.p (.int .i64 n) rfl rfl ?_
   refine Run.y (.agg #[.int .i64 k, .int .i64 (ix q (0)), .int .i64 (ix q (1))]) rfl (OpY.loadN (cs := [.int .i64 k, .int .i64 (ix q (0)), .int .i64 (ix q (1))]) Tagg_69 rfl (Cells.blk (.head _) ⟨rfl, rfl, rfl, trivial⟩)) ?_
   refine Run.q (v := .bool (gateOk n k (ix q (0)) (ix q (1)))) rfl (OpQ.call (vs := [.int .i64 n, .agg #[.int .i64 k, .int .i64 (ix q (0)), .int .i64 (ix q (1))]]) (caps := []) Tcall_65 rfl rfl (fun w hs => IsValidGate_spec hn w)) ?_
   refine Run.p (.bool (!(gateOk n k (ix q (0)) (ix q (1))))) rfl rfl ?_
   refine Run.done ?_
   refine Run.cond (b := !(gateOk n k (ix q (0)) (ix q (1)))) rfl (fun h32 => ?_) (fun h32 => ?_)
   ·have p32 := h32; try simp only [bs] at p32
    have hP : gateP n k q a1 (c1, l1) = ([], tellP 5 (a1 + 1) (c1, l1)) := by rw [gateP, hG, if_neg (by rw [p32]; decide)]
    refine Run.sr ?_
    refine Run.p (.pointer (some ⟨r, 0, none⟩)) rfl rfl ?_
    refine Run.p (.pointer (some ⟨r, 0, none⟩)) rfl rfl ?_
    refine Run.y (.pointer (some ⟨r, 0, none⟩)) rfl (OpY.nilCheck rfl) ?_
    refine Run.y (.pointer (some ⟨r, 1, none⟩)) rfl (OpY.fieldAddr Tfo_91_1 rfl rfl) ?_
    refine Run.y (.int .i64 a1) rfl (OpY.load1 Tone_3 rfl (Cells.blk (.tail _ (.tail _ (List.Mem.head _))) ⟨rfl, trivial⟩)) ?_
    refine Run.y (.int .i64 (a1 + 1)) rfl (OpY.add rfl rfl rfl (by omega) (by omega)) ?_
    refine Run.step rfl (OpStep.callM (H1 := [.blk r 91 [vl, .int .i64 a1, vd, .int .i64 c1, .int .i64 l1]]) (H2 := [.blk b2 69 [.int .i64 k, .int .i64 (ix q (0)), .int .i64 (ix q (1))], .blk b1 95 [sv w0, .int .i64 k, sv nm, .int .i64 num, .slice (some ⟨b, o, none⟩) m c]]) (vs := [.pointer (some ⟨r, 0, none⟩), .int .i64 5, .int .i64 (a1 + 1)]) (caps := []) Tcall_59 rfl rfl (Weak.selF [2]) (fun w hs => tell_spec (hs.holds _ (.head _))) ?_)
    rintro _ _ ⟨rfl, rfl⟩
    show Run _ _ (putF _ _ _ (.tuple #[])) [.blk r 91 [vl, .int .i64 a1, vd, .int .i64 ((tellP 5 (a1 + 1) (c1, l1)).1), .int .i64 ((tellP 5 (a1 + 1) (c1, l1)).2)], .blk b2 69 [.int .i64 k, .int .i64 (ix q (0)), .int .i64 (ix q (1))], .blk b1 95 [sv w0, .int .i64 k, sv nm, .int .i64 num, .slice (some ⟨b, o, none⟩) m c]]
    refine Run.dsr ?_
    refine Run.p (.slice none 0 0) rfl rfl ?_
    refine Run.done ?_
    refine Run.ret ?_
    refine ⟨.slice none 0 0, [.own (.slice none 0 0) 69 3 ((gateP n k q a1 (c1, l1)).1.length) (ints (fl (gateP n k q a1 (c1, l1)).1)), .blk r 91 [vl, .int .i64 a1, vd, .int .i64 ((gateP n k q a1 (c1, l1)).2.1), .int .i64 ((gateP n k q a1 (c1, l1)).2.2)]], Out.one rfl rfl, ((Weak.nilOwn 69 3).trans (Some'.weak (.takeEq (by first | (rw [hP]; done) | (rw [hP]; rfl) | (rw [hP, hG, fl_one]; rfl) | (rw [hP, hG]; rfl)) (.takeEq (by first | (rw [hP]; done) | (rw [hP]; rfl) | (rw [hP, hG, fl_one]; rfl) | (rw [hP, hG]; rfl)) (.nil _))))), ?_⟩
    rfl
   ·have p32 := h32; try simp only [bs] at p32
    have hP : gateP n k q a1 (c1, l1) = ([gateG k q], (c1, l1)) := by rw [gateP, if_pos (by rw [hG]; exact p32)]
    refine Run.skip ?_
    refine Run.sr ?_
    refine Run.y (.agg #[.int .i64 k, .int .i64 (ix q (0)), .int .i64 (ix q (1))]) rfl (OpY.loadN (cs := [.int .i64 k, .int .i64 (ix q (0)), .int .i64 (ix q (1))]) Tagg_69 rfl (Cells.blk (.head _) ⟨rfl, rfl, rfl, trivial⟩)) ?_
    refine Run.step rfl (OpStep.buildSlice (us := [.int .i64 k, .int .i64 (ix q (0)), .int .i64 (ix q (1))]) Tsl_22 (by decide) (by decide) ⟨rfl, [.int .i64 k, .int .i64 (ix q (0)), .int .i64 (ix q (1))], _, rfl, rfl, rfl, rfl⟩ rfl fun b3 => ?_)
    refine Run.p (.slice (some ⟨b3, 0, none⟩) 1 1) rfl rfl ?_
    refine Run.done ?_
    refine Run.ret ?_
    refine ⟨.slice (some ⟨b3, 0, none⟩) 1 1, [.own (.slice (some ⟨b3, 0, none⟩) 1 1) 69 3 ((gateP n k q a1 (c1, l1)).1.length) (ints (fl (gateP n k q a1 (c1, l1)).1)), .blk r 91 [vl, .int .i64 a1, vd, .int .i64 ((gateP n k q a1 (c1, l1)).2.1), .int .i64 ((gateP n k q a1 (c1, l1)).2.2)]], Out.one rfl rfl, (Some'.weak (.takeEq (by first | (rw [hP]; done) | (rw [hP]; rfl) | (rw [hP, hG, fl_one]; rfl) | (rw [hP, hG]; rfl)) (.skip (.skip (.takeEq (by first | (rw [hP]; done) | (rw [hP]; rfl) | (rw [hP, hG, fl_one]; rfl) | (rw [hP, hG]; rfl)) (.nil _)))))), ?_⟩
    rfl
  ·have p23 := h23; try simp only [bs] at p23
   refine Run.skip ?_
   refine Run.seq ?_
   refine Run.seq ?_
   have hG : gateG k q = (k, ix q (0), 0) := by unfold gateG; first | (rw [if_pos (by omega), if_pos (by omega)]; done) | (rw [if_pos (by omega), if_neg (by omega)]; done) | (rw [if_neg (by omega), if_neg (by omega)]; done) | (exfalso; omega)
   refine Run.region ?_
   refine Run.p (.int .i64 n) rfl rfl ?_
   refine Run.y (.agg #[.int .i64 k, .int .i64 (ix q (0)), .int .i64 0]) rfl (OpY.loadN (cs := [.int .i64 k, .int .i64 (ix q (0)), .int .i64 0]) Tagg_69 rfl (Cells.blk (.head _) ⟨rfl, rfl, rfl, trivial⟩)) ?_
   refine Run.q (v := .bool (gateOk n k (ix q (0)) 0)) rfl (OpQ.call (vs := [.int .i64 n, .agg #[.int .i64 k, .int .i64 (ix q (0)), .int .i64 0]]) (caps := []) Tcall_65 rfl rfl (fun w hs => IsValidGate_spec hn w)) ?_
   refine Run.p (.bool (!(gateOk n k (ix q (0)) 0))) rfl rfl ?_
   refine Run.done ?_
   refine Run.cond (b := !(gateOk n k (ix q (0)) 0)) rfl (fun h32 => ?_) (fun h32 => ?_)
   ·have p32 := h32; try simp only [bs] at p32
    have hP : gateP n k q a1 (c1, l1) = ([], tellP 5 (a1 + 1) (c1, l1)) := by rw [gateP, hG, if_neg (by rw [p32]; decide)]
    refine Run.sr ?_
    refine Run.p (.pointer (some ⟨r, 0, none⟩)) rfl rfl ?_
    refine Run.p (.pointer (some ⟨r, 0, none⟩)) rfl rfl ?_
    refine Run.y (.pointer (some ⟨r, 0, none⟩)) rfl (OpY.nilCheck rfl) ?_
    refine Run.y (.pointer (some ⟨r, 1, none⟩)) rfl (OpY.fieldAddr Tfo_91_1 rfl rfl) ?_
    refine Run.y (.int .i64 a1) rfl (OpY.load1 Tone_3 rfl (Cells.blk (.tail _ (.tail _ (List.Mem.head _))) ⟨rfl, trivial⟩)) ?_
    refine Run.y (.int .i64 (a1 + 1)) rfl (OpY.add rfl rfl rfl (by omega) (by omega)) ?_
    refine Run.step rfl (OpStep.callM (H1 := [.blk r 91 [vl, .int .i64 a1, vd, .int .i64 c1, .int .i64 l1]]) (H2 := [.blk b2 69 [.int .i64 k, .int .i64 (ix q (0)), .int .i64 0], .blk b1 95 [sv w0, .int .i64 k, sv nm, .int .i64 num, .slice (some ⟨b, o, none⟩) m c]]) (vs := [.pointer (some ⟨r, 0, none⟩), .int .i64 5, .int .i64 (a1 + 1)]) (caps := []) Tcall_59 rfl rfl (Weak.selF [2]) (fun w hs => tell_spec (hs.holds _ (.head _))) ?_)
    rintro _ _ ⟨rfl, rfl⟩
    show Run _ _ (putF _ _ _ (.tuple #[])) [.blk r 91 [vl, .int .i64 a1, vd, .int .i64 ((tellP 5 (a1 + 1) (c1, l1)).1), .int .i64 ((tellP 5 (a1 + 1) (c1, l1)).2)], .blk b2 69 [.int .i64 k, .int .i64 (ix q (0)), .int .i64 0], .blk b1 95 [sv w0, .int .i64 k, sv nm, .int .i64 num, .slice (some ⟨b, o, none⟩) m c]]
    refine Run.dsr ?_
    refine Run.p (.slice none 0 0) rfl rfl ?_
    refine Run.done ?_
    refine Run.ret ?_
    refine ⟨.slice none 0 0, [.own (.slice none 0 0) 69 3 ((gateP n k q a1 (c1, l1)).1.length) (ints (fl (gateP n k q a1 (c1, l1)).1)), .blk r 91 [vl, .int .i64 a1, vd, .int .i64 ((gateP n k q a1 (c1, l1)).2.1), .int .i64 ((gateP n k q a1 (c1, l1)).2.2)]], Out.one rfl rfl, ((Weak.nilOwn 69 3).trans (Some'.weak (.takeEq (by first | (rw [hP]; done) | (rw [hP]; rfl) | (rw [hP, hG, fl_one]; rfl) | (rw [hP, hG]; rfl)) (.takeEq (by first | (rw [hP]; done) | (rw [hP]; rfl) | (rw [hP, hG, fl_one]; rfl) | (rw [hP, hG]; rfl)) (.nil _))))), ?_⟩
    rfl
   ·have p32 := h32; try simp only [bs] at p32
    have hP : gateP n k q a1 (c1, l1) = ([gateG k q], (c1, l1)) := by rw [gateP, if_pos (by rw [hG]; exact p32)]
    refine Run.skip ?_
    refine Run.sr ?_
    refine Run.y (.agg #[.int .i64 k, .int .i64 (ix q (0)), .int .i64 0]) rfl (OpY.loadN (cs := [.int .i64 k, .int .i64 (ix q (0)), .int .i64 0]) Tagg_69 rfl (Cells.blk (.head _) ⟨rfl, rfl, rfl, trivial⟩)) ?_
    refine Run.step rfl (OpStep.buildSlice (us := [.int .i64 k, .int .i64 (ix q (0)), .int .i64 0]) Tsl_22 (by decide) (by decide) ⟨rfl, [.int .i64 k, .int .i64 (ix q (0)), .int .i64 0], _, rfl, rfl, rfl, rfl⟩ rfl fun b4 => ?_)
    refine Run.p (.slice (some ⟨b4, 0, none⟩) 1 1) rfl rfl ?_
    refine Run.done ?_
    refine Run.ret ?_
    refine ⟨.slice (some ⟨b4, 0, none⟩) 1 1, [.own (.slice (some ⟨b4, 0, none⟩) 1 1) 69 3 ((gateP n k q a1 (c1, l1)).1.length) (ints (fl (gateP n k q a1 (c1, l1)).1)), .blk r 91 [vl, .int .i64 a1, vd, .int .i64 ((gateP n k q a1 (c1, l1)).2.1), .int .i64 ((gateP n k q a1 (c1, l1)).2.2)]], Out.one rfl rfl, (Some'.weak (.takeEq (by first | (rw [hP]; done) | (rw [hP]; rfl) | (rw [hP, hG, fl_one]; rfl) | (rw [hP, hG]; rfl)) (.skip (.skip (.takeEq (by first | (rw [hP]; done) | (rw [hP]; rfl) | (rw [hP, hG, fl_one]; rfl) | (rw [hP, hG]; rfl)) (.nil _)))))), ?_⟩
    rfl
 ·have p14 := h14; try simp only [bs] at p14
  refine Run.skip ?_
  refine Run.seq ?_
  refine Run.sr ?_
  refine Run.y (.pointer (some ⟨b1, 4, none⟩)) rfl (OpY.fieldAddr Tfo_95_4 rfl rfl) ?_
  refine Run.y (.slice A m c) rfl (OpY.load1 Tone_75 rfl (Cells.blk (.tail _ (List.Mem.head _)) ⟨rfl, trivial⟩)) ?_
  refine Run.y (.int .i64 (((m : Nat) : Int))) rfl (OpY.len Tsl_75 rfl) ?_
  refine Run.p (.bool (decide ((((m : Nat) : Int)) > 1))) rfl rfl ?_
  refine Run.done ?_
  refine Run.cond (b := decide ((((m : Nat) : Int)) > 1)) rfl (fun h23 => ?_) (fun h23 => ?_)
  ·have p23 := h23; try simp only [bs] at p23
   exact absurd p23 (by omega) --DONE
  ·have p23 := h23; try simp only [bs] at p23
   refine Run.skip ?_
   refine Run.seq ?_
   refine Run.seq ?_
   have hG : gateG k q = (k, 0, 0) := by unfold gateG; first | (rw [if_pos (by omega), if_pos (by omega)]; done) | (rw [if_pos (by omega), if_neg (by omega)]; done) | (rw [if_neg (by omega), if_neg (by omega)]; done) | (exfalso; omega)
   refine Run.region ?_
   refine Run.p (.int .i64 n) rfl rfl ?_
   refine Run.y (.agg #[.int .i64 k, .int .i64 0, .int .i64 0]) rfl (OpY.loadN (cs := [.int .i64 k, .int .i64 0, .int .i64 0]) Tagg_69 rfl (Cells.blk (.head _) ⟨rfl, rfl, rfl, trivial⟩)) ?_
   refine Run.q (v := .bool (gateOk n k 0 0)) rfl (OpQ.call (vs := [.int .i64 n, .agg #[.int .i64 k, .int .i64 0, .int .i64 0]]) (caps := []) Tcall_65 rfl rfl (fun w hs => IsValidGate_spec hn w)) ?_
   refine Run.p (.bool (!(gateOk n k 0 0))) rfl rfl ?_
   refine Run.done ?_
   refine Run.cond (b := !(gateOk n k 0 0)) rfl (fun h32 => ?_) (fun h32 => ?_)
   ·have p32 := h32; try simp only [bs] at p32
    have hP : gateP n k q a1 (c1, l1) = ([], tellP 5 (a1 + 1) (c1, l1)) := by rw [gateP, hG, if_neg (by rw [p32]; decide)]
    refine Run.sr ?_
    refine Run.p (.pointer (some ⟨r, 0, none⟩)) rfl rfl ?_
    refine Run.p (.pointer (some ⟨r, 0, none⟩)) rfl rfl ?_
    refine Run.y (.pointer (some ⟨r, 0, none⟩)) rfl (OpY.nilCheck rfl) ?_
    refine Run.y (.pointer (some ⟨r, 1, none⟩)) rfl (OpY.fieldAddr Tfo_91_1 rfl rfl) ?_
    refine Run.y (.int .i64 a1) rfl (OpY.load1 Tone_3 rfl (Cells.blk (.tail _ (.tail _ (List.Mem.head _))) ⟨rfl, trivial⟩)) ?_
    refine Run.y (.int .i64 (a1 + 1)) rfl (OpY.add rfl rfl rfl (by omega) (by omega)) ?_
    refine Run.step rfl (OpStep.callM (H1 := [.blk r 91 [vl, .int .i64 a1, vd, .int .i64 c1, .int .i64 l1]]) (H2 := [.blk b2 69 [.int .i64 k, .int .i64 0, .int .i64 0], .blk b1 95 [sv w0, .int .i64 k, sv nm, .int .i64 num, .slice A m c]]) (vs := [.pointer (some ⟨r, 0, none⟩), .int .i64 5, .int .i64 (a1 + 1)]) (caps := []) Tcall_59 rfl rfl (Weak.selF [2]) (fun w hs => tell_spec (hs.holds _ (.head _))) ?_)
    rintro _ _ ⟨rfl, rfl⟩
    show Run _ _ (putF _ _ _ (.tuple #[])) [.blk r 91 [vl, .int .i64 a1, vd, .int .i64 ((tellP 5 (a1 + 1) (c1, l1)).1), .int .i64 ((tellP 5 (a1 + 1) (c1, l1)).2)], .blk b2 69 [.int .i64 k, .int .i64 0, .int .i64 0], .blk b1 95 [sv w0, .int .i64 k, sv nm, .int .i64 num, .slice A m c]]
    refine Run.dsr ?_
    refine Run.p (.slice none 0 0) rfl rfl ?_
    refine Run.done ?_
    refine Run.ret ?_
    refine ⟨.slice none 0 0, [.own (.slice none 0 0) 69 3 ((gateP n k q a1 (c1, l1)).1.length) (ints (fl (gateP n k q a1 (c1, l1)).1)), .blk r 91 [vl, .int .i64 a1, vd, .int .i64 ((gateP n k q a1 (c1, l1)).2.1), .int .i64 ((gateP n k q a1 (c1, l1)).2.2)]], Out.one rfl rfl, ((Weak.nilOwn 69 3).trans (Some'.weak (.takeEq (by first | (rw [hP]; done) | (rw [hP]; rfl) | (rw [hP, hG, fl_one]; rfl) | (rw [hP, hG]; rfl)) (.takeEq (by first | (rw [hP]; done) | (rw [hP]; rfl) | (rw [hP, hG, fl_one]; rfl) | (rw [hP, hG]; rfl)) (.nil _))))), ?_⟩
    rfl
   ·have p32 := h32; try simp only [bs] at p32
    have hP : gateP n k q a1 (c1, l1) = ([gateG k q], (c1, l1)) := by rw [gateP, if_pos (by rw [hG]; exact p32)]
    refine Run.skip ?_
    refine Run.sr ?_
    refine Run.y (.agg #[.int .i64 k, .int .i64 0, .int .i64 0]) rfl (OpY.loadN (cs := [.int .i64 k, .int .i64 0, .int .i64 0]) Tagg_69 rfl (Cells.blk (.head _) ⟨rfl, rfl, rfl, trivial⟩)) ?_
    refine Run.step rfl (OpStep.buildSlice (us := [.int .i64 k, .int .i64 0, .int .i64 0]) Tsl_22 (by decide) (by decide) ⟨rfl, [.int .i64 k, .int .i64 0, .int .i64 0], _, rfl, rfl, rfl, rfl⟩ rfl fun b5 => ?_)
    refine Run.p (.slice (some ⟨b5, 0, none⟩) 1 1) rfl rfl ?_
    refine Run.done ?_
    refine Run.ret ?_
    refine ⟨.slice (some ⟨b5, 0, none⟩) 1 1, [.own (.slice (some ⟨b5, 0, none⟩) 1 1) 69 3 ((gateP n k q a1 (c1, l1)).1.length) (ints (fl (gateP n k q a1 (c1, l1)).1)), .blk r 91 [vl, .int .i64 a1, vd, .int .i64 ((gateP n k q a1 (c1, l1)).2.1), .int .i64 ((gateP n k q a1 (c1, l1)).2.2)]], Out.one rfl rfl, (Some'.weak (.takeEq (by first | (rw [hP]; done) | (rw [hP]; rfl) | (rw [hP, hG, fl_one]; rfl) | (rw [hP, hG]; rfl)) (.skip (.skip (.takeEq (by first | (rw [hP]; done) | (rw [hP]; rfl) | (rw [hP, hG, fl_one]; rfl) | (rw [hP, hG]; rfl)) (.nil _)))))), ?_⟩
    rfl

set_option maxHeartbeats 8000000 in
set_option maxRecDepth 20000 in
theorem tcall_spec {r : Nat} {vl vd vq : Value} {a1 c1 l1 n k num : Int} {m dn known : Nat} {w0 nm : Bs} {q : List Int} {D : List DV} {w : World} (ha : 0 ≤ a1 ∧ a1 ≤ 16777216) (hq : Ap [.blk r 91 [vl, .int .i64 a1, vd, .int .i64 c1, .int .i64 l1]] w vq 1 m (ints q)) (h1 : 1 ≤ m) (hd : Ap [.blk r 91 [vl, .int .i64 a1, vd, .int .i64 c1, .int .i64 l1]] w vd 3 dn (dls D)) (hD : DAp [.blk r 91 [vl, .int .i64 a1, vd, .int .i64 c1, .int .i64 l1]] w D) (hval : DVal (D.map (·.1))) (hD16 : ∀ k, k < D.length → (dx D k).1.gs.length ≤ 16777216) (hk : known ≤ dn) (h : (Res.blk r 91 [vl, .int .i64 a1, vd, .int .i64 c1, .int .i64 l1]).holds w) : Calls Tryz.prog 109 #[.pointer (some ⟨r, 0, none⟩), .agg #[sv w0, .int .i64 k, sv nm, .int .i64 num, vq], .int .i64 n, .int .i64 ((known : Nat) : Int)] w (Post (Of [.blk r 91 [vl, .int .i64 a1, vd, .int .i64 c1, .int .i64 l1]]) w fun v H => H = [.own v 69 3 (callP n (D.map (·.1)) known nm q a1 (c1, l1)).1.length (ints (fl (callP n (D.map (·.1)) known nm q a1 (c1, l1)).1)), .blk r 91 [vl, .int .i64 a1, vd, .int .i64 (callP n (D.map (·.1)) known nm q a1 (c1, l1)).2.1, .int .i64 (callP n (D.map (·.1)) known nm q a1 (c1, l1)).2.2]]) := by
 have hqm := hq.sl.len
 have hql : q.length = m := by omega
 have hm63 := hq.sl.le
 have hdn : D.length = dn := by have := hd.sl.1; simp at this; omega
 obtain ⟨A, c, rfl, _, _⟩ := hq.sl.form0
 refine enter (n := 70) (args := [.pointer (some ⟨r, 0, none⟩), .agg #[sv w0, .int .i64 k, sv nm, .int .i64 num, .slice A m c], .int .i64 n, .int .i64 (((known : Nat) : Int))]) Tryz.func109 rfl rfl (St.start1 h) ?_
 refine Run.sr ?_
 refine Run.step rfl (OpStep.box (us := [sv w0, .int .i64 k, sv nm, .int .i64 num, .slice A m c]) rfl fun b1 => ?_)
 refine Run.p (.slice none 0 0) rfl rfl ?_
 refine Run.dsr ?_
 refine Run.p (.pointer (some ⟨r, 0, none⟩)) rfl rfl ?_
 refine Run.y (.pointer (some ⟨b1, 2, none⟩)) rfl (OpY.fieldAddr Tfo_95_2 rfl rfl) ?_
 refine Run.y (sv nm) rfl (OpY.load1 Tone_9 rfl (Cells.blk (.head _) ⟨rfl, trivial⟩)) ?_
 refine Run.p (.int .i64 (((known : Nat) : Int))) rfl rfl ?_
 refine Run.step rfl (OpStep.call (vs := [.pointer (some ⟨r, 0, none⟩), sv nm, .int .i64 (((known : Nat) : Int))]) (caps := []) Tcall_90 rfl rfl (fun w hs => find_spec (hs.slBlk (.tail _ (List.Mem.head _))) (hd.go hs) (hD.go hs) hk) ?_)
 rintro _ _ ⟨s1, i1, Ag, mg, cg, rfl, rfl, hf⟩
 show Run _ _ (putF _ _ _ (.tuple #[.agg #[sv s1, .int .i64 i1, .slice Ag mg cg], .bool (decide (0 ≤ fdI D known nm))])) [.blk b1 95 [sv w0, .int .i64 k, sv nm, .int .i64 num, .slice A m c], .blk r 91 [vl, .int .i64 a1, vd, .int .i64 c1, .int .i64 l1]]
 refine Run.p (.tuple #[.agg #[sv s1, .int .i64 i1, .slice Ag mg cg], .bool (decide (0 ≤ fdI D known nm))]) rfl rfl ?_
 refine Run.p (.agg #[sv s1, .int .i64 i1, .slice Ag mg cg]) rfl rfl ?_
 refine Run.p (.bool (decide (0 ≤ fdI D known nm))) rfl rfl ?_
 refine Run.step rfl (OpStep.alloc (zs := [sv ([]), .int .i64 0, .slice none 0 0]) Tzero_59 fun b2 => ?_)
 refine Run.step rfl (OpStep.storeAll (us := [sv s1, .int .i64 i1, .slice Ag mg cg]) Tsize_59 rfl rfl rfl (.here _) rfl ?_)
 refine Run.p (.bool (decide (0 ≤ fdI D known nm))) rfl rfl ?_
 refine Run.done ?_
 refine Run.seq ?_
 refine Run.sr ?_
 refine Run.p (.bool (decide (0 ≤ fdI D known nm))) rfl rfl ?_
 refine Run.p (.bool (!(decide (0 ≤ fdI D known nm)))) rfl rfl ?_
 refine Run.done ?_
 refine Run.cond (b := !(decide (0 ≤ fdI D known nm))) rfl (fun h22 => ?_) (fun h22 => ?_)
 ·have p22 := h22; try simp only [bs] at p22
  have hP : callP n (D.map (·.1)) known nm q a1 (c1, l1) = ([], tellP 4 (a1 + 1) (c1, l1)) := by rw [callP, ← fdI_J, if_pos (by simpa using h22)]
  refine Run.sr ?_
  refine Run.p (.pointer (some ⟨r, 0, none⟩)) rfl rfl ?_
  refine Run.p (.pointer (some ⟨r, 0, none⟩)) rfl rfl ?_
  refine Run.y (.pointer (some ⟨r, 0, none⟩)) rfl (OpY.nilCheck rfl) ?_
  refine Run.y (.pointer (some ⟨r, 1, none⟩)) rfl (OpY.fieldAddr Tfo_91_1 rfl rfl) ?_
  refine Run.y (.int .i64 a1) rfl (OpY.load1 Tone_3 rfl (Cells.blk (.tail _ (.tail _ (List.Mem.head _))) ⟨rfl, trivial⟩)) ?_
  refine Run.y (.int .i64 (a1 + 1)) rfl (OpY.add rfl rfl rfl (by omega) (by omega)) ?_
  refine Run.step rfl (OpStep.callM (H1 := [.blk r 91 [vl, .int .i64 a1, vd, .int .i64 c1, .int .i64 l1]]) (H2 := [.blk b2 59 [sv s1, .int .i64 i1, .slice Ag mg cg], .blk b1 95 [sv w0, .int .i64 k, sv nm, .int .i64 num, .slice A m c]]) (vs := [.pointer (some ⟨r, 0, none⟩), .int .i64 4, .int .i64 (a1 + 1)]) (caps := []) Tcall_59 rfl rfl (Weak.selF [2]) (fun w hs => tell_spec (hs.holds _ (.head _))) ?_)
  rintro _ _ ⟨rfl, rfl⟩
  show Run _ _ (putF _ _ _ (.tuple #[])) [.blk r 91 [vl, .int .i64 a1, vd, .int .i64 ((tellP 4 (a1 + 1) (c1, l1)).1), .int .i64 ((tellP 4 (a1 + 1) (c1, l1)).2)], .blk b2 59 [sv s1, .int .i64 i1, .slice Ag mg cg], .blk b1 95 [sv w0, .int .i64 k, sv nm, .int .i64 num, .slice A m c]]
  refine Run.dsr ?_
  refine Run.p (.slice none 0 0) rfl rfl ?_
  refine Run.done ?_
  refine Run.ret ?_
  refine ⟨.slice none 0 0, [.own (.slice none 0 0) 69 3 ((callP n (D.map (·.1)) known nm q a1 (c1, l1)).1.length) (ints (fl (callP n (D.map (·.1)) known nm q a1 (c1, l1)).1)), .blk r 91 [vl, .int .i64 a1, vd, .int .i64 ((callP n (D.map (·.1)) known nm q a1 (c1, l1)).2.1), .int .i64 ((callP n (D.map (·.1)) known nm q a1 (c1, l1)).2.2)]], Out.one rfl rfl, ((Weak.nilOwn 69 3).trans (Some'.weak (.takeEq (by first | (rw [hP]; done) | (rw [hP]; rfl) | (rw [hP]; simp)) (.takeEq (by first | (rw [hP]; done) | (rw [hP]; rfl) | (rw [hP]; simp)) (.nil _))))), ?_⟩
  rfl
 ·have p22 := h22; try simp only [bs] at p22
  have hf0 : 0 ≤ fdI D known nm := by simpa using h22
  obtain ⟨j, hj⟩ : ∃ j : Nat, fdI D known nm = (j : Int) := ⟨(fdI D known nm).toNat, by omega⟩
  have hjlt : j < known := by have := findI_lt (p := fun i => (dx D i).1.nm == nm) (n := known); have e : fdI D known nm = findI (fun i => (dx D i).1.nm == nm) known := rfl; rw [← e] at this; omega
  have hf2 := hf hf0
  rw [hj, Int.toNat_natCast] at hf2
  obtain ⟨d, hdj⟩ : ∃ d, (dx D j).1 = d := ⟨_, rfl⟩
  rw [hdj] at hf2
  obtain ⟨rfl, rfl, rfl, hgv⟩ := hf2
  refine Run.skip ?_
  refine Run.seq ?_
  refine Run.sr ?_
  refine Run.y (.pointer (some ⟨b1, 4, none⟩)) rfl (OpY.fieldAddr Tfo_95_4 rfl rfl) ?_
  refine Run.y (.slice A m c) rfl (OpY.load1 Tone_75 rfl (Cells.blk (.tail _ (List.Mem.head _)) ⟨rfl, trivial⟩)) ?_
  refine Run.y (.int .i64 (((m : Nat) : Int))) rfl (OpY.len Tsl_75 rfl) ?_
  refine Run.p (.int .i64 0) rfl rfl ?_
  refine Run.done ?_
  refine Run.block ?_
  refine Run.loop (ι := Nat) [8, 11, 12, 33, 34, 35, 36, 37, 38, 39, 40, 41, 42, 43, 44, 45, 46, 47, 48, 49, 50, 51, 52, 53, 54, 55, 56, 57, 58, 59, 60, 61, 62, 63, 64] (fun i => [(33, .int .i64 (((i : Nat) : Int)))]) (fun i => [.blk b2 59 [sv (d.nm), .int .i64 (d.n), .slice Ag (d.gs.length) cg], .blk b1 95 [sv w0, .int .i64 k, sv nm, .int .i64 num, .slice A m c], .blk r 91 [vl, .int .i64 a1, vd, .int .i64 c1, .int .i64 l1]]) (fun i => i ≤ m ∧ ∀ i2, i2 < i → badC n d.n q i2 = false) (fun i => m - i) 0 ?_ ?_ ?_ ?_
  ·exact ⟨Nat.zero_le _, fun i2 hi => by omega⟩
  ·exact ⟨rfl, trivial⟩
  ·exact (Some'.weak (.take (.take (.take (.nil _)))))
  ·rintro i fr hinv
   show Run _ _ (over _ _ [(33, .int .i64 (((i : Nat) : Int)))] fr) [.blk b2 59 [sv (d.nm), .int .i64 (d.n), .slice Ag (d.gs.length) cg], .blk b1 95 [sv w0, .int .i64 k, sv nm, .int .i64 num, .slice A m c], .blk r 91 [vl, .int .i64 a1, vd, .int .i64 c1, .int .i64 l1]]
   try dsimp only at hinv
   refine Run.sr ?_
   refine Run.p (.bool (decide ((((i : Nat) : Int)) < (((m : Nat) : Int))))) rfl rfl ?_
   refine Run.done ?_
   refine Run.seq ?_
   refine Run.cond (b := decide ((((i : Nat) : Int)) < (((m : Nat) : Int)))) rfl (fun h34 => ?_) (fun h34 => ?_)
   ·have p34 := h34; try simp only [bs] at p34
    have hlti : i < m := by omega
    obtain ⟨b, o, rfl⟩ := hq.sl.opn (by omega)
    refine Run.skip ?_
    refine Run.seq ?_
    refine Run.block ?_
    refine Run.sr ?_
    refine Run.p (.int .i64 (((i : Nat) : Int))) rfl rfl ?_
    refine Run.y (.pointer (some ⟨b, o + i, none⟩)) rfl (OpY.index (kk := i) Tsl_75 rfl rfl (by omega) (by omega) (by first | rfl | omega)) ?_
    refine Run.y (.int .i64 (ix q (i))) rfl (OpY.load1 Tone_3 rfl (Cells.ap (k := i) hq rfl (by omega) (pre1 (by omega)))) ?_
    refine Run.p (.int .i64 (((i : Nat) : Int))) rfl rfl ?_
    refine Run.p (.int .i64 (ix q (i))) rfl rfl ?_
    refine Run.dsr ?_
    refine Run.p (.int .i64 (ix q (i))) rfl rfl ?_
    refine Run.p (.int .i64 n) rfl rfl ?_
    refine Run.p (.bool (decide ((ix q (i)) ≥ n))) rfl rfl ?_
    rcases Bool.eq_false_or_eq_true (decide ((ix q (i)) ≥ n)) with h41 | h41
    ·refine Run.q (v := .bool true) rfl (OpQ.y (OpY.moveB rfl h41)) ?_
     have p41 := h41; try simp only [bs] at p41
     refine Run.pass rfl ?_
     refine Run.pass rfl ?_
     refine Run.pass rfl ?_
     refine Run.pass rfl ?_
     refine Run.pass rfl ?_
     refine Run.pass rfl ?_
     refine Run.p (.bool true) rfl rfl ?_
     refine Run.p (.bool true) rfl rfl ?_
     refine Run.pass rfl ?_
     refine Run.pass rfl ?_
     refine Run.pass rfl ?_
     refine Run.pass rfl ?_
     refine Run.pass rfl ?_
     refine Run.pass rfl ?_
     refine Run.p (.bool true) rfl rfl ?_
     refine Run.done ?_
     refine Run.cond (b := true) rfl (fun _ => ?_) (fun h => nomatch h)
     refine Run.seq ?_
     have hbad : anyI (badC n d.n q) q.length = true := anyI_true (i := i) (by omega) (by unfold badC; simp_all)
     have hP : callP n (D.map (·.1)) known nm q a1 (c1, l1) = ([], tellP 5 (a1 + 1) (c1, l1)) := by rw [callP, ← fdI_J, hj, if_neg (by omega), Int.toNat_natCast, ← dx_df, hdj, if_pos hbad]
     refine Run.region ?_
     refine Run.p (.pointer (some ⟨r, 0, none⟩)) rfl rfl ?_
     refine Run.p (.pointer (some ⟨r, 0, none⟩)) rfl rfl ?_
     refine Run.y (.pointer (some ⟨r, 0, none⟩)) rfl (OpY.nilCheck rfl) ?_
     refine Run.y (.pointer (some ⟨r, 1, none⟩)) rfl (OpY.fieldAddr Tfo_91_1 rfl rfl) ?_
     refine Run.y (.int .i64 a1) rfl (OpY.load1 Tone_3 rfl (Cells.blk (.tail _ (.tail _ (List.Mem.head _))) ⟨rfl, trivial⟩)) ?_
     refine Run.y (.int .i64 (a1 + 1)) rfl (OpY.add rfl rfl rfl (by omega) (by omega)) ?_
     refine Run.step rfl (OpStep.callM (H1 := [.blk r 91 [vl, .int .i64 a1, vd, .int .i64 c1, .int .i64 l1]]) (H2 := [.blk b2 59 [sv (d.nm), .int .i64 (d.n), .slice Ag (d.gs.length) cg], .blk b1 95 [sv w0, .int .i64 k, sv nm, .int .i64 num, .slice (some ⟨b, o, none⟩) m c]]) (vs := [.pointer (some ⟨r, 0, none⟩), .int .i64 5, .int .i64 (a1 + 1)]) (caps := []) Tcall_59 rfl rfl (Weak.selF [2]) (fun w hs => tell_spec (hs.holds _ (.head _))) ?_)
     rintro _ _ ⟨rfl, rfl⟩
     show Run _ _ (putF _ _ _ (.tuple #[])) [.blk r 91 [vl, .int .i64 a1, vd, .int .i64 ((tellP 5 (a1 + 1) (c1, l1)).1), .int .i64 ((tellP 5 (a1 + 1) (c1, l1)).2)], .blk b2 59 [sv (d.nm), .int .i64 (d.n), .slice Ag (d.gs.length) cg], .blk b1 95 [sv w0, .int .i64 k, sv nm, .int .i64 num, .slice (some ⟨b, o, none⟩) m c]]
     refine Run.dsr ?_
     refine Run.p (.slice none 0 0) rfl rfl ?_
     refine Run.done ?_
     refine Run.ret ?_
     refine ⟨.slice none 0 0, [.own (.slice none 0 0) 69 3 ((callP n (D.map (·.1)) known nm q a1 (c1, l1)).1.length) (ints (fl (callP n (D.map (·.1)) known nm q a1 (c1, l1)).1)), .blk r 91 [vl, .int .i64 a1, vd, .int .i64 ((callP n (D.map (·.1)) known nm q a1 (c1, l1)).2.1), .int .i64 ((callP n (D.map (·.1)) known nm q a1 (c1, l1)).2.2)]], Out.one rfl rfl, ((Weak.nilOwn 69 3).trans (Some'.weak (.takeEq (by first | (rw [hP]; done) | (rw [hP]; rfl) | (rw [hP]; simp)) (.takeEq (by first | (rw [hP]; done) | (rw [hP]; rfl) | (rw [hP]; simp)) (.nil _))))), ?_⟩
     rfl
    ·refine Run.q (v := .bool false) rfl (OpQ.y (OpY.moveB rfl h41)) ?_
     have p41 := h41; try simp only [bs] at p41
     refine Run.y (.pointer (some ⟨b1, 4, none⟩)) rfl (OpY.fieldAddr Tfo_95_4 rfl rfl) ?_
     refine Run.y (.slice (some ⟨b, o, none⟩) m c) rfl (OpY.load1 Tone_75 rfl (Cells.blk (.tail _ (List.Mem.head _)) ⟨rfl, trivial⟩)) ?_
     refine Run.p (.int .i64 (((i : Nat) : Int))) rfl rfl ?_
     refine Run.y (.slice (some ⟨b, o, none⟩) i c) rfl (OpY.sliceHN (h := i) Tsl_75 rfl rfl rfl (by omega)) ?_
     refine Run.p (.int .i64 (ix q (i))) rfl rfl ?_
     refine Run.q (v := .bool (hasI q (ix q i) i)) rfl (OpQ.call (vs := [.slice (some ⟨b, o, none⟩) i c, .int .i64 (ix q (i))]) (caps := []) Tcall_121 rfl rfl (fun w hs => (by have h := ContainsInt_spec (x := ix q i) ((hq.go hs).take (show i ≤ m by omega)); rw [hasI_take] at h; exact h))) ?_
     refine Run.p (.bool (hasI q (ix q i) i)) rfl rfl ?_
     rcases Bool.eq_false_or_eq_true (hasI q (ix q i) i) with h49 | h49
     ·refine Run.q (v := .bool true) rfl (OpQ.y (OpY.moveB rfl h49)) ?_
      have p49 := h49; try simp only [bs] at p49
      refine Run.pass rfl ?_
      refine Run.pass rfl ?_
      refine Run.pass rfl ?_
      refine Run.pass rfl ?_
      refine Run.pass rfl ?_
      refine Run.pass rfl ?_
      refine Run.p (.bool true) rfl rfl ?_
      refine Run.done ?_
      refine Run.cond (b := true) rfl (fun _ => ?_) (fun h => nomatch h)
      refine Run.seq ?_
      have hbad : anyI (badC n d.n q) q.length = true := anyI_true (i := i) (by omega) (by unfold badC; simp_all)
      have hP : callP n (D.map (·.1)) known nm q a1 (c1, l1) = ([], tellP 5 (a1 + 1) (c1, l1)) := by rw [callP, ← fdI_J, hj, if_neg (by omega), Int.toNat_natCast, ← dx_df, hdj, if_pos hbad]
      refine Run.region ?_
      refine Run.p (.pointer (some ⟨r, 0, none⟩)) rfl rfl ?_
      refine Run.p (.pointer (some ⟨r, 0, none⟩)) rfl rfl ?_
      refine Run.y (.pointer (some ⟨r, 0, none⟩)) rfl (OpY.nilCheck rfl) ?_
      refine Run.y (.pointer (some ⟨r, 1, none⟩)) rfl (OpY.fieldAddr Tfo_91_1 rfl rfl) ?_
      refine Run.y (.int .i64 a1) rfl (OpY.load1 Tone_3 rfl (Cells.blk (.tail _ (.tail _ (List.Mem.head _))) ⟨rfl, trivial⟩)) ?_
      refine Run.y (.int .i64 (a1 + 1)) rfl (OpY.add rfl rfl rfl (by omega) (by omega)) ?_
      refine Run.step rfl (OpStep.callM (H1 := [.blk r 91 [vl, .int .i64 a1, vd, .int .i64 c1, .int .i64 l1]]) (H2 := [.blk b2 59 [sv (d.nm), .int .i64 (d.n), .slice Ag (d.gs.length) cg], .blk b1 95 [sv w0, .int .i64 k, sv nm, .int .i64 num, .slice (some ⟨b, o, none⟩) m c]]) (vs := [.pointer (some ⟨r, 0, none⟩), .int .i64 5, .int .i64 (a1 + 1)]) (caps := []) Tcall_59 rfl rfl (Weak.selF [2]) (fun w hs => tell_spec (hs.holds _ (.head _))) ?_)
      rintro _ _ ⟨rfl, rfl⟩
      show Run _ _ (putF _ _ _ (.tuple #[])) [.blk r 91 [vl, .int .i64 a1, vd, .int .i64 ((tellP 5 (a1 + 1) (c1, l1)).1), .int .i64 ((tellP 5 (a1 + 1) (c1, l1)).2)], .blk b2 59 [sv (d.nm), .int .i64 (d.n), .slice Ag (d.gs.length) cg], .blk b1 95 [sv w0, .int .i64 k, sv nm, .int .i64 num, .slice (some ⟨b, o, none⟩) m c]]
      refine Run.dsr ?_
      refine Run.p (.slice none 0 0) rfl rfl ?_
      refine Run.done ?_
      refine Run.ret ?_
      refine ⟨.slice none 0 0, [.own (.slice none 0 0) 69 3 ((callP n (D.map (·.1)) known nm q a1 (c1, l1)).1.length) (ints (fl (callP n (D.map (·.1)) known nm q a1 (c1, l1)).1)), .blk r 91 [vl, .int .i64 a1, vd, .int .i64 ((callP n (D.map (·.1)) known nm q a1 (c1, l1)).2.1), .int .i64 ((callP n (D.map (·.1)) known nm q a1 (c1, l1)).2.2)]], Out.one rfl rfl, ((Weak.nilOwn 69 3).trans (Some'.weak (.takeEq (by first | (rw [hP]; done) | (rw [hP]; rfl) | (rw [hP]; simp)) (.takeEq (by first | (rw [hP]; done) | (rw [hP]; rfl) | (rw [hP]; simp)) (.nil _))))), ?_⟩
      rfl
     ·refine Run.q (v := .bool false) rfl (OpQ.y (OpY.moveB rfl h49)) ?_
      have p49 := h49; try simp only [bs] at p49
      refine Run.y (.pointer (some ⟨b1, 4, none⟩)) rfl (OpY.fieldAddr Tfo_95_4 rfl rfl) ?_
      refine Run.y (.slice (some ⟨b, o, none⟩) m c) rfl (OpY.load1 Tone_75 rfl (Cells.blk (.tail _ (List.Mem.head _)) ⟨rfl, trivial⟩)) ?_
      refine Run.y (.int .i64 (((m : Nat) : Int))) rfl (OpY.len Tsl_75 rfl) ?_
      refine Run.y (.pointer (some ⟨b2, 1, none⟩)) rfl (OpY.fieldAddr Tfo_59_1 rfl rfl) ?_
      refine Run.y (.int .i64 (d.n)) rfl (OpY.load1 Tone_3 rfl (Cells.blk (.head _) ⟨rfl, trivial⟩)) ?_
      refine Run.p (.bool ((((m : Nat) : Int)) != (d.n))) rfl rfl ?_
      refine Run.p (.bool ((((m : Nat) : Int)) != (d.n))) rfl rfl ?_
      refine Run.done ?_
      refine Run.cond (b := (((m : Nat) : Int)) != (d.n)) rfl (fun h56 => ?_) (fun h56 => ?_)
      ·have p56 := h56; try simp only [bs] at p56
       refine Run.seq ?_
       have hbad : anyI (badC n d.n q) q.length = true := anyI_true (i := i) (by omega) (by unfold badC; simp_all)
       have hP : callP n (D.map (·.1)) known nm q a1 (c1, l1) = ([], tellP 5 (a1 + 1) (c1, l1)) := by rw [callP, ← fdI_J, hj, if_neg (by omega), Int.toNat_natCast, ← dx_df, hdj, if_pos hbad]
       refine Run.region ?_
       refine Run.p (.pointer (some ⟨r, 0, none⟩)) rfl rfl ?_
       refine Run.p (.pointer (some ⟨r, 0, none⟩)) rfl rfl ?_
       refine Run.y (.pointer (some ⟨r, 0, none⟩)) rfl (OpY.nilCheck rfl) ?_
       refine Run.y (.pointer (some ⟨r, 1, none⟩)) rfl (OpY.fieldAddr Tfo_91_1 rfl rfl) ?_
       refine Run.y (.int .i64 a1) rfl (OpY.load1 Tone_3 rfl (Cells.blk (.tail _ (.tail _ (List.Mem.head _))) ⟨rfl, trivial⟩)) ?_
       refine Run.y (.int .i64 (a1 + 1)) rfl (OpY.add rfl rfl rfl (by omega) (by omega)) ?_
       refine Run.step rfl (OpStep.callM (H1 := [.blk r 91 [vl, .int .i64 a1, vd, .int .i64 c1, .int .i64 l1]]) (H2 := [.blk b2 59 [sv (d.nm), .int .i64 (d.n), .slice Ag (d.gs.length) cg], .blk b1 95 [sv w0, .int .i64 k, sv nm, .int .i64 num, .slice (some ⟨b, o, none⟩) m c]]) (vs := [.pointer (some ⟨r, 0, none⟩), .int .i64 5, .int .i64 (a1 + 1)]) (caps := []) Tcall_59 rfl rfl (Weak.selF [2]) (fun w hs => tell_spec (hs.holds _ (.head _))) ?_)
       rintro _ _ ⟨rfl, rfl⟩
       show Run _ _ (putF _ _ _ (.tuple #[])) [.blk r 91 [vl, .int .i64 a1, vd, .int .i64 ((tellP 5 (a1 + 1) (c1, l1)).1), .int .i64 ((tellP 5 (a1 + 1) (c1, l1)).2)], .blk b2 59 [sv (d.nm), .int .i64 (d.n), .slice Ag (d.gs.length) cg], .blk b1 95 [sv w0, .int .i64 k, sv nm, .int .i64 num, .slice (some ⟨b, o, none⟩) m c]]
       refine Run.dsr ?_
       refine Run.p (.slice none 0 0) rfl rfl ?_
       refine Run.done ?_
       refine Run.ret ?_
       refine ⟨.slice none 0 0, [.own (.slice none 0 0) 69 3 ((callP n (D.map (·.1)) known nm q a1 (c1, l1)).1.length) (ints (fl (callP n (D.map (·.1)) known nm q a1 (c1, l1)).1)), .blk r 91 [vl, .int .i64 a1, vd, .int .i64 ((callP n (D.map (·.1)) known nm q a1 (c1, l1)).2.1), .int .i64 ((callP n (D.map (·.1)) known nm q a1 (c1, l1)).2.2)]], Out.one rfl rfl, ((Weak.nilOwn 69 3).trans (Some'.weak (.takeEq (by first | (rw [hP]; done) | (rw [hP]; rfl) | (rw [hP]; simp)) (.takeEq (by first | (rw [hP]; done) | (rw [hP]; rfl) | (rw [hP]; simp)) (.nil _))))), ?_⟩
       rfl
      ·have p56 := h56; try simp only [bs] at p56
       refine Run.skip ?_
       refine Run.blockEnd ?_
       have hgood : badC n d.n q i = false := by unfold badC; simp_all
       refine Run.region ?_
       refine Run.y (.int .i64 ((((i : Nat) : Int)) + 1)) rfl (OpY.add rfl rfl rfl (by omega) (by omega)) ?_
       refine Run.p (.int .i64 ((((i : Nat) : Int)) + 1)) rfl rfl ?_
       refine Run.done ?_
       refine Run.goal ⟨(by repeat (first | exact Same.refl _ _ | refine Same.put rfl ?_ | refine Same.over rfl rfl ?_)), i + 1, ?_, ?_, ?_, ?_⟩
       ·refine ⟨by omega, ?_⟩
        intro i2 hi
        rcases Nat.lt_succ_iff_lt_or_eq.1 hi with h | h
        ·exact hinv.2 i2 h
        ·rw [h]; exact hgood
       ·omega
       ·exact ⟨(by first | rfl | (congr 1; omega) | simp), trivial⟩
       ·exact (Some'.weak (.take (.takeEq (by first | rfl | simp) (.take (.nil _)))))
   ·have p34 := h34; try simp only [bs] at p34
    have him : i = m := by omega
    have hall : anyI (badC n d.n q) q.length = false := anyI_false fun i2 hi => hinv.2 i2 (by omega)
    have hP : callP n (D.map (·.1)) known nm q a1 (c1, l1) = (d.gs.map (mapG q), (c1, l1)) := by rw [callP, ← fdI_J, hj, if_neg (by omega), Int.toNat_natCast, ← dx_df, hdj, if_neg (by rw [hall]; decide)]
    have hmn : d.n = ((m : Nat) : Int) := by
     have h0 := hinv.2 0 (by omega)
     simp only [badC, Bool.or_eq_false_iff, Bool.not_eq_false', decide_eq_true_eq] at h0
     omega
    have hmo : MapOk m d.gs := mapOk_of (n := d.n) (by have := hval j (by simp; omega); rw [← dx_df, hdj] at this; exact this) hmn
    refine Run.exit rfl ?_
    refine Run.sr ?_
    refine Run.y (.pointer (some ⟨b2, 2, none⟩)) rfl (OpY.fieldAddr Tfo_59_2 rfl rfl) ?_
    refine Run.y (.slice Ag (d.gs.length) cg) rfl (OpY.load1 Tone_22 rfl (Cells.blk (.head _) ⟨rfl, trivial⟩)) ?_
    refine Run.y (.pointer (some ⟨b1, 4, none⟩)) rfl (OpY.fieldAddr Tfo_95_4 rfl rfl) ?_
    refine Run.y (.slice A m c) rfl (OpY.load1 Tone_75 rfl (Cells.blk (.tail _ (List.Mem.head _)) ⟨rfl, trivial⟩)) ?_
    refine Run.step rfl (OpStep.call (vs := [.slice Ag (d.gs.length) cg, .slice A m c]) (caps := []) Tcall_122 rfl rfl (fun w hs => mapped_spec (L := d.gs) (by rw [hgv]; have h := (hD.go hs) j (by omega); rw [hdj] at h; exact h) (hq.go hs) hmo (by have h := hD16 j (by omega); rw [hdj] at h; exact h)) ?_)
    rintro v1 _ rfl
    show Run _ _ (putF _ _ _ v1) [.own v1 69 3 (d.gs.length) (ints (fl (d.gs.map (mapG q)))), .blk b2 59 [sv (d.nm), .int .i64 (d.n), .slice Ag (d.gs.length) cg], .blk b1 95 [sv w0, .int .i64 k, sv nm, .int .i64 num, .slice A m c], .blk r 91 [vl, .int .i64 a1, vd, .int .i64 c1, .int .i64 l1]]
    refine Run.p (v1) rfl rfl ?_
    refine Run.done ?_
    refine Run.ret ?_
    refine ⟨v1, [.own v1 69 3 ((callP n (D.map (·.1)) known nm q a1 (c1, l1)).1.length) (ints (fl (callP n (D.map (·.1)) known nm q a1 (c1, l1)).1)), .blk r 91 [vl, .int .i64 a1, vd, .int .i64 ((callP n (D.map (·.1)) known nm q a1 (c1, l1)).2.1), .int .i64 ((callP n (D.map (·.1)) known nm q a1 (c1, l1)).2.2)]], Out.one rfl rfl, (Some'.weak (.takeEq (by first | (rw [hP]; done) | (rw [hP]; rfl) | (rw [hP]; simp)) (.skip (.skip (.takeEq (by first | (rw [hP]; done) | (rw [hP]; rfl) | (rw [hP]; simp)) (.nil _)))))), ?_⟩
    rfl

end Go.Proofs.YtgpkpopbajkklaaGreatDoor
