/- Walks: the program reads gates and calls of a circuit text. -/
import Derived.Test.YtgpkpopbajkklaaGreatDoorV5
import Derived.Test.YtgpkpopbajkklaaGreatDoorProg
set_option linter.unusedSimpArgs false
set_option linter.unusedVariables false
namespace Go.Proofs.YtgpkpopbajkklaaGreatDoor
open Go Go.RowKit
namespace TxjT
theorem Tagg_69 : aggOf Tryz.prog 69 = some 3 := by kernel_rfl
theorem Tcall_121 : callable Tryz.prog 121 = true := by kernel_rfl
theorem Tcall_122 : callable Tryz.prog 122 = true := by kernel_rfl
theorem Tcall_59 : callable Tryz.prog 59 = true := by kernel_rfl
theorem Tcall_65 : callable Tryz.prog 65 = true := by kernel_rfl
theorem Tcall_90 : callable Tryz.prog 90 = true := by kernel_rfl
theorem Tfo_59_1 : fieldOff Tryz.prog 59 1 = some 1 := by kernel_rfl
theorem Tfo_59_2 : fieldOff Tryz.prog 59 2 = some 2 := by kernel_rfl
theorem Tfo_69_1 : fieldOff Tryz.prog 69 1 = some 1 := by kernel_rfl
theorem Tfo_69_2 : fieldOff Tryz.prog 69 2 = some 2 := by kernel_rfl
theorem Tfo_91_1 : fieldOff Tryz.prog 91 1 = some 1 := by kernel_rfl
theorem Tfo_95_1 : fieldOff Tryz.prog 95 1 = some 1 := by kernel_rfl
theorem Tfo_95_2 : fieldOff Tryz.prog 95 2 = some 2 := by kernel_rfl
theorem Tfo_95_4 : fieldOff Tryz.prog 95 4 = some 4 := by kernel_rfl
theorem Tone_22 : oneOf Tryz.prog 22 = true := by kernel_rfl
theorem Tone_3 : oneOf Tryz.prog 3 = true := by kernel_rfl
theorem Tone_75 : oneOf Tryz.prog 75 = true := by kernel_rfl
theorem Tone_9 : oneOf Tryz.prog 9 = true := by kernel_rfl
theorem Tsize_3 : (Tryz.prog.info? 3).map (·.size) = some 1 := by kernel_rfl
theorem Tsize_59 : (Tryz.prog.info? 59).map (·.size) = some 3 := by kernel_rfl
theorem Tsize_69 : (Tryz.prog.info? 69).map (·.size) = some 3 := by kernel_rfl
theorem Tsl_22 : sliceOf Tryz.prog 22 = some (69, 3, 24, [.int .i64 0, .int .i64 0, .int .i64 0]) := by kernel_rfl
theorem Tsl_75 : sliceOf Tryz.prog 75 = some (3, 1, 8, [.int .i64 0]) := by kernel_rfl
theorem Tzero_59 : zeroOf Tryz.prog 59 = some [sv ([]), .int .i64 0, .slice none 0 0] := by kernel_rfl
theorem Tzero_69 : zeroOf Tryz.prog 69 = some [.int .i64 0, .int .i64 0, .int .i64 0] := by kernel_rfl
end TxjT
open TxjT
/-- The gate of a line. -/
def gateG (k : Int) (q : List Int) : G3 := (k, if 0 < q.length then ix q 0 else 0, if 1 < q.length then ix q 1 else 0)
def gateP (n k : Int) (q : List Int) (a : Int) (p : Int × Int) : List G3 × (Int × Int) := if gateOk n (gateG k q).1 (gateG k q).2.1 (gateG k q).2.2 then ([gateG k q], p) else ([], tellP 5 (a + 1) p)
def dfx (D : List Df) (k : Nat) : Df := D.getD k ⟨[], 0, []⟩
theorem dx_df (D : List DV) (k : Nat) : (dx D k).1 = dfx (D.map (·.1)) k := by
  simp only [dx, dfx, List.getD, List.getElem?_map]
  cases D[k]? <;> rfl
def fdJ (D : List Df) (known : Nat) (nm : Bs) : Int := findI (fun i => (dfx D i).nm == nm) known
theorem fdI_J (D : List DV) (known : Nat) (nm : Bs) : fdI D known nm = fdJ (D.map (·.1)) known nm := by
  unfold fdI fdJ; congr 1; funext i; rw [dx_df]
/-- A call's qubit that is out of range, was there before, or (any of them) when there are not as many as the definition has. -/
def badC (n m : Int) (q : List Int) (i : Nat) : Bool := decide (n ≤ ix q i) || (hasI q (ix q i) i || !decide (((q.length : Nat) : Int) = m))
def callP (n : Int) (D : List Df) (known : Nat) (nm : Bs) (q : List Int) (a : Int) (p : Int × Int) : List G3 × (Int × Int) :=
  if fdJ D known nm < 0 then ([], tellP 4 (a + 1) p)
  else if anyI (badC n (dfx D (fdJ D known nm).toNat).n q) q.length then ([], tellP 5 (a + 1) p)
  else ((dfx D (fdJ D known nm).toNat).gs.map (mapG q), p)
def DAp (H0 : List Res) (w : World) (D : List DV) : Prop := ∀ k, k < D.length → Ap H0 w (dx D k).2 3 (dx D k).1.gs.length (ints (fl (dx D k).1.gs))
theorem DAp.go {H0 H : List Res} {w0 w : World} {D : List DV} (h : DAp H0 w0 D) (hs : St (Of H0) w0 w H) : DQ w D := fun k hk => (h k hk).go hs
/-- Every definition's gates are valid on its qubits. -/
def DVal (D : List Df) : Prop := ∀ k, k < D.length → ∀ g ∈ (dfx D k).gs, gateOk (dfx D k).n g.1 g.2.1 g.2.2 = true
theorem mapOk_of {n : Int} {m : Nat} {L : List G3} (h : ∀ g ∈ L, gateOk n g.1 g.2.1 g.2.2 = true) (hn : n = (m : Int)) : MapOk m L := by
  intro g hg
  have h1 := gateOk_split (h g hg)
  subst hn
  constructor
  · intro h2; rcases h1 with h1 | h1 | h1 <;> omega
  · intro h2; rcases h1 with h1 | h1 | h1 <;> omega
theorem fdJ_lt {D : List Df} {known : Nat} {nm : Bs} : fdJ D known nm < (known : Int) := (findI_lt).2

set_option maxHeartbeats 4000000 in
set_option maxRecDepth 20000 in
theorem tgate_spec {r : Nat} {vl vd vq : Value} {a1 c1 l1 n k num : Int} {m : Nat} {w0 nm : Bs} {q : List Int} {w : World} (hn : 1 ≤ n ∧ n ≤ 5) (ha : 0 ≤ a1 ∧ a1 ≤ 16777216) (hq : Ap [.blk r 91 [vl, .int .i64 a1, vd, .int .i64 c1, .int .i64 l1]] w vq 1 m (ints q)) (h : (Res.blk r 91 [vl, .int .i64 a1, vd, .int .i64 c1, .int .i64 l1]).holds w) : Calls Tryz.prog 108 #[.pointer (some ⟨r, 0, none⟩), .agg #[sv w0, .int .i64 k, sv nm, .int .i64 num, vq], .int .i64 n] w (Post (Of [.blk r 91 [vl, .int .i64 a1, vd, .int .i64 c1, .int .i64 l1]]) w fun v H => H = [.own v 69 3 (gateP n k q a1 (c1, l1)).1.length (ints (fl (gateP n k q a1 (c1, l1)).1)), .blk r 91 [vl, .int .i64 a1, vd, .int .i64 (gateP n k q a1 (c1, l1)).2.1, .int .i64 (gateP n k q a1 (c1, l1)).2.2]]) := by
 have hqm := hq.sl.len
 obtain ⟨A, c, rfl, _, _⟩ := hq.sl.form0
 refine enter (n := 42) (args := [.pointer (some ⟨r, 0, none⟩), .agg #[sv w0, .int .i64 k, sv nm, .int .i64 num, .slice A m c], .int .i64 n]) Tryz.func108 rfl rfl (St.start1 h) ?_
 refine .sr ?_
 refine .step rfl (.box (us := [sv w0, .int .i64 k, sv nm, .int .i64 num, .slice A m c]) rfl fun b1 => ?_)
 refine .m ?_
 refine .dsr ?_
 refine .fa Tfo_95_1 ?_
 refine .u (.int .i64 k) (.load1 Tone_3 rfl (.b (.head _))) ?_
 refine .u (.agg #[.int .i64 k, .int .i64 0, .int .i64 0]) (.build (cs := [.int .i64 k, .int .i64 0, .int .i64 0]) (by kernel_rfl)) ?_
 refine .step rfl (.alloc (zs := [.int .i64 0, .int .i64 0, .int .i64 0]) Tzero_69 fun b2 => ?_)
 refine .step rfl (.storeAll (us := [.int .i64 k, .int .i64 0, .int .i64 0]) Tsize_69 rfl rfl rfl (.here _) rfl ?_)
 refine .done ?_
 refine .seq ?_
 refine .sr ?_
 refine .fa Tfo_95_4 ?_
 refine .u (.slice A m c) (.load1 Tone_75 rfl (.b (.tail _ (.head _)))) ?_
 refine .u (.int .i64 (((m : Nat) : Int))) (.len Tsl_75 rfl) ?_
 refine .w (.bool (decide ((((m : Nat) : Int)) > 0))) ?_
 refine .done ?_
 refine .cond (b := decide ((((m : Nat) : Int)) > 0)) rfl (fun h14 => ?_) (fun h14 => ?_)
 ·have p14 := h14; try simp only [bs] at p14
  obtain ⟨b, o, rfl⟩ := hq.sl.opn (by omega)
  refine .region ?_
  refine .fa Tfo_95_4 ?_
  refine .u (.slice (some ⟨b, o, none⟩) m c) (.load1 Tone_75 rfl (.b (.tail _ (.head _)))) ?_
  refine .u (.pointer (some ⟨b, o, none⟩)) (.ix 0 Tsl_75) ?_
  refine .u (.int .i64 (ix q (0))) (.load1 Tone_3 rfl (Cells.ap (k := 0) hq rfl (by omega) (pre1 (by omega)))) ?_
  refine .fa Tfo_69_1 ?_
  refine .step rfl (.store (us := [.int .i64 (ix q (0))]) Tsize_3 rfl rfl rfl (.here _) (by simp only [List.length_cons, List.length_nil]; omega) ?_)
  show Run _ _ _ [.blk b2 69 [.int .i64 k, .int .i64 (ix q (0)), .int .i64 0], .blk b1 95 [sv w0, .int .i64 k, sv nm, .int .i64 num, .slice (some ⟨b, o, none⟩) m c], .blk r 91 [vl, .int .i64 a1, vd, .int .i64 c1, .int .i64 l1]]
  refine .done ?_
  refine .seq ?_
  refine .sr ?_
  refine .fa Tfo_95_4 ?_
  refine .u (.slice (some ⟨b, o, none⟩) m c) (.load1 Tone_75 rfl (.b (.tail _ (.head _)))) ?_
  refine .u (.int .i64 (((m : Nat) : Int))) (.len Tsl_75 rfl) ?_
  refine .w (.bool (decide ((((m : Nat) : Int)) > 1))) ?_
  refine .done ?_
  refine .cond (b := decide ((((m : Nat) : Int)) > 1)) rfl (fun h23 => ?_) (fun h23 => ?_)
  ·have p23 := h23; try simp only [bs] at p23
   refine .region ?_
   refine .fa Tfo_95_4 ?_
   refine .u (.slice (some ⟨b, o, none⟩) m c) (.load1 Tone_75 rfl (.b (.tail _ (.head _)))) ?_
   refine .u (.pointer (some ⟨b, o + 1, none⟩)) (.ix 1 Tsl_75) ?_
   refine .u (.int .i64 (ix q (1))) (.load1 Tone_3 rfl (Cells.ap (k := 1) hq rfl (by omega) (pre1 (by omega)))) ?_
   refine .fa Tfo_69_2 ?_
   refine .step rfl (.store (us := [.int .i64 (ix q (1))]) Tsize_3 rfl rfl rfl (.here _) (by simp only [List.length_cons, List.length_nil]; omega) ?_)
   show Run _ _ _ [.blk b2 69 [.int .i64 k, .int .i64 (ix q (0)), .int .i64 (ix q (1))], .blk b1 95 [sv w0, .int .i64 k, sv nm, .int .i64 num, .slice (some ⟨b, o, none⟩) m c], .blk r 91 [vl, .int .i64 a1, vd, .int .i64 c1, .int .i64 l1]]
   refine .done ?_
   refine .seq ?_
   refine .seq ?_
   have hG : gateG k q = (k, ix q (0), ix q (1)) := by unfold gateG; first | (rw [if_pos (by omega), if_pos (by omega)]; done) | (rw [if_pos (by omega), if_neg (by omega)]; done) | (rw [if_neg (by omega), if_neg (by omega)]; done) | (exfalso; omega)
   refine .region ?_
   refine .m ?_
   refine .u (.agg #[.int .i64 k, .int .i64 (ix q (0)), .int .i64 (ix q (1))]) (.loadN (cs := [.int .i64 k, .int .i64 (ix q (0)), .int .i64 (ix q (1))]) Tagg_69 rfl (Cells.blk (.head _) ⟨rfl, rfl, rfl, trivial⟩)) ?_
   refine .c (.bool (gateOk n k (ix q (0)) (ix q (1)))) [.int .i64 n, .agg #[.int .i64 k, .int .i64 (ix q (0)), .int .i64 (ix q (1))]] Tcall_65 (fun w hs => IsValidGate_spec hn w) ?_
   refine .w (.bool (!(gateOk n k (ix q (0)) (ix q (1))))) ?_
   refine .done ?_
   refine .cond (b := !(gateOk n k (ix q (0)) (ix q (1)))) rfl (fun h32 => ?_) (fun h32 => ?_)
   ·have p32 := h32; try simp only [bs] at p32
    have hP : gateP n k q a1 (c1, l1) = ([], tellP 5 (a1 + 1) (c1, l1)) := by rw [gateP, hG, if_neg (by rw [p32]; decide)]
    refine .sr ?_
    iterate 2 refine .m ?_
    refine .u (.pointer (some ⟨r, 0, none⟩)) (.nilCheck rfl) ?_
    refine .fa Tfo_91_1 ?_
    refine .u (.int .i64 a1) (.load1 Tone_3 rfl (.b (.tail _ (.tail _ (.head _))))) ?_
    refine .u (.int .i64 (a1 + 1)) (.add rfl rfl rfl (by omega) (by omega)) ?_
    refine .step rfl (.callM (H1 := [.blk r 91 [vl, .int .i64 a1, vd, .int .i64 c1, .int .i64 l1]]) (H2 := [.blk b2 69 [.int .i64 k, .int .i64 (ix q (0)), .int .i64 (ix q (1))], .blk b1 95 [sv w0, .int .i64 k, sv nm, .int .i64 num, .slice (some ⟨b, o, none⟩) m c]]) (vs := [.pointer (some ⟨r, 0, none⟩), .int .i64 5, .int .i64 (a1 + 1)]) (caps := []) Tcall_59 rfl rfl (Weak.selF [2]) (fun w hs => tell_spec (hs.holds _ (.head _))) ?_)
    rintro _ _ ⟨rfl, rfl⟩
    show Run _ _ (putF _ _ _ (.tuple #[])) [.blk r 91 [vl, .int .i64 a1, vd, .int .i64 ((tellP 5 (a1 + 1) (c1, l1)).1), .int .i64 ((tellP 5 (a1 + 1) (c1, l1)).2)], .blk b2 69 [.int .i64 k, .int .i64 (ix q (0)), .int .i64 (ix q (1))], .blk b1 95 [sv w0, .int .i64 k, sv nm, .int .i64 num, .slice (some ⟨b, o, none⟩) m c]]
    refine .dsr ?_
    refine .m ?_
    refine .done ?_
    refine .ret ?_
    refine ⟨.slice none 0 0, [.own (.slice none 0 0) 69 3 ((gateP n k q a1 (c1, l1)).1.length) (ints (fl (gateP n k q a1 (c1, l1)).1)), .blk r 91 [vl, .int .i64 a1, vd, .int .i64 ((gateP n k q a1 (c1, l1)).2.1), .int .i64 ((gateP n k q a1 (c1, l1)).2.2)]], Out.one rfl rfl, ((Weak.nilOwn 69 3).trans (Some'.weak (.takeEq (by first | (rw [hP]; done) | (rw [hP]; rfl) | (rw [hP, hG, fl_one]; rfl) | (rw [hP, hG]; rfl)) (.takeEq (by first | (rw [hP]; done) | (rw [hP]; rfl) | (rw [hP, hG, fl_one]; rfl) | (rw [hP, hG]; rfl)) (.nil _))))), ?_⟩
    rfl
   have p32 := h32; try simp only [bs] at p32
   have hP : gateP n k q a1 (c1, l1) = ([gateG k q], (c1, l1)) := by rw [gateP, if_pos (by rw [hG]; exact p32)]
   refine .skip ?_
   refine .sr ?_
   refine .u (.agg #[.int .i64 k, .int .i64 (ix q (0)), .int .i64 (ix q (1))]) (.loadN (cs := [.int .i64 k, .int .i64 (ix q (0)), .int .i64 (ix q (1))]) Tagg_69 rfl (Cells.blk (.head _) ⟨rfl, rfl, rfl, trivial⟩)) ?_
   refine .step rfl (.buildSlice (us := [.int .i64 k, .int .i64 (ix q (0)), .int .i64 (ix q (1))]) Tsl_22 (by decide) (by decide) ⟨rfl, [.int .i64 k, .int .i64 (ix q (0)), .int .i64 (ix q (1))], _, rfl, rfl, rfl, rfl⟩ rfl fun b3 => ?_)
   refine .m ?_
   refine .done ?_
   refine .ret ?_
   refine ⟨.slice (some ⟨b3, 0, none⟩) 1 1, [.own (.slice (some ⟨b3, 0, none⟩) 1 1) 69 3 ((gateP n k q a1 (c1, l1)).1.length) (ints (fl (gateP n k q a1 (c1, l1)).1)), .blk r 91 [vl, .int .i64 a1, vd, .int .i64 ((gateP n k q a1 (c1, l1)).2.1), .int .i64 ((gateP n k q a1 (c1, l1)).2.2)]], Out.one rfl rfl, (Some'.weak (.takeEq (by first | (rw [hP]; done) | (rw [hP]; rfl) | (rw [hP, hG, fl_one]; rfl) | (rw [hP, hG]; rfl)) (.skip (.skip (.takeEq (by first | (rw [hP]; done) | (rw [hP]; rfl) | (rw [hP, hG, fl_one]; rfl) | (rw [hP, hG]; rfl)) (.nil _)))))), ?_⟩
   rfl
  have p23 := h23; try simp only [bs] at p23
  refine .skip ?_
  refine .seq ?_
  refine .seq ?_
  have hG : gateG k q = (k, ix q (0), 0) := by unfold gateG; first | (rw [if_pos (by omega), if_pos (by omega)]; done) | (rw [if_pos (by omega), if_neg (by omega)]; done) | (rw [if_neg (by omega), if_neg (by omega)]; done) | (exfalso; omega)
  refine .region ?_
  refine .m ?_
  refine .u (.agg #[.int .i64 k, .int .i64 (ix q (0)), .int .i64 0]) (.loadN (cs := [.int .i64 k, .int .i64 (ix q (0)), .int .i64 0]) Tagg_69 rfl (Cells.blk (.head _) ⟨rfl, rfl, rfl, trivial⟩)) ?_
  refine .c (.bool (gateOk n k (ix q (0)) 0)) [.int .i64 n, .agg #[.int .i64 k, .int .i64 (ix q (0)), .int .i64 0]] Tcall_65 (fun w hs => IsValidGate_spec hn w) ?_
  refine .w (.bool (!(gateOk n k (ix q (0)) 0))) ?_
  refine .done ?_
  refine .cond (b := !(gateOk n k (ix q (0)) 0)) rfl (fun h32 => ?_) (fun h32 => ?_)
  ·have p32 := h32; try simp only [bs] at p32
   have hP : gateP n k q a1 (c1, l1) = ([], tellP 5 (a1 + 1) (c1, l1)) := by rw [gateP, hG, if_neg (by rw [p32]; decide)]
   refine .sr ?_
   iterate 2 refine .m ?_
   refine .u (.pointer (some ⟨r, 0, none⟩)) (.nilCheck rfl) ?_
   refine .fa Tfo_91_1 ?_
   refine .u (.int .i64 a1) (.load1 Tone_3 rfl (.b (.tail _ (.tail _ (.head _))))) ?_
   refine .u (.int .i64 (a1 + 1)) (.add rfl rfl rfl (by omega) (by omega)) ?_
   refine .step rfl (.callM (H1 := [.blk r 91 [vl, .int .i64 a1, vd, .int .i64 c1, .int .i64 l1]]) (H2 := [.blk b2 69 [.int .i64 k, .int .i64 (ix q (0)), .int .i64 0], .blk b1 95 [sv w0, .int .i64 k, sv nm, .int .i64 num, .slice (some ⟨b, o, none⟩) m c]]) (vs := [.pointer (some ⟨r, 0, none⟩), .int .i64 5, .int .i64 (a1 + 1)]) (caps := []) Tcall_59 rfl rfl (Weak.selF [2]) (fun w hs => tell_spec (hs.holds _ (.head _))) ?_)
   rintro _ _ ⟨rfl, rfl⟩
   show Run _ _ (putF _ _ _ (.tuple #[])) [.blk r 91 [vl, .int .i64 a1, vd, .int .i64 ((tellP 5 (a1 + 1) (c1, l1)).1), .int .i64 ((tellP 5 (a1 + 1) (c1, l1)).2)], .blk b2 69 [.int .i64 k, .int .i64 (ix q (0)), .int .i64 0], .blk b1 95 [sv w0, .int .i64 k, sv nm, .int .i64 num, .slice (some ⟨b, o, none⟩) m c]]
   refine .dsr ?_
   refine .m ?_
   refine .done ?_
   refine .ret ?_
   refine ⟨.slice none 0 0, [.own (.slice none 0 0) 69 3 ((gateP n k q a1 (c1, l1)).1.length) (ints (fl (gateP n k q a1 (c1, l1)).1)), .blk r 91 [vl, .int .i64 a1, vd, .int .i64 ((gateP n k q a1 (c1, l1)).2.1), .int .i64 ((gateP n k q a1 (c1, l1)).2.2)]], Out.one rfl rfl, ((Weak.nilOwn 69 3).trans (Some'.weak (.takeEq (by first | (rw [hP]; done) | (rw [hP]; rfl) | (rw [hP, hG, fl_one]; rfl) | (rw [hP, hG]; rfl)) (.takeEq (by first | (rw [hP]; done) | (rw [hP]; rfl) | (rw [hP, hG, fl_one]; rfl) | (rw [hP, hG]; rfl)) (.nil _))))), ?_⟩
   rfl
  have p32 := h32; try simp only [bs] at p32
  have hP : gateP n k q a1 (c1, l1) = ([gateG k q], (c1, l1)) := by rw [gateP, if_pos (by rw [hG]; exact p32)]
  refine .skip ?_
  refine .sr ?_
  refine .u (.agg #[.int .i64 k, .int .i64 (ix q (0)), .int .i64 0]) (.loadN (cs := [.int .i64 k, .int .i64 (ix q (0)), .int .i64 0]) Tagg_69 rfl (Cells.blk (.head _) ⟨rfl, rfl, rfl, trivial⟩)) ?_
  refine .step rfl (.buildSlice (us := [.int .i64 k, .int .i64 (ix q (0)), .int .i64 0]) Tsl_22 (by decide) (by decide) ⟨rfl, [.int .i64 k, .int .i64 (ix q (0)), .int .i64 0], _, rfl, rfl, rfl, rfl⟩ rfl fun b4 => ?_)
  refine .m ?_
  refine .done ?_
  refine .ret ?_
  refine ⟨.slice (some ⟨b4, 0, none⟩) 1 1, [.own (.slice (some ⟨b4, 0, none⟩) 1 1) 69 3 ((gateP n k q a1 (c1, l1)).1.length) (ints (fl (gateP n k q a1 (c1, l1)).1)), .blk r 91 [vl, .int .i64 a1, vd, .int .i64 ((gateP n k q a1 (c1, l1)).2.1), .int .i64 ((gateP n k q a1 (c1, l1)).2.2)]], Out.one rfl rfl, (Some'.weak (.takeEq (by first | (rw [hP]; done) | (rw [hP]; rfl) | (rw [hP, hG, fl_one]; rfl) | (rw [hP, hG]; rfl)) (.skip (.skip (.takeEq (by first | (rw [hP]; done) | (rw [hP]; rfl) | (rw [hP, hG, fl_one]; rfl) | (rw [hP, hG]; rfl)) (.nil _)))))), ?_⟩
  rfl
 have p14 := h14; try simp only [bs] at p14
 refine .skip ?_
 refine .seq ?_
 refine .sr ?_
 refine .fa Tfo_95_4 ?_
 refine .u (.slice A m c) (.load1 Tone_75 rfl (.b (.tail _ (.head _)))) ?_
 refine .u (.int .i64 (((m : Nat) : Int))) (.len Tsl_75 rfl) ?_
 refine .w (.bool (decide ((((m : Nat) : Int)) > 1))) ?_
 refine .done ?_
 refine .cond (b := decide ((((m : Nat) : Int)) > 1)) rfl (fun h23 => ?_) (fun h23 => ?_)
 ·have p23 := h23; try simp only [bs] at p23
  exact absurd p23 (by omega) --DONE
 have p23 := h23; try simp only [bs] at p23
 refine .skip ?_
 refine .seq ?_
 refine .seq ?_
 have hG : gateG k q = (k, 0, 0) := by unfold gateG; first | (rw [if_pos (by omega), if_pos (by omega)]; done) | (rw [if_pos (by omega), if_neg (by omega)]; done) | (rw [if_neg (by omega), if_neg (by omega)]; done) | (exfalso; omega)
 refine .region ?_
 refine .m ?_
 refine .u (.agg #[.int .i64 k, .int .i64 0, .int .i64 0]) (.loadN (cs := [.int .i64 k, .int .i64 0, .int .i64 0]) Tagg_69 rfl (Cells.blk (.head _) ⟨rfl, rfl, rfl, trivial⟩)) ?_
 refine .c (.bool (gateOk n k 0 0)) [.int .i64 n, .agg #[.int .i64 k, .int .i64 0, .int .i64 0]] Tcall_65 (fun w hs => IsValidGate_spec hn w) ?_
 refine .w (.bool (!(gateOk n k 0 0))) ?_
 refine .done ?_
 refine .cond (b := !(gateOk n k 0 0)) rfl (fun h32 => ?_) (fun h32 => ?_)
 ·have p32 := h32; try simp only [bs] at p32
  have hP : gateP n k q a1 (c1, l1) = ([], tellP 5 (a1 + 1) (c1, l1)) := by rw [gateP, hG, if_neg (by rw [p32]; decide)]
  refine .sr ?_
  iterate 2 refine .m ?_
  refine .u (.pointer (some ⟨r, 0, none⟩)) (.nilCheck rfl) ?_
  refine .fa Tfo_91_1 ?_
  refine .u (.int .i64 a1) (.load1 Tone_3 rfl (.b (.tail _ (.tail _ (.head _))))) ?_
  refine .u (.int .i64 (a1 + 1)) (.add rfl rfl rfl (by omega) (by omega)) ?_
  refine .step rfl (.callM (H1 := [.blk r 91 [vl, .int .i64 a1, vd, .int .i64 c1, .int .i64 l1]]) (H2 := [.blk b2 69 [.int .i64 k, .int .i64 0, .int .i64 0], .blk b1 95 [sv w0, .int .i64 k, sv nm, .int .i64 num, .slice A m c]]) (vs := [.pointer (some ⟨r, 0, none⟩), .int .i64 5, .int .i64 (a1 + 1)]) (caps := []) Tcall_59 rfl rfl (Weak.selF [2]) (fun w hs => tell_spec (hs.holds _ (.head _))) ?_)
  rintro _ _ ⟨rfl, rfl⟩
  show Run _ _ (putF _ _ _ (.tuple #[])) [.blk r 91 [vl, .int .i64 a1, vd, .int .i64 ((tellP 5 (a1 + 1) (c1, l1)).1), .int .i64 ((tellP 5 (a1 + 1) (c1, l1)).2)], .blk b2 69 [.int .i64 k, .int .i64 0, .int .i64 0], .blk b1 95 [sv w0, .int .i64 k, sv nm, .int .i64 num, .slice A m c]]
  refine .dsr ?_
  refine .m ?_
  refine .done ?_
  refine .ret ?_
  refine ⟨.slice none 0 0, [.own (.slice none 0 0) 69 3 ((gateP n k q a1 (c1, l1)).1.length) (ints (fl (gateP n k q a1 (c1, l1)).1)), .blk r 91 [vl, .int .i64 a1, vd, .int .i64 ((gateP n k q a1 (c1, l1)).2.1), .int .i64 ((gateP n k q a1 (c1, l1)).2.2)]], Out.one rfl rfl, ((Weak.nilOwn 69 3).trans (Some'.weak (.takeEq (by first | (rw [hP]; done) | (rw [hP]; rfl) | (rw [hP, hG, fl_one]; rfl) | (rw [hP, hG]; rfl)) (.takeEq (by first | (rw [hP]; done) | (rw [hP]; rfl) | (rw [hP, hG, fl_one]; rfl) | (rw [hP, hG]; rfl)) (.nil _))))), ?_⟩
  rfl
 have p32 := h32; try simp only [bs] at p32
 have hP : gateP n k q a1 (c1, l1) = ([gateG k q], (c1, l1)) := by rw [gateP, if_pos (by rw [hG]; exact p32)]
 refine .skip ?_
 refine .sr ?_
 refine .u (.agg #[.int .i64 k, .int .i64 0, .int .i64 0]) (.loadN (cs := [.int .i64 k, .int .i64 0, .int .i64 0]) Tagg_69 rfl (Cells.blk (.head _) ⟨rfl, rfl, rfl, trivial⟩)) ?_
 refine .step rfl (.buildSlice (us := [.int .i64 k, .int .i64 0, .int .i64 0]) Tsl_22 (by decide) (by decide) ⟨rfl, [.int .i64 k, .int .i64 0, .int .i64 0], _, rfl, rfl, rfl, rfl⟩ rfl fun b5 => ?_)
 refine .m ?_
 refine .done ?_
 refine .ret ?_
 refine ⟨.slice (some ⟨b5, 0, none⟩) 1 1, [.own (.slice (some ⟨b5, 0, none⟩) 1 1) 69 3 ((gateP n k q a1 (c1, l1)).1.length) (ints (fl (gateP n k q a1 (c1, l1)).1)), .blk r 91 [vl, .int .i64 a1, vd, .int .i64 ((gateP n k q a1 (c1, l1)).2.1), .int .i64 ((gateP n k q a1 (c1, l1)).2.2)]], Out.one rfl rfl, (Some'.weak (.takeEq (by first | (rw [hP]; done) | (rw [hP]; rfl) | (rw [hP, hG, fl_one]; rfl) | (rw [hP, hG]; rfl)) (.skip (.skip (.takeEq (by first | (rw [hP]; done) | (rw [hP]; rfl) | (rw [hP, hG, fl_one]; rfl) | (rw [hP, hG]; rfl)) (.nil _)))))), ?_⟩
 rfl

set_option maxHeartbeats 8000000 in
set_option maxRecDepth 20000 in
theorem tcall_spec {r : Nat} {vl vd vq : Value} {a1 c1 l1 n k num : Int} {m dn known : Nat} {w0 nm : Bs} {q : List Int} {D : List DV} {w : World} (ha : 0 ≤ a1 ∧ a1 ≤ 16777216) (hq : Ap [.blk r 91 [vl, .int .i64 a1, vd, .int .i64 c1, .int .i64 l1]] w vq 1 m (ints q)) (h1 : 1 ≤ m) (hd : Ap [.blk r 91 [vl, .int .i64 a1, vd, .int .i64 c1, .int .i64 l1]] w vd 3 dn (dls D)) (hD : DAp [.blk r 91 [vl, .int .i64 a1, vd, .int .i64 c1, .int .i64 l1]] w D) (hval : DVal (D.map (·.1))) (hD16 : ∀ k, k < D.length → (dx D k).1.gs.length ≤ 16777216) (hk : known ≤ dn) (h : (Res.blk r 91 [vl, .int .i64 a1, vd, .int .i64 c1, .int .i64 l1]).holds w) : Calls Tryz.prog 109 #[.pointer (some ⟨r, 0, none⟩), .agg #[sv w0, .int .i64 k, sv nm, .int .i64 num, vq], .int .i64 n, .int .i64 ((known : Nat) : Int)] w (Post (Of [.blk r 91 [vl, .int .i64 a1, vd, .int .i64 c1, .int .i64 l1]]) w fun v H => H = [.own v 69 3 (callP n (D.map (·.1)) known nm q a1 (c1, l1)).1.length (ints (fl (callP n (D.map (·.1)) known nm q a1 (c1, l1)).1)), .blk r 91 [vl, .int .i64 a1, vd, .int .i64 (callP n (D.map (·.1)) known nm q a1 (c1, l1)).2.1, .int .i64 (callP n (D.map (·.1)) known nm q a1 (c1, l1)).2.2]]) := by
 have hqm := hq.sl.len
 have hql : q.length = m := by omega
 have hm63 := hq.sl.le
 have hdn : D.length = dn := by have := hd.sl.1; simp at this; omega
 obtain ⟨A, c, rfl, _, _⟩ := hq.sl.form0
 refine enter (n := 70) (args := [.pointer (some ⟨r, 0, none⟩), .agg #[sv w0, .int .i64 k, sv nm, .int .i64 num, .slice A m c], .int .i64 n, .int .i64 (((known : Nat) : Int))]) Tryz.func109 rfl rfl (St.start1 h) ?_
 refine .sr ?_
 refine .step rfl (.box (us := [sv w0, .int .i64 k, sv nm, .int .i64 num, .slice A m c]) rfl fun b1 => ?_)
 refine .m ?_
 refine .dsr ?_
 refine .m ?_
 refine .fa Tfo_95_2 ?_
 refine .u (sv nm) (.load1 Tone_9 rfl (.b (.head _))) ?_
 refine .m ?_
 refine .step rfl (.c [.pointer (some ⟨r, 0, none⟩), sv nm, .int .i64 (((known : Nat) : Int))] Tcall_90 (fun w hs => find_spec (hs.slBlk (.tail _ (.head _))) (hd.go hs) (hD.go hs) hk) ?_)
 rintro _ _ ⟨s1, i1, Ag, mg, cg, rfl, rfl, hf⟩
 show Run _ _ (putF _ _ _ (.tuple #[.agg #[sv s1, .int .i64 i1, .slice Ag mg cg], .bool (decide (0 ≤ fdI D known nm))])) [.blk b1 95 [sv w0, .int .i64 k, sv nm, .int .i64 num, .slice A m c], .blk r 91 [vl, .int .i64 a1, vd, .int .i64 c1, .int .i64 l1]]
 refine .w (.tuple #[.agg #[sv s1, .int .i64 i1, .slice Ag mg cg], .bool (decide (0 ≤ fdI D known nm))]) ?_
 refine .w (.agg #[sv s1, .int .i64 i1, .slice Ag mg cg]) ?_
 refine .w (.bool (decide (0 ≤ fdI D known nm))) ?_
 refine .step rfl (.alloc (zs := [sv ([]), .int .i64 0, .slice none 0 0]) Tzero_59 fun b2 => ?_)
 refine .step rfl (.storeAll (us := [sv s1, .int .i64 i1, .slice Ag mg cg]) Tsize_59 rfl rfl rfl (.here _) rfl ?_)
 refine .m ?_
 refine .done ?_
 refine .seq ?_
 refine .sr ?_
 refine .m ?_
 refine .w (.bool (!(decide (0 ≤ fdI D known nm)))) ?_
 refine .done ?_
 refine .cond (b := !(decide (0 ≤ fdI D known nm))) rfl (fun h22 => ?_) (fun h22 => ?_)
 ·have p22 := h22; try simp only [bs] at p22
  have hP : callP n (D.map (·.1)) known nm q a1 (c1, l1) = ([], tellP 4 (a1 + 1) (c1, l1)) := by rw [callP, ← fdI_J, if_pos (by simpa using h22)]
  refine .sr ?_
  iterate 2 refine .m ?_
  refine .u (.pointer (some ⟨r, 0, none⟩)) (.nilCheck rfl) ?_
  refine .fa Tfo_91_1 ?_
  refine .u (.int .i64 a1) (.load1 Tone_3 rfl (.b (.tail _ (.tail _ (.head _))))) ?_
  refine .u (.int .i64 (a1 + 1)) (.add rfl rfl rfl (by omega) (by omega)) ?_
  refine .step rfl (.callM (H1 := [.blk r 91 [vl, .int .i64 a1, vd, .int .i64 c1, .int .i64 l1]]) (H2 := [.blk b2 59 [sv s1, .int .i64 i1, .slice Ag mg cg], .blk b1 95 [sv w0, .int .i64 k, sv nm, .int .i64 num, .slice A m c]]) (vs := [.pointer (some ⟨r, 0, none⟩), .int .i64 4, .int .i64 (a1 + 1)]) (caps := []) Tcall_59 rfl rfl (Weak.selF [2]) (fun w hs => tell_spec (hs.holds _ (.head _))) ?_)
  rintro _ _ ⟨rfl, rfl⟩
  show Run _ _ (putF _ _ _ (.tuple #[])) [.blk r 91 [vl, .int .i64 a1, vd, .int .i64 ((tellP 4 (a1 + 1) (c1, l1)).1), .int .i64 ((tellP 4 (a1 + 1) (c1, l1)).2)], .blk b2 59 [sv s1, .int .i64 i1, .slice Ag mg cg], .blk b1 95 [sv w0, .int .i64 k, sv nm, .int .i64 num, .slice A m c]]
  refine .dsr ?_
  refine .m ?_
  refine .done ?_
  refine .ret ?_
  refine ⟨.slice none 0 0, [.own (.slice none 0 0) 69 3 ((callP n (D.map (·.1)) known nm q a1 (c1, l1)).1.length) (ints (fl (callP n (D.map (·.1)) known nm q a1 (c1, l1)).1)), .blk r 91 [vl, .int .i64 a1, vd, .int .i64 ((callP n (D.map (·.1)) known nm q a1 (c1, l1)).2.1), .int .i64 ((callP n (D.map (·.1)) known nm q a1 (c1, l1)).2.2)]], Out.one rfl rfl, ((Weak.nilOwn 69 3).trans (Some'.weak (.takeEq (by first | (rw [hP]; done) | (rw [hP]; rfl) | (rw [hP]; simp)) (.takeEq (by first | (rw [hP]; done) | (rw [hP]; rfl) | (rw [hP]; simp)) (.nil _))))), ?_⟩
  rfl
 have p22 := h22; try simp only [bs] at p22
 have hf0 : 0 ≤ fdI D known nm := by simpa using h22
 obtain ⟨j, hj⟩ : ∃ j : Nat, fdI D known nm = (j : Int) := ⟨(fdI D known nm).toNat, by omega⟩
 have hjlt : j < known := by have := findI_lt (p := fun i => (dx D i).1.nm == nm) (n := known); have e : fdI D known nm = findI (fun i => (dx D i).1.nm == nm) known := rfl; rw [← e] at this; omega
 have hf2 := hf hf0
 rw [hj, Int.toNat_natCast] at hf2
 obtain ⟨d, hdj⟩ : ∃ d, (dx D j).1 = d := ⟨_, rfl⟩
 rw [hdj] at hf2
 obtain ⟨rfl, rfl, rfl, hgv⟩ := hf2
 refine .skip ?_
 refine .seq ?_
 refine .sr ?_
 refine .fa Tfo_95_4 ?_
 refine .u (.slice A m c) (.load1 Tone_75 rfl (.b (.tail _ (.head _)))) ?_
 refine .u (.int .i64 (((m : Nat) : Int))) (.len Tsl_75 rfl) ?_
 refine .m ?_
 refine .done ?_
 refine .block ?_
 refine Run.loop (ι := Nat) [8, 11, 12, 33, 34, 35, 36, 37, 38, 39, 40, 41, 42, 43, 44, 45, 46, 47, 48, 49, 50, 51, 52, 53, 54, 55, 56, 57, 58, 59, 60, 61, 62, 63, 64] (fun i => [(33, .int .i64 (((i : Nat) : Int)))]) (fun i => [.blk b2 59 [sv (d.nm), .int .i64 (d.n), .slice Ag (d.gs.length) cg], .blk b1 95 [sv w0, .int .i64 k, sv nm, .int .i64 num, .slice A m c], .blk r 91 [vl, .int .i64 a1, vd, .int .i64 c1, .int .i64 l1]]) (fun i => i ≤ m ∧ ∀ i2, i2 < i → badC n d.n q i2 = false) (fun i => m - i) 0 ?_ ?_ ?_ ?_
 ·exact ⟨Nat.zero_le _, fun i2 hi => by omega⟩
 ·exact ⟨rfl, trivial⟩
 ·exact (Some'.weak (.take (.take (.take (.nil _)))))
 rintro i fr hinv
 show Run _ _ (over _ _ [(33, .int .i64 (((i : Nat) : Int)))] fr) [.blk b2 59 [sv (d.nm), .int .i64 (d.n), .slice Ag (d.gs.length) cg], .blk b1 95 [sv w0, .int .i64 k, sv nm, .int .i64 num, .slice A m c], .blk r 91 [vl, .int .i64 a1, vd, .int .i64 c1, .int .i64 l1]]
 try dsimp only at hinv
 refine .sr ?_
 refine .w (.bool (decide ((((i : Nat) : Int)) < (((m : Nat) : Int))))) ?_
 refine .done ?_
 refine .seq ?_
 refine .cond (b := decide ((((i : Nat) : Int)) < (((m : Nat) : Int)))) rfl (fun h34 => ?_) (fun h34 => ?_)
 ·have p34 := h34; try simp only [bs] at p34
  have hlti : i < m := by omega
  obtain ⟨b, o, rfl⟩ := hq.sl.opn (by omega)
  refine .skip ?_
  refine .seq ?_
  refine .block ?_
  refine .sr ?_
  refine .m ?_
  refine .u (.pointer (some ⟨b, o + i, none⟩)) (.ix i Tsl_75) ?_
  refine .u (.int .i64 (ix q (i))) (.load1 Tone_3 rfl (Cells.ap (k := i) hq rfl (by omega) (pre1 (by omega)))) ?_
  iterate 2 refine .m ?_
  refine .dsr ?_
  iterate 2 refine .m ?_
  refine .w (.bool (decide ((ix q (i)) ≥ n))) ?_
  rcases Bool.eq_false_or_eq_true (decide ((ix q (i)) ≥ n)) with h41 | h41
  ·refine .mb h41 ?_
   have p41 := h41; try simp only [bs] at p41
   iterate 6 refine .pass rfl ?_
   refine .w (.bool true) ?_
   refine .m ?_
   iterate 6 refine .pass rfl ?_
   refine .w (.bool true) ?_
   refine .done ?_
   refine .cond (b := true) rfl (fun _ => ?_) (fun h => nomatch h)
   refine .seq ?_
   have hbad : anyI (badC n d.n q) q.length = true := anyI_true (i := i) (by omega) (by unfold badC; simp_all)
   have hP : callP n (D.map (·.1)) known nm q a1 (c1, l1) = ([], tellP 5 (a1 + 1) (c1, l1)) := by rw [callP, ← fdI_J, hj, if_neg (by omega), Int.toNat_natCast, ← dx_df, hdj, if_pos hbad]
   refine .region ?_
   iterate 2 refine .m ?_
   refine .u (.pointer (some ⟨r, 0, none⟩)) (.nilCheck rfl) ?_
   refine .fa Tfo_91_1 ?_
   refine .u (.int .i64 a1) (.load1 Tone_3 rfl (.b (.tail _ (.tail _ (.head _))))) ?_
   refine .u (.int .i64 (a1 + 1)) (.add rfl rfl rfl (by omega) (by omega)) ?_
   refine .step rfl (.callM (H1 := [.blk r 91 [vl, .int .i64 a1, vd, .int .i64 c1, .int .i64 l1]]) (H2 := [.blk b2 59 [sv (d.nm), .int .i64 (d.n), .slice Ag (d.gs.length) cg], .blk b1 95 [sv w0, .int .i64 k, sv nm, .int .i64 num, .slice (some ⟨b, o, none⟩) m c]]) (vs := [.pointer (some ⟨r, 0, none⟩), .int .i64 5, .int .i64 (a1 + 1)]) (caps := []) Tcall_59 rfl rfl (Weak.selF [2]) (fun w hs => tell_spec (hs.holds _ (.head _))) ?_)
   rintro _ _ ⟨rfl, rfl⟩
   show Run _ _ (putF _ _ _ (.tuple #[])) [.blk r 91 [vl, .int .i64 a1, vd, .int .i64 ((tellP 5 (a1 + 1) (c1, l1)).1), .int .i64 ((tellP 5 (a1 + 1) (c1, l1)).2)], .blk b2 59 [sv (d.nm), .int .i64 (d.n), .slice Ag (d.gs.length) cg], .blk b1 95 [sv w0, .int .i64 k, sv nm, .int .i64 num, .slice (some ⟨b, o, none⟩) m c]]
   refine .dsr ?_
   refine .m ?_
   refine .done ?_
   refine .ret ?_
   refine ⟨.slice none 0 0, [.own (.slice none 0 0) 69 3 ((callP n (D.map (·.1)) known nm q a1 (c1, l1)).1.length) (ints (fl (callP n (D.map (·.1)) known nm q a1 (c1, l1)).1)), .blk r 91 [vl, .int .i64 a1, vd, .int .i64 ((callP n (D.map (·.1)) known nm q a1 (c1, l1)).2.1), .int .i64 ((callP n (D.map (·.1)) known nm q a1 (c1, l1)).2.2)]], Out.one rfl rfl, ((Weak.nilOwn 69 3).trans (Some'.weak (.takeEq (by first | (rw [hP]; done) | (rw [hP]; rfl) | (rw [hP]; simp)) (.takeEq (by first | (rw [hP]; done) | (rw [hP]; rfl) | (rw [hP]; simp)) (.nil _))))), ?_⟩
   rfl
  refine .mb h41 ?_
  have p41 := h41; try simp only [bs] at p41
  refine .fa Tfo_95_4 ?_
  refine .u (.slice (some ⟨b, o, none⟩) m c) (.load1 Tone_75 rfl (.b (.tail _ (.head _)))) ?_
  refine .m ?_
  refine .u (.slice (some ⟨b, o, none⟩) i c) (.sliceHN (h := i) Tsl_75 rfl rfl rfl (by omega)) ?_
  refine .m ?_
  refine .c (.bool (hasI q (ix q i) i)) [.slice (some ⟨b, o, none⟩) i c, .int .i64 (ix q (i))] Tcall_121 (fun w hs => (by have h := ContainsInt_spec (x := ix q i) ((hq.go hs).take (show i ≤ m by omega)); rw [hasI_take] at h; exact h)) ?_
  refine .w (.bool (hasI q (ix q i) i)) ?_
  rcases Bool.eq_false_or_eq_true (hasI q (ix q i) i) with h49 | h49
  ·refine .mb h49 ?_
   have p49 := h49; try simp only [bs] at p49
   iterate 6 refine .pass rfl ?_
   refine .w (.bool true) ?_
   refine .done ?_
   refine .cond (b := true) rfl (fun _ => ?_) (fun h => nomatch h)
   refine .seq ?_
   have hbad : anyI (badC n d.n q) q.length = true := anyI_true (i := i) (by omega) (by unfold badC; simp_all)
   have hP : callP n (D.map (·.1)) known nm q a1 (c1, l1) = ([], tellP 5 (a1 + 1) (c1, l1)) := by rw [callP, ← fdI_J, hj, if_neg (by omega), Int.toNat_natCast, ← dx_df, hdj, if_pos hbad]
   refine .region ?_
   iterate 2 refine .m ?_
   refine .u (.pointer (some ⟨r, 0, none⟩)) (.nilCheck rfl) ?_
   refine .fa Tfo_91_1 ?_
   refine .u (.int .i64 a1) (.load1 Tone_3 rfl (.b (.tail _ (.tail _ (.head _))))) ?_
   refine .u (.int .i64 (a1 + 1)) (.add rfl rfl rfl (by omega) (by omega)) ?_
   refine .step rfl (.callM (H1 := [.blk r 91 [vl, .int .i64 a1, vd, .int .i64 c1, .int .i64 l1]]) (H2 := [.blk b2 59 [sv (d.nm), .int .i64 (d.n), .slice Ag (d.gs.length) cg], .blk b1 95 [sv w0, .int .i64 k, sv nm, .int .i64 num, .slice (some ⟨b, o, none⟩) m c]]) (vs := [.pointer (some ⟨r, 0, none⟩), .int .i64 5, .int .i64 (a1 + 1)]) (caps := []) Tcall_59 rfl rfl (Weak.selF [2]) (fun w hs => tell_spec (hs.holds _ (.head _))) ?_)
   rintro _ _ ⟨rfl, rfl⟩
   show Run _ _ (putF _ _ _ (.tuple #[])) [.blk r 91 [vl, .int .i64 a1, vd, .int .i64 ((tellP 5 (a1 + 1) (c1, l1)).1), .int .i64 ((tellP 5 (a1 + 1) (c1, l1)).2)], .blk b2 59 [sv (d.nm), .int .i64 (d.n), .slice Ag (d.gs.length) cg], .blk b1 95 [sv w0, .int .i64 k, sv nm, .int .i64 num, .slice (some ⟨b, o, none⟩) m c]]
   refine .dsr ?_
   refine .m ?_
   refine .done ?_
   refine .ret ?_
   refine ⟨.slice none 0 0, [.own (.slice none 0 0) 69 3 ((callP n (D.map (·.1)) known nm q a1 (c1, l1)).1.length) (ints (fl (callP n (D.map (·.1)) known nm q a1 (c1, l1)).1)), .blk r 91 [vl, .int .i64 a1, vd, .int .i64 ((callP n (D.map (·.1)) known nm q a1 (c1, l1)).2.1), .int .i64 ((callP n (D.map (·.1)) known nm q a1 (c1, l1)).2.2)]], Out.one rfl rfl, ((Weak.nilOwn 69 3).trans (Some'.weak (.takeEq (by first | (rw [hP]; done) | (rw [hP]; rfl) | (rw [hP]; simp)) (.takeEq (by first | (rw [hP]; done) | (rw [hP]; rfl) | (rw [hP]; simp)) (.nil _))))), ?_⟩
   rfl
  refine .mb h49 ?_
  have p49 := h49; try simp only [bs] at p49
  refine .fa Tfo_95_4 ?_
  refine .u (.slice (some ⟨b, o, none⟩) m c) (.load1 Tone_75 rfl (.b (.tail _ (.head _)))) ?_
  refine .u (.int .i64 (((m : Nat) : Int))) (.len Tsl_75 rfl) ?_
  refine .fa Tfo_59_1 ?_
  refine .u (.int .i64 (d.n)) (.load1 Tone_3 rfl (.b (.head _))) ?_
  refine .w (.bool ((((m : Nat) : Int)) != (d.n))) ?_
  refine .w (.bool ((((m : Nat) : Int)) != (d.n))) ?_
  refine .done ?_
  refine .cond (b := (((m : Nat) : Int)) != (d.n)) rfl (fun h56 => ?_) (fun h56 => ?_)
  ·have p56 := h56; try simp only [bs] at p56
   refine .seq ?_
   have hbad : anyI (badC n d.n q) q.length = true := anyI_true (i := i) (by omega) (by unfold badC; simp_all)
   have hP : callP n (D.map (·.1)) known nm q a1 (c1, l1) = ([], tellP 5 (a1 + 1) (c1, l1)) := by rw [callP, ← fdI_J, hj, if_neg (by omega), Int.toNat_natCast, ← dx_df, hdj, if_pos hbad]
   refine .region ?_
   iterate 2 refine .m ?_
   refine .u (.pointer (some ⟨r, 0, none⟩)) (.nilCheck rfl) ?_
   refine .fa Tfo_91_1 ?_
   refine .u (.int .i64 a1) (.load1 Tone_3 rfl (.b (.tail _ (.tail _ (.head _))))) ?_
   refine .u (.int .i64 (a1 + 1)) (.add rfl rfl rfl (by omega) (by omega)) ?_
   refine .step rfl (.callM (H1 := [.blk r 91 [vl, .int .i64 a1, vd, .int .i64 c1, .int .i64 l1]]) (H2 := [.blk b2 59 [sv (d.nm), .int .i64 (d.n), .slice Ag (d.gs.length) cg], .blk b1 95 [sv w0, .int .i64 k, sv nm, .int .i64 num, .slice (some ⟨b, o, none⟩) m c]]) (vs := [.pointer (some ⟨r, 0, none⟩), .int .i64 5, .int .i64 (a1 + 1)]) (caps := []) Tcall_59 rfl rfl (Weak.selF [2]) (fun w hs => tell_spec (hs.holds _ (.head _))) ?_)
   rintro _ _ ⟨rfl, rfl⟩
   show Run _ _ (putF _ _ _ (.tuple #[])) [.blk r 91 [vl, .int .i64 a1, vd, .int .i64 ((tellP 5 (a1 + 1) (c1, l1)).1), .int .i64 ((tellP 5 (a1 + 1) (c1, l1)).2)], .blk b2 59 [sv (d.nm), .int .i64 (d.n), .slice Ag (d.gs.length) cg], .blk b1 95 [sv w0, .int .i64 k, sv nm, .int .i64 num, .slice (some ⟨b, o, none⟩) m c]]
   refine .dsr ?_
   refine .m ?_
   refine .done ?_
   refine .ret ?_
   refine ⟨.slice none 0 0, [.own (.slice none 0 0) 69 3 ((callP n (D.map (·.1)) known nm q a1 (c1, l1)).1.length) (ints (fl (callP n (D.map (·.1)) known nm q a1 (c1, l1)).1)), .blk r 91 [vl, .int .i64 a1, vd, .int .i64 ((callP n (D.map (·.1)) known nm q a1 (c1, l1)).2.1), .int .i64 ((callP n (D.map (·.1)) known nm q a1 (c1, l1)).2.2)]], Out.one rfl rfl, ((Weak.nilOwn 69 3).trans (Some'.weak (.takeEq (by first | (rw [hP]; done) | (rw [hP]; rfl) | (rw [hP]; simp)) (.takeEq (by first | (rw [hP]; done) | (rw [hP]; rfl) | (rw [hP]; simp)) (.nil _))))), ?_⟩
   rfl
  have p56 := h56; try simp only [bs] at p56
  refine .skip ?_
  refine .blockEnd ?_
  have hgood : badC n d.n q i = false := by unfold badC; simp_all
  refine .region ?_
  refine .u (.int .i64 ((((i : Nat) : Int)) + 1)) (.add rfl rfl rfl (by omega) (by omega)) ?_
  refine .m ?_
  refine .done ?_
  refine .goal ⟨(by repeat (first | exact Same.refl _ _ | refine Same.put rfl ?_ | refine Same.over rfl rfl ?_)), i + 1, ?_, ?_, ?_, ?_⟩
  ·refine ⟨by omega, ?_⟩
   intro i2 hi
   rcases Nat.lt_succ_iff_lt_or_eq.1 hi with h | h
   ·exact hinv.2 i2 h
   ·rw [h]; exact hgood
  ·omega
  ·exact ⟨(by first | rfl | (congr 1; omega) | simp), trivial⟩
  ·exact (Some'.weak (.take (.takeEq (by first | rfl | simp) (.take (.nil _)))))
 have p34 := h34; try simp only [bs] at p34
 have him : i = m := by omega
 have hall : anyI (badC n d.n q) q.length = false := anyI_false fun i2 hi => hinv.2 i2 (by omega)
 have hP : callP n (D.map (·.1)) known nm q a1 (c1, l1) = (d.gs.map (mapG q), (c1, l1)) := by rw [callP, ← fdI_J, hj, if_neg (by omega), Int.toNat_natCast, ← dx_df, hdj, if_neg (by rw [hall]; decide)]
 have hmn : d.n = ((m : Nat) : Int) := by
  have h0 := hinv.2 0 (by omega)
  simp only [badC, Bool.or_eq_false_iff, Bool.not_eq_false', decide_eq_true_eq] at h0
  omega
 have hmo : MapOk m d.gs := mapOk_of (n := d.n) (by have := hval j (by simp; omega); rw [← dx_df, hdj] at this; exact this) hmn
 refine .exit rfl ?_
 refine .sr ?_
 refine .fa Tfo_59_2 ?_
 refine .u (.slice Ag (d.gs.length) cg) (.load1 Tone_22 rfl (.b (.head _))) ?_
 refine .fa Tfo_95_4 ?_
 refine .u (.slice A m c) (.load1 Tone_75 rfl (.b (.tail _ (.head _)))) ?_
 refine .step rfl (.c [.slice Ag (d.gs.length) cg, .slice A m c] Tcall_122 (fun w hs => mapped_spec (L := d.gs) (by rw [hgv]; have h := (hD.go hs) j (by omega); rw [hdj] at h; exact h) (hq.go hs) hmo (by have h := hD16 j (by omega); rw [hdj] at h; exact h)) ?_)
 rintro v1 _ rfl
 show Run _ _ (putF _ _ _ v1) [.own v1 69 3 (d.gs.length) (ints (fl (d.gs.map (mapG q)))), .blk b2 59 [sv (d.nm), .int .i64 (d.n), .slice Ag (d.gs.length) cg], .blk b1 95 [sv w0, .int .i64 k, sv nm, .int .i64 num, .slice A m c], .blk r 91 [vl, .int .i64 a1, vd, .int .i64 c1, .int .i64 l1]]
 refine .w v1 ?_
 refine .done ?_
 refine .ret ?_
 refine ⟨v1, [.own v1 69 3 ((callP n (D.map (·.1)) known nm q a1 (c1, l1)).1.length) (ints (fl (callP n (D.map (·.1)) known nm q a1 (c1, l1)).1)), .blk r 91 [vl, .int .i64 a1, vd, .int .i64 ((callP n (D.map (·.1)) known nm q a1 (c1, l1)).2.1), .int .i64 ((callP n (D.map (·.1)) known nm q a1 (c1, l1)).2.2)]], Out.one rfl rfl, (Some'.weak (.takeEq (by first | (rw [hP]; done) | (rw [hP]; rfl) | (rw [hP]; simp)) (.skip (.skip (.takeEq (by first | (rw [hP]; done) | (rw [hP]; rfl) | (rw [hP]; simp)) (.nil _)))))), ?_⟩
 rfl

end Go.Proofs.YtgpkpopbajkklaaGreatDoor
/- Walks: the program goes through the lines of a block. -/
set_option linter.unusedSimpArgs false
set_option linter.unusedVariables false
namespace Go.Proofs.YtgpkpopbajkklaaGreatDoor
open Go Go.RowKit
namespace TxkT
theorem Tagg_95 : aggOf Tryz.prog 95 = some 5 := by kernel_rfl
theorem Tcall_108 : callable Tryz.prog 108 = true := by kernel_rfl
theorem Tcall_109 : callable Tryz.prog 109 = true := by kernel_rfl
theorem Tcall_110 : callable Tryz.prog 110 = true := by kernel_rfl
theorem Tcall_91 : callable Tryz.prog 91 = true := by kernel_rfl
theorem Tfo_91_0 : fieldOff Tryz.prog 91 0 = some 0 := by kernel_rfl
theorem Tfo_91_1 : fieldOff Tryz.prog 91 1 = some 1 := by kernel_rfl
theorem Tfo_95_0 : fieldOff Tryz.prog 95 0 = some 0 := by kernel_rfl
theorem Tfo_95_3 : fieldOff Tryz.prog 95 3 = some 3 := by kernel_rfl
theorem Tone_3 : oneOf Tryz.prog 3 = true := by kernel_rfl
theorem Tone_85 : oneOf Tryz.prog 85 = true := by kernel_rfl
theorem Tone_9 : oneOf Tryz.prog 9 = true := by kernel_rfl
theorem Tsize_3 : (Tryz.prog.info? 3).map (·.size) = some 1 := by kernel_rfl
theorem Tsize_95 : (Tryz.prog.info? 95).map (·.size) = some 5 := by kernel_rfl
theorem Tsl_22 : sliceOf Tryz.prog 22 = some (69, 3, 24, [.int .i64 0, .int .i64 0, .int .i64 0]) := by kernel_rfl
theorem Tsl_85 : sliceOf Tryz.prog 85 = some (95, 5, 72, [sv ([]), .int .i64 0, sv ([]), .int .i64 0, .slice none 0 0]) := by kernel_rfl
theorem Tzero_95 : zeroOf Tryz.prog 95 = some [sv ([]), .int .i64 0, sv ([]), .int .i64 0, .slice none 0 0] := by kernel_rfl
end TxkT
open TxkT
def liAt (xs : List Li) (k : Nat) : Li := xs.getD k .cl
theorem tx_li (L : List LV) (k : Nat) : (tx L k).1 = liAt (L.map (·.1)) k := by
  simp only [tx, liAt, List.getD, List.getElem?_map]
  cases L[k]? <;> rfl
/-- Gates repeated. -/
def repT (part : List G3) : Nat → List G3 → List G3
  | 0, out => out
  | m + 1, out => repT part m (trim (out ++ part))
/-- The lines of a block: gates, the line behind it, the fault. -/
def bk (xs : List Li) (D : List Df) (known : Nat) (n : Int) : Nat → Nat → Int × Int → List G3 → List G3 × Nat × (Int × Int)
  | 0, a, p, out => (out, a, p)
  | f + 1, a, p, out =>
    if a < xs.length then
      if (liAt xs a).word = wE then (out, a + 1, p)
      else if (liAt xs a).word = wG then bk xs D known n f (a + 1) (gateP n (liAt xs a).kind (liAt xs a).qs a p).2 (trim (out ++ (gateP n (liAt xs a).kind (liAt xs a).qs a p).1))
      else if (liAt xs a).word = wC then bk xs D known n f (a + 1) (callP n D known (liAt xs a).nm (liAt xs a).qs a p).2 (trim (out ++ (callP n D known (liAt xs a).nm (liAt xs a).qs a p).1))
      else if (liAt xs a).word = wR then bk xs D known n f (bk xs D known n f (a + 1) p []).2.1 (bk xs D known n f (a + 1) p []).2.2 (repT (bk xs D known n f (a + 1) p []).1 (liAt xs a).num.toNat out)
      else bk xs D known n f (a + 1) p (trim out)
    else (out, a, p)
theorem bk_fuel {xs : List Li} {D : List Df} {known : Nat} {n : Int} : ∀ (f a : Nat) (p : Int × Int) (out : List G3), xs.length - a + 1 ≤ f → a ≤ (bk xs D known n f a p out).2.1 ∧ ∀ f', f ≤ f' → bk xs D known n f' a p out = bk xs D known n f a p out
  | 0, a, p, out, h => by omega
  | f + 1, a, p, out, h => by
    by_cases ha : a < xs.length
    · have key : ∀ b p out, a + 1 ≤ b → b ≤ (bk xs D known n f b p out).2.1 ∧ ∀ f', f ≤ f' → bk xs D known n f' b p out = bk xs D known n f b p out := fun b p out hb => bk_fuel f b p out (by omega)
      constructor
      · rw [bk, if_pos ha]
        split
        · exact Nat.le_succ a
        · split
          · exact Nat.le_trans (Nat.le_succ a) (key _ _ _ (Nat.le_refl _)).1
          · split
            · exact Nat.le_trans (Nat.le_succ a) (key _ _ _ (Nat.le_refl _)).1
            · split
              · have h1 := (key (a + 1) p [] (Nat.le_refl _)).1
                exact Nat.le_trans (Nat.le_trans (Nat.le_succ a) h1) (key _ _ _ h1).1
              · exact Nat.le_trans (Nat.le_succ a) (key _ _ _ (Nat.le_refl _)).1
      · intro f' hf'
        obtain ⟨g, rfl⟩ : ∃ g, f' = g + 1 := ⟨f' - 1, by omega⟩
        have kg : ∀ b p out, a + 1 ≤ b → bk xs D known n g b p out = bk xs D known n f b p out := fun b p out hb => (key b p out hb).2 g (by omega)
        rw [bk, bk, if_pos ha, if_pos ha]
        have h1 := (key (a + 1) p [] (Nat.le_refl _)).1
        rw [kg _ _ _ (Nat.le_refl _), kg _ _ _ (Nat.le_refl _), kg _ p [] (Nat.le_refl _), kg _ _ _ h1, kg _ _ _ (Nat.le_refl _)]
    · constructor
      · rw [bk, if_neg ha]; exact Nat.le_refl _
      · intro f' hf'
        obtain ⟨g, rfl⟩ : ∃ g, f' = g + 1 := ⟨f' - 1, by omega⟩
        rw [bk, bk, if_neg ha, if_neg ha]
def bkc (xs : List Li) (D : List Df) (known : Nat) (n : Int) (a : Nat) (p : Int × Int) (out : List G3) : List G3 × Nat × (Int × Int) := bk xs D known n (xs.length - a + 1) a p out
theorem bkc_le (xs : List Li) (D : List Df) (known : Nat) (n : Int) (a : Nat) (p : Int × Int) (out : List G3) : a ≤ (bkc xs D known n a p out).2.1 := (bk_fuel _ a p out (Nat.le_refl _)).1
theorem bkc_end {xs : List Li} {D : List Df} {known : Nat} {n : Int} {a : Nat} {p : Int × Int} {out : List G3} (h : ¬ a < xs.length) : bkc xs D known n a p out = (out, a, p) := by rw [bkc, bk, if_neg h]
theorem bkc_eq {xs : List Li} {D : List Df} {known : Nat} {n : Int} {a : Nat} {p : Int × Int} {out : List G3} (h : a < xs.length) : bkc xs D known n a p out =
    if (liAt xs a).word = wE then (out, a + 1, p)
    else if (liAt xs a).word = wG then bkc xs D known n (a + 1) (gateP n (liAt xs a).kind (liAt xs a).qs a p).2 (trim (out ++ (gateP n (liAt xs a).kind (liAt xs a).qs a p).1))
    else if (liAt xs a).word = wC then bkc xs D known n (a + 1) (callP n D known (liAt xs a).nm (liAt xs a).qs a p).2 (trim (out ++ (callP n D known (liAt xs a).nm (liAt xs a).qs a p).1))
    else if (liAt xs a).word = wR then bkc xs D known n (bkc xs D known n (a + 1) p []).2.1 (bkc xs D known n (a + 1) p []).2.2 (repT (bkc xs D known n (a + 1) p []).1 (liAt xs a).num.toNat out)
    else bkc xs D known n (a + 1) p (trim out) := by
  have e : xs.length - a = xs.length - (a + 1) + 1 := by omega
  have key : ∀ b p out, a + 1 ≤ b → bk xs D known n (xs.length - a) b p out = bkc xs D known n b p out := fun b p out hb => (bk_fuel (xs.length - b + 1) b p out (Nat.le_refl _)).2 _ (by omega)
  have h1 : a + 1 ≤ (bkc xs D known n (a + 1) p []).2.1 := bkc_le ..
  rw [bkc, bk, if_pos h, key _ _ _ (Nat.le_refl _), key _ _ _ (Nat.le_refl _), key _ p [] (Nat.le_refl _), key _ _ _ h1, key _ _ _ (Nat.le_refl _)]
theorem bkc_ub {xs : List Li} {D : List Df} {known : Nat} {n : Int} : ∀ (d a : Nat) (p : Int × Int) (out : List G3), xs.length - a = d → a ≤ xs.length → (bkc xs D known n a p out).2.1 ≤ xs.length := by
  intro d
  induction d using Nat.strongRecOn with
  | _ d ih =>
    intro a p out hd ho
    by_cases h : a < xs.length
    · rw [bkc_eq h]
      have k : ∀ b p out, a < b → b ≤ xs.length → (bkc xs D known n b p out).2.1 ≤ xs.length := fun b p out hb ho => ih (xs.length - b) (by omega) b p out rfl ho
      split
      · exact h
      · split
        · exact k _ _ _ (Nat.lt_succ_self a) h
        · split
          · exact k _ _ _ (Nat.lt_succ_self a) h
          · split
            · exact k _ _ _ (bkc_le ..) (k _ _ _ (Nat.lt_succ_self a) h)
            · exact k _ _ _ (Nat.lt_succ_self a) h
    · rw [bkc_end h]; exact ho
theorem trim_len (L : List G3) : (trim L).length ≤ 401 := by rw [trim, List.length_take]; omega
theorem repT_len {part : List G3} : ∀ (m : Nat) (out : List G3), out.length ≤ 401 → (repT part m out).length ≤ 401
  | 0, _, h => h
  | m + 1, _, _ => repT_len m _ (trim_len _)
theorem bkc_len {xs : List Li} {D : List Df} {known : Nat} {n : Int} : ∀ (d a : Nat) (p : Int × Int) (out : List G3), xs.length - a = d → out.length ≤ 401 → (bkc xs D known n a p out).1.length ≤ 401 := by
  intro d
  induction d using Nat.strongRecOn with
  | _ d ih =>
    intro a p out hd ho
    by_cases h : a < xs.length
    · rw [bkc_eq h]
      have k : ∀ b p out, a < b → out.length ≤ 401 → (bkc xs D known n b p out).1.length ≤ 401 := fun b p out hb ho => ih (xs.length - b) (by omega) b p out rfl ho
      split
      · exact ho
      · split
        · exact k _ _ _ (Nat.lt_succ_self a) (trim_len _)
        · split
          · exact k _ _ _ (Nat.lt_succ_self a) (trim_len _)
          · split
            · exact k _ _ _ (bkc_le ..) (repT_len _ _ ho)
            · exact k _ _ _ (Nat.lt_succ_self a) (trim_len _)
    · rw [bkc_end h]; exact ho
theorem gateP_len (n k : Int) (q : List Int) (a : Int) (p : Int × Int) : (gateP n k q a p).1.length ≤ 1 := by unfold gateP; split <;> simp
theorem callP_len {n : Int} {D : List Df} {known : Nat} {nm : Bs} {q : List Int} {a : Int} {p : Int × Int} {m : Nat} (h : ∀ k, k < D.length → (dfx D k).gs.length ≤ m) (hk : known ≤ D.length) : (callP n D known nm q a p).1.length ≤ m := by
  unfold callP
  split
  · simp
  · split
    · simp
    · rename_i h1 _
      have := fdJ_lt (D := D) (known := known) (nm := nm)
      have h2 := h (fdJ D known nm).toNat (by omega)
      simpa using h2
theorem Ap.ap {H0 H1 R : List Res} {w0 w : World} {v : Value} {size n : Nat} {xs : List Value} (h : Ap H0 w0 v size n xs) (hs : St (Of H0) w0 w (H1 ++ R)) : Ap H1 w v size n xs :=
  ⟨h.go hs, fun hn k hk ⟨r, hr, hrk⟩ => h.off hn k hk (hs.fresh r (List.mem_append_left _ hr) k hrk (h.sl.lt hn hk))⟩
def LAp (H0 : List Res) (w : World) (L : List LV) : Prop := ∀ k, k < L.length → Ap H0 w (tx L k).2 1 (tx L k).1.qs.length (ints (tx L k).1.qs)
theorem LAp.ap {H0 H1 R : List Res} {w0 w : World} {L : List LV} (h : LAp H0 w0 L) (hs : St (Of H0) w0 w (H1 ++ R)) : LAp H1 w L := fun k hk => Ap.ap (h k hk) hs
theorem DAp.ap {H0 H1 R : List Res} {w0 w : World} {D : List DV} (h : DAp H0 w0 D) (hs : St (Of H0) w0 w (H1 ++ R)) : DAp H1 w D := fun k hk => Ap.ap (h k hk) hs
/-- What a text's lines are known to be. -/
structure LiOk (x : Li) : Prop where
  call : x.word = wC → 1 ≤ x.qs.length
  num : x.num ≤ 99
  df : x.word = wD → 1 ≤ x.num ∧ x.num ≤ 5
  qb : x.word = wQ → 1 ≤ x.num ∧ x.num ≤ 5
  pos : ∀ i, i < x.qs.length → 0 ≤ ix x.qs i
def CallsOk (xs : List Li) : Prop := ∀ k, k < xs.length → LiOk (liAt xs k)
def BlkStmt (d : Nat) : Prop := ∀ {r : Nat} {vl vd : Value} {a N dn known : Nat} {n c1 l1 : Int} {L : List LV} {D : List DV} {w : World}, N - a = d → (1 ≤ n ∧ n ≤ 5) → N ≤ 16777 → Ap [.blk r 91 [vl, .int .i64 ((a : Nat) : Int), vd, .int .i64 c1, .int .i64 l1]] w vl 5 N (tls L) → LAp [.blk r 91 [vl, .int .i64 ((a : Nat) : Int), vd, .int .i64 c1, .int .i64 l1]] w L → CallsOk (L.map (·.1)) →
  Ap [.blk r 91 [vl, .int .i64 ((a : Nat) : Int), vd, .int .i64 c1, .int .i64 l1]] w vd 3 dn (dls D) → DAp [.blk r 91 [vl, .int .i64 ((a : Nat) : Int), vd, .int .i64 c1, .int .i64 l1]] w D → DVal (D.map (·.1)) → (∀ k, k < D.length → (dx D k).1.gs.length ≤ 401) → known ≤ dn → a ≤ N →
  (Res.blk r 91 [vl, .int .i64 ((a : Nat) : Int), vd, .int .i64 c1, .int .i64 l1]).holds w →
  Calls Tryz.prog 91 #[.pointer (some ⟨r, 0, none⟩), .int .i64 n, .int .i64 ((known : Nat) : Int)] w (Post (Of [.blk r 91 [vl, .int .i64 ((a : Nat) : Int), vd, .int .i64 c1, .int .i64 l1]]) w fun v H => H = [.own v 69 3 (bkc (L.map (·.1)) (D.map (·.1)) known n a (c1, l1) []).1.length (ints (fl (bkc (L.map (·.1)) (D.map (·.1)) known n a (c1, l1) []).1)), .blk r 91 [vl, .int .i64 (((bkc (L.map (·.1)) (D.map (·.1)) known n a (c1, l1) []).2.1 : Nat) : Int), vd, .int .i64 (bkc (L.map (·.1)) (D.map (·.1)) known n a (c1, l1) []).2.2.1, .int .i64 (bkc (L.map (·.1)) (D.map (·.1)) known n a (c1, l1) []).2.2.2]])

set_option maxHeartbeats 16000000 in
set_option maxRecDepth 20000 in
theorem block_step (d : Nat) (ih : ∀ d', d' < d → BlkStmt d') {r : Nat} {vl vd : Value} {a N dn known : Nat} {n c1 l1 : Int} {L : List LV} {D : List DV} {w : World} (hd0 : N - a = d) (hn : 1 ≤ n ∧ n ≤ 5) (hN : N ≤ 16777) (hl : Ap [.blk r 91 [vl, .int .i64 ((a : Nat) : Int), vd, .int .i64 c1, .int .i64 l1]] w vl 5 N (tls L)) (hLq : LAp [.blk r 91 [vl, .int .i64 ((a : Nat) : Int), vd, .int .i64 c1, .int .i64 l1]] w L) (hcx : CallsOk (L.map (·.1))) (hd : Ap [.blk r 91 [vl, .int .i64 ((a : Nat) : Int), vd, .int .i64 c1, .int .i64 l1]] w vd 3 dn (dls D)) (hD : DAp [.blk r 91 [vl, .int .i64 ((a : Nat) : Int), vd, .int .i64 c1, .int .i64 l1]] w D) (hval : DVal (D.map (·.1))) (hD401 : ∀ k, k < D.length → (dx D k).1.gs.length ≤ 401) (hk : known ≤ dn) (haN : a ≤ N) (h : (Res.blk r 91 [vl, .int .i64 ((a : Nat) : Int), vd, .int .i64 c1, .int .i64 l1]).holds w) : Calls Tryz.prog 91 #[.pointer (some ⟨r, 0, none⟩), .int .i64 n, .int .i64 ((known : Nat) : Int)] w (Post (Of [.blk r 91 [vl, .int .i64 ((a : Nat) : Int), vd, .int .i64 c1, .int .i64 l1]]) w fun v H => H = [.own v 69 3 (bkc (L.map (·.1)) (D.map (·.1)) known n a (c1, l1) []).1.length (ints (fl (bkc (L.map (·.1)) (D.map (·.1)) known n a (c1, l1) []).1)), .blk r 91 [vl, .int .i64 (((bkc (L.map (·.1)) (D.map (·.1)) known n a (c1, l1) []).2.1 : Nat) : Int), vd, .int .i64 (bkc (L.map (·.1)) (D.map (·.1)) known n a (c1, l1) []).2.2.1, .int .i64 (bkc (L.map (·.1)) (D.map (·.1)) known n a (c1, l1) []).2.2.2]]) := by
 obtain ⟨X, hX⟩ : ∃ X, L.map (·.1) = X := ⟨_, rfl⟩
 obtain ⟨Y, hY⟩ : ∃ Y, D.map (·.1) = Y := ⟨_, rfl⟩
 obtain ⟨Z, hZ⟩ : ∃ Z, bkc X Y known n a (c1, l1) [] = Z := ⟨_, rfl⟩
 rw [hX, hY, hZ]
 have hLN : L.length = N := by have := hl.sl.1; simp at this; omega
 have hXN : X.length = N := by rw [← hX, List.length_map]; exact hLN
 have hDN : D.length = dn := by have := hd.sl.1; simp at this; omega
 have hD16 : ∀ k, k < D.length → (dx D k).1.gs.length ≤ 16777216 := fun k hk => by have := hD401 k hk; omega
 have hYl : ∀ k, k < Y.length → (dfx Y k).gs.length ≤ 401 := fun k hk => by rw [← hY, ← dx_df]; exact hD401 k (by rw [← hY, List.length_map] at hk; exact hk)
 have hkY : known ≤ Y.length := by rw [← hY, List.length_map]; omega
 obtain ⟨Al, cl, rfl, _, _⟩ := hl.sl.form0
 refine enter (n := 92) (args := [.pointer (some ⟨r, 0, none⟩), .int .i64 n, .int .i64 (((known : Nat) : Int))]) Tryz.func91 rfl rfl (St.start1 h) ?_
 refine .sr ?_
 refine .m ?_
 refine .dsr ?_
 refine .step rfl (.buildSlice (us := []) Tsl_22 (by decide) (by decide) rfl rfl fun b1 => ?_)
 refine .m ?_
 refine .done ?_
 refine .seq ?_
 refine .block ?_
 refine Run.loop (ι := Nat × Int × Int × List G3 × Value) ([6, 7, 8, 9, 11, 12, 13, 14, 15, 16, 17, 18, 19, 20, 21, 22, 23, 24, 25, 26, 27, 28, 29, 30, 31, 32, 33, 34, 35, 36, 37, 38, 39, 40, 41, 42, 43, 44, 45, 46, 47, 48, 49, 50, 51, 52, 53, 54, 55, 56] ++ [57, 58, 59, 60, 61, 62, 63, 64, 65, 66, 67, 68, 69, 70, 71, 72, 73, 74, 75, 76, 77, 78, 79, 80, 81, 82, 83, 84, 85, 86, 87, 88, 89, 90]) (fun ⟨b, p, q, out, vo⟩ => [(7, vo)]) (fun ⟨b, p, q, out, vo⟩ => [.own vo 69 3 (out.length) (ints (fl out)), .blk r 91 [.slice Al N cl, .int .i64 (((b : Nat) : Int)), vd, .int .i64 p, .int .i64 q]]) (fun ⟨b, p, q, out, vo⟩ => a ≤ b ∧ b ≤ N ∧ bkc X Y known n b (p, q) out = Z ∧ out.length ≤ 401) (fun ⟨b, p, q, out, vo⟩ => N - b) (a, c1, l1, [], .slice (some ⟨b1, 0, none⟩) 0 0) ?_ ?_ ?_ ?_
 ·exact ⟨Nat.le_refl _, haN, hZ, by simp⟩
 ·exact ⟨rfl, trivial⟩
 ·exact ((Weak.refl _).trans (Some'.weak (.takeEq (by first | rfl | simp) (.takeEq (by first | rfl | simp) (.nil _)))))
 rintro ⟨b, p, q, out, vo⟩ fr hinv
 show Run _ _ (over _ _ [(7, vo)] fr) [.own vo 69 3 (out.length) (ints (fl out)), .blk r 91 [.slice Al N cl, .int .i64 (((b : Nat) : Int)), vd, .int .i64 p, .int .i64 q]]
 try dsimp only at hinv
 refine .seq ?_
 refine .seq ?_
 refine .draws (by kernel_rfl) (by kernel_rfl) ?_
 refine .m ?_
 refine .u (.pointer (some ⟨r, 0, none⟩)) (.nilCheck rfl) ?_
 refine .u (.pointer (some ⟨r, 1, none⟩)) (.fieldAddr Tfo_91_1 rfl rfl) ?_
 refine .u (.int .i64 (((b : Nat) : Int))) (.load1 Tone_3 rfl (.b (.tail _ (.head _)))) ?_
 refine .m ?_
 refine .u (.pointer (some ⟨r, 0, none⟩)) (.nilCheck rfl) ?_
 refine .u (.pointer (some ⟨r, 0, none⟩)) (.fieldAddr Tfo_91_0 rfl rfl) ?_
 refine .u (.slice Al N cl) (.load1 Tone_85 rfl (.b (.tail _ (.head _)))) ?_
 refine .u (.int .i64 (((N : Nat) : Int))) (.len Tsl_85 rfl) ?_
 refine .w (.bool (decide ((((b : Nat) : Int)) < (((N : Nat) : Int))))) ?_
 refine .done ?_
 refine .cond (b := decide ((((b : Nat) : Int)) < (((N : Nat) : Int)))) rfl (fun h20 => ?_) (fun h20 => ?_)
 ·have p20 := h20; try simp only [bs] at p20
  have hlt : b < N := by omega
  obtain ⟨hab, hbN, hgo, hlo⟩ := hinv
  rw [bkc_eq (by omega)] at hgo
  obtain ⟨x, hx⟩ : ∃ x, (tx L b).1 = x := ⟨_, rfl⟩
  have hxl : liAt X b = x := by rw [← hX, ← tx_li, hx]
  rw [hxl] at hgo
  obtain ⟨Aq, cq, hq, _, _⟩ := (hLq b (by omega)).sl.form0
  rw [hx] at hq
  have hqcx := hcx b (by simp; omega)
  rw [hX, hxl] at hqcx
  have hnum := hqcx.num
  have hqcx := hqcx.call
  obtain ⟨bl, ol, rfl⟩ := hl.sl.opn (by omega)
  refine .skip ?_
  refine .block ?_
  refine .seq ?_
  refine .held (by kernel_rfl) ?_
  refine DW.m 0 rfl (Weak.refl _) ?_
  refine DW.t 1 rfl (Weak.refl _) (.pointer (some ⟨r, 0, none⟩)) (.nilCheck rfl) ?_
  refine DW.t 2 rfl (Weak.refl _) (.pointer (some ⟨r, 0, none⟩)) (.fieldAddr Tfo_91_0 rfl rfl) ?_
  refine DW.t 3 rfl (Weak.refl _) (.slice (some ⟨bl, ol, none⟩) N cl) (.load1 Tone_85 rfl (.b (.tail _ (.head _)))) ?_
  refine DW.m 4 rfl (Weak.refl _) ?_
  refine DW.t 5 rfl (Weak.refl _) (.pointer (some ⟨r, 0, none⟩)) (.nilCheck rfl) ?_
  refine DW.t 6 rfl (Weak.refl _) (.pointer (some ⟨r, 1, none⟩)) (.fieldAddr Tfo_91_1 rfl rfl) ?_
  refine DW.t 7 rfl (Weak.refl _) (.int .i64 (((b : Nat) : Int))) (.load1 Tone_3 rfl (.b (.tail _ (.head _)))) ?_
  refine DW.t 8 rfl (Weak.refl _) (.pointer (some ⟨bl, ol + b * 5, none⟩)) (.ix b Tsl_85) ?_
  refine DW.t 9 rfl (Weak.refl _) (.agg #[sv (x.word), .int .i64 (x.kind), sv (x.nm), .int .i64 (x.num), .slice Aq (x.qs.length) cq]) (.loadN (cs := [sv (x.word), .int .i64 (x.kind), sv (x.nm), .int .i64 (x.num), .slice Aq (x.qs.length) cq]) Tagg_95 rfl (Cells.ap (k := b * 5) hl rfl (by omega) (tls_preF (k := b) (by omega) hx hq))) ?_
  refine DW.step (i := 10) (by kernel_rfl) rfl rfl (OpStep.alloc (zs := [sv ([]), .int .i64 0, sv ([]), .int .i64 0, .slice none 0 0]) Tzero_95 fun b2 => ?_)
  refine ⟨(Some'.weak (.skip (.take (.take (.nil _))))), ?_⟩
  refine DW.step (i := 11) (by kernel_rfl) rfl rfl (OpStep.storeAll (us := [sv (x.word), .int .i64 (x.kind), sv (x.nm), .int .i64 (x.num), .slice Aq (x.qs.length) cq]) Tsize_95 rfl rfl rfl (.here _) rfl ?_)
  refine ⟨(Some'.weak (.skip (.take (.take (.nil _))))), ?_⟩
  refine DW.done (by kernel_rfl) ?_
  refine .seq ?_
  refine .sr ?_
  refine .fa Tfo_95_0 ?_
  refine .u (sv (x.word)) (.load1 Tone_9 rfl (.b (.head _))) ?_
  refine .done ?_
  refine .block ?_
  refine .sr ?_
  refine .u (.bool ((x.word) == wE)) (.eqS rfl rfl) ?_
  refine .m ?_
  refine .done ?_
  refine .cond (b := (x.word) == wE) rfl (fun h33 => ?_) (fun h33 => ?_)
  ·have p33 := h33; try simp only [bs] at p33
   rw [if_pos p33] at hgo
   refine .sr ?_
   refine .m ?_
   refine .u (.pointer (some ⟨r, 0, none⟩)) (.nilCheck rfl) ?_
   refine .fa Tfo_91_1 ?_
   refine .u (.int .i64 (((b : Nat) : Int))) (.load1 Tone_3 rfl (.b (.tail _ (.tail _ (.head _))))) ?_
   refine .u (.int .i64 ((((b : Nat) : Int)) + 1)) (.add rfl rfl rfl (by omega) (by omega)) ?_
   refine .u (.pointer (some ⟨r, 0, none⟩)) (.nilCheck rfl) ?_
   refine .fa Tfo_91_1 ?_
   refine .step rfl (.store (us := [.int .i64 ((((b : Nat) : Int)) + 1)]) Tsize_3 rfl rfl rfl (.there _ (.there _ (.here _))) (by simp only [List.length_cons, List.length_nil]; omega) ?_)
   show Run _ _ _ [.blk b2 95 [sv (x.word), .int .i64 (x.kind), sv (x.nm), .int .i64 (x.num), .slice Aq (x.qs.length) cq], .own vo 69 3 (out.length) (ints (fl out)), .blk r 91 [.slice (some ⟨bl, ol, none⟩) N cl, .int .i64 ((((b : Nat) : Int)) + 1), vd, .int .i64 p, .int .i64 q]]
   refine .dsr ?_
   refine .w vo ?_
   refine .w vo ?_
   refine .done ?_
   refine .ret ?_
   refine ⟨vo, [.own vo 69 3 (Z.1.length) (ints (fl Z.1)), .blk r 91 [.slice (some ⟨bl, ol, none⟩) N cl, .int .i64 (((Z.2.1 : Nat) : Int)), vd, .int .i64 (Z.2.2.1), .int .i64 (Z.2.2.2)]], Out.one rfl rfl, (Some'.weak (.skip (.takeEq (by first | (rw [← hgo]; done) | (rw [← hgo]; simp)) (.takeEq (by first | (rw [← hgo]; done) | (rw [← hgo]; simp)) (.nil _))))), ?_⟩
   rfl
  have p33 := h33; try simp only [bs] at p33
  rw [if_neg p33] at hgo
  refine .sr ?_
  refine .u (.bool ((x.word) == wG)) (.eqS rfl rfl) ?_
  refine .m ?_
  refine .done ?_
  refine .cond (b := (x.word) == wG) rfl (fun h43 => ?_) (fun h43 => ?_)
  ·have p43 := h43; try simp only [bs] at p43
   rw [if_pos p43] at hgo
   have hgl := gateP_len n x.kind x.qs ((b : Nat) : Int) (p, q)
   refine .region ?_
   refine .w vo ?_
   refine .m ?_
   refine .u (.agg #[sv (x.word), .int .i64 (x.kind), sv (x.nm), .int .i64 (x.num), .slice Aq (x.qs.length) cq]) (.loadN (cs := [sv (x.word), .int .i64 (x.kind), sv (x.nm), .int .i64 (x.num), .slice Aq (x.qs.length) cq]) Tagg_95 rfl (Cells.blk (.head _) ⟨rfl, rfl, rfl, rfl, rfl, trivial⟩)) ?_
   refine .m ?_
   refine .step rfl (.callM (H1 := [.blk r 91 [.slice (some ⟨bl, ol, none⟩) N cl, .int .i64 (((b : Nat) : Int)), vd, .int .i64 p, .int .i64 q]]) (H2 := [.blk b2 95 [sv (x.word), .int .i64 (x.kind), sv (x.nm), .int .i64 (x.num), .slice Aq (x.qs.length) cq], .own vo 69 3 (out.length) (ints (fl out))]) (vs := [.pointer (some ⟨r, 0, none⟩), .agg #[sv (x.word), .int .i64 (x.kind), sv (x.nm), .int .i64 (x.num), .slice Aq (x.qs.length) cq], .int .i64 n]) (caps := []) Tcall_108 rfl rfl (Weak.selF [2]) (fun w hs => tgate_spec hn (by omega) (by rw [← hq]; have h := Ap.ap (hLq b (by omega)) hs; rw [hx] at h; exact h) (hs.holds _ (.head _))) ?_)
   rintro v1 _ rfl
   show Run _ _ (putF _ _ _ v1) [.own v1 69 3 ((gateP n x.kind x.qs ((b : Nat) : Int) (p, q)).1.length) (ints (fl (gateP n x.kind x.qs ((b : Nat) : Int) (p, q)).1)), .blk r 91 [.slice (some ⟨bl, ol, none⟩) N cl, .int .i64 (((b : Nat) : Int)), vd, .int .i64 ((gateP n x.kind x.qs ((b : Nat) : Int) (p, q)).2.1), .int .i64 ((gateP n x.kind x.qs ((b : Nat) : Int) (p, q)).2.2)], .blk b2 95 [sv (x.word), .int .i64 (x.kind), sv (x.nm), .int .i64 (x.num), .slice Aq (x.qs.length) cq], .own vo 69 3 (out.length) (ints (fl out))]
   refine .step rfl (.append (H1 := [.own v1 69 3 ((gateP n x.kind x.qs ((b : Nat) : Int) (p, q)).1.length) (ints (fl (gateP n x.kind x.qs ((b : Nat) : Int) (p, q)).1)), .blk r 91 [.slice (some ⟨bl, ol, none⟩) N cl, .int .i64 (((b : Nat) : Int)), vd, .int .i64 ((gateP n x.kind x.qs ((b : Nat) : Int) (p, q)).2.1), .int .i64 ((gateP n x.kind x.qs ((b : Nat) : Int) (p, q)).2.2)], .blk b2 95 [sv (x.word), .int .i64 (x.kind), sv (x.nm), .int .i64 (x.num), .slice Aq (x.qs.length) cq]]) (H2 := []) (v := vo) (u := v1) (n := out.length) (m := (gateP n x.kind x.qs ((b : Nat) : Int) (p, q)).1.length) (xs := ints (fl out)) (ys := ints (fl (gateP n x.kind x.qs ((b : Nat) : Int) (p, q)).1)) Tsl_22 (by decide) rfl rfl rfl rfl (fun w hs => hs.slOwn (.head _)) (by exact ints_all _) (by omega) (by simp only [maxLen]; omega) fun av1 hnav1 => ?_)
   refine Run.weak (H' := [.own v1 69 3 ((gateP n x.kind x.qs ((b : Nat) : Int) (p, q)).1.length) (ints (fl (gateP n x.kind x.qs ((b : Nat) : Int) (p, q)).1)), .blk r 91 [.slice (some ⟨bl, ol, none⟩) N cl, .int .i64 (((b : Nat) : Int)), vd, .int .i64 ((gateP n x.kind x.qs ((b : Nat) : Int) (p, q)).2.1), .int .i64 ((gateP n x.kind x.qs ((b : Nat) : Int) (p, q)).2.2)], .blk b2 95 [sv (x.word), .int .i64 (x.kind), sv (x.nm), .int .i64 (x.num), .slice Aq (x.qs.length) cq], .own av1 69 3 ((out ++ ((gateP n x.kind x.qs ((b : Nat) : Int) (p, q)).1)).length) (ints (fl (out ++ ((gateP n x.kind x.qs ((b : Nat) : Int) (p, q)).1))))]) (Some'.weak (.take (.take (.take (.takeEq (by rw [List.length_append, fl_append, ints_append]) (.nil _)))))) ?_ ⟨_, _, rfl, fun _ => nofun, fun _ => nofun⟩
   refine .w av1 ?_
   refine .done ?_
   refine .blockEnd ?_
   refine .sr ?_
   refine .w av1 ?_
   refine .step rfl (.callM (H1 := [.own av1 69 3 ((out ++ ((gateP n x.kind x.qs ((b : Nat) : Int) (p, q)).1)).length) (ints (fl (out ++ ((gateP n x.kind x.qs ((b : Nat) : Int) (p, q)).1))))]) (H2 := [.own v1 69 3 ((gateP n x.kind x.qs ((b : Nat) : Int) (p, q)).1.length) (ints (fl (gateP n x.kind x.qs ((b : Nat) : Int) (p, q)).1)), .blk r 91 [.slice (some ⟨bl, ol, none⟩) N cl, .int .i64 (((b : Nat) : Int)), vd, .int .i64 ((gateP n x.kind x.qs ((b : Nat) : Int) (p, q)).2.1), .int .i64 ((gateP n x.kind x.qs ((b : Nat) : Int) (p, q)).2.2)], .blk b2 95 [sv (x.word), .int .i64 (x.kind), sv (x.nm), .int .i64 (x.num), .slice Aq (x.qs.length) cq]]) (vs := [av1]) (caps := []) Tcall_110 rfl rfl (Weak.selF [3]) (fun w hs => tooMany_spec rfl (hs.holds _ (.head _))) ?_)
   rintro tv1 _ rfl
   show Run _ _ (putF _ _ _ tv1) [.own tv1 69 3 ((trim ((out ++ ((gateP n x.kind x.qs ((b : Nat) : Int) (p, q)).1)))).length) (ints (fl (trim ((out ++ ((gateP n x.kind x.qs ((b : Nat) : Int) (p, q)).1)))))), .own v1 69 3 ((gateP n x.kind x.qs ((b : Nat) : Int) (p, q)).1.length) (ints (fl (gateP n x.kind x.qs ((b : Nat) : Int) (p, q)).1)), .blk r 91 [.slice (some ⟨bl, ol, none⟩) N cl, .int .i64 (((b : Nat) : Int)), vd, .int .i64 ((gateP n x.kind x.qs ((b : Nat) : Int) (p, q)).2.1), .int .i64 ((gateP n x.kind x.qs ((b : Nat) : Int) (p, q)).2.2)], .blk b2 95 [sv (x.word), .int .i64 (x.kind), sv (x.nm), .int .i64 (x.num), .slice Aq (x.qs.length) cq]]
   refine .w tv1 ?_
   refine .dr ?_
   refine .m ?_
   refine .u (.pointer (some ⟨r, 0, none⟩)) (.nilCheck rfl) ?_
   refine .fa Tfo_91_1 ?_
   refine .u (.int .i64 (((b : Nat) : Int))) (.load1 Tone_3 rfl (.b (.tail _ (.tail _ (.head _))))) ?_
   refine .u (.int .i64 ((((b : Nat) : Int)) + 1)) (.add rfl rfl rfl (by omega) (by omega)) ?_
   refine .u (.pointer (some ⟨r, 0, none⟩)) (.nilCheck rfl) ?_
   refine .fa Tfo_91_1 ?_
   refine .step rfl (.store (us := [.int .i64 ((((b : Nat) : Int)) + 1)]) Tsize_3 rfl rfl rfl (.there _ (.there _ (.here _))) (by simp only [List.length_cons, List.length_nil]; omega) ?_)
   show Run _ _ _ [.own tv1 69 3 ((trim ((out ++ ((gateP n x.kind x.qs ((b : Nat) : Int) (p, q)).1)))).length) (ints (fl (trim ((out ++ ((gateP n x.kind x.qs ((b : Nat) : Int) (p, q)).1)))))), .own v1 69 3 ((gateP n x.kind x.qs ((b : Nat) : Int) (p, q)).1.length) (ints (fl (gateP n x.kind x.qs ((b : Nat) : Int) (p, q)).1)), .blk r 91 [.slice (some ⟨bl, ol, none⟩) N cl, .int .i64 ((((b : Nat) : Int)) + 1), vd, .int .i64 ((gateP n x.kind x.qs ((b : Nat) : Int) (p, q)).2.1), .int .i64 ((gateP n x.kind x.qs ((b : Nat) : Int) (p, q)).2.2)], .blk b2 95 [sv (x.word), .int .i64 (x.kind), sv (x.nm), .int .i64 (x.num), .slice Aq (x.qs.length) cq]]
   refine .done ?_
   refine .blockEnd ?_
   refine .goal ⟨(by repeat (first | exact Same.refl _ _ | refine Same.put rfl ?_ | refine Same.over rfl rfl ?_)), (b + 1, (gateP n x.kind x.qs ((b : Nat) : Int) (p, q)).2.1, (gateP n x.kind x.qs ((b : Nat) : Int) (p, q)).2.2, (trim ((out ++ ((gateP n x.kind x.qs ((b : Nat) : Int) (p, q)).1)))), tv1), ?_, ?_, ?_, ?_⟩
   ·exact ⟨by first | omega | (have := bkc_le X Y known n (b + 1) (p, q) []; omega), by first | omega | exact hsN, by first | exact hgo | exact hgo3, by first | exact trim_len _ | exact hlo | exact hinv.2.2⟩
   ·have := bkc_le X Y known n (b + 1) (p, q) []
    show N - _ < N - b; omega
   ·exact ⟨(by first | rfl | (congr 1; omega) | simp), trivial⟩
   ·exact ((Weak.selF [0, 1]).trans (Some'.weak (.takeEq (by first | rfl | simp) (.takeEq (by first | rfl | simp) (.nil _)))))
  have p43 := h43; try simp only [bs] at p43
  rw [if_neg p43] at hgo
  refine .sr ?_
  refine .u (.bool ((x.word) == wC)) (.eqS rfl rfl) ?_
  refine .m ?_
  refine .done ?_
  refine .cond (b := (x.word) == wC) rfl (fun h51 => ?_) (fun h51 => ?_)
  ·have p51 := h51; try simp only [bs] at p51
   rw [if_pos p51] at hgo
   have hqc := hqcx p51
   have hgl := callP_len (n := n) (nm := x.nm) (q := x.qs) (a := ((b : Nat) : Int)) (p := (p, q)) hYl hkY
   refine .region ?_
   refine .w vo ?_
   refine .m ?_
   refine .u (.agg #[sv (x.word), .int .i64 (x.kind), sv (x.nm), .int .i64 (x.num), .slice Aq (x.qs.length) cq]) (.loadN (cs := [sv (x.word), .int .i64 (x.kind), sv (x.nm), .int .i64 (x.num), .slice Aq (x.qs.length) cq]) Tagg_95 rfl (Cells.blk (.head _) ⟨rfl, rfl, rfl, rfl, rfl, trivial⟩)) ?_
   iterate 2 refine .m ?_
   refine .step rfl (.callM (H1 := [.blk r 91 [.slice (some ⟨bl, ol, none⟩) N cl, .int .i64 (((b : Nat) : Int)), vd, .int .i64 p, .int .i64 q]]) (H2 := [.blk b2 95 [sv (x.word), .int .i64 (x.kind), sv (x.nm), .int .i64 (x.num), .slice Aq (x.qs.length) cq], .own vo 69 3 (out.length) (ints (fl out))]) (vs := [.pointer (some ⟨r, 0, none⟩), .agg #[sv (x.word), .int .i64 (x.kind), sv (x.nm), .int .i64 (x.num), .slice Aq (x.qs.length) cq], .int .i64 n, .int .i64 (((known : Nat) : Int))]) (caps := []) Tcall_109 rfl rfl (Weak.selF [2]) (fun w hs => (by have h := tcall_spec (n := n) (k := x.kind) (num := x.num) (w0 := x.word) (nm := x.nm) (show 0 ≤ ((b : Nat) : Int) ∧ ((b : Nat) : Int) ≤ 16777216 by omega) (vq := .slice Aq x.qs.length cq) (by rw [← hq]; have h := Ap.ap (hLq b (by omega)) hs; rw [hx] at h; exact h) hqc (Ap.ap hd hs) (hD.ap hs) hval hD16 hk (hs.holds _ (.head _)); rw [hY] at h; exact h)) ?_)
   rintro v1 _ rfl
   show Run _ _ (putF _ _ _ v1) [.own v1 69 3 ((callP n Y known x.nm x.qs ((b : Nat) : Int) (p, q)).1.length) (ints (fl (callP n Y known x.nm x.qs ((b : Nat) : Int) (p, q)).1)), .blk r 91 [.slice (some ⟨bl, ol, none⟩) N cl, .int .i64 (((b : Nat) : Int)), vd, .int .i64 ((callP n Y known x.nm x.qs ((b : Nat) : Int) (p, q)).2.1), .int .i64 ((callP n Y known x.nm x.qs ((b : Nat) : Int) (p, q)).2.2)], .blk b2 95 [sv (x.word), .int .i64 (x.kind), sv (x.nm), .int .i64 (x.num), .slice Aq (x.qs.length) cq], .own vo 69 3 (out.length) (ints (fl out))]
   refine .step rfl (.append (H1 := [.own v1 69 3 ((callP n Y known x.nm x.qs ((b : Nat) : Int) (p, q)).1.length) (ints (fl (callP n Y known x.nm x.qs ((b : Nat) : Int) (p, q)).1)), .blk r 91 [.slice (some ⟨bl, ol, none⟩) N cl, .int .i64 (((b : Nat) : Int)), vd, .int .i64 ((callP n Y known x.nm x.qs ((b : Nat) : Int) (p, q)).2.1), .int .i64 ((callP n Y known x.nm x.qs ((b : Nat) : Int) (p, q)).2.2)], .blk b2 95 [sv (x.word), .int .i64 (x.kind), sv (x.nm), .int .i64 (x.num), .slice Aq (x.qs.length) cq]]) (H2 := []) (v := vo) (u := v1) (n := out.length) (m := (callP n Y known x.nm x.qs ((b : Nat) : Int) (p, q)).1.length) (xs := ints (fl out)) (ys := ints (fl (callP n Y known x.nm x.qs ((b : Nat) : Int) (p, q)).1)) Tsl_22 (by decide) rfl rfl rfl rfl (fun w hs => hs.slOwn (.head _)) (by exact ints_all _) (by omega) (by simp only [maxLen]; omega) fun av2 hnav2 => ?_)
   refine Run.weak (H' := [.own v1 69 3 ((callP n Y known x.nm x.qs ((b : Nat) : Int) (p, q)).1.length) (ints (fl (callP n Y known x.nm x.qs ((b : Nat) : Int) (p, q)).1)), .blk r 91 [.slice (some ⟨bl, ol, none⟩) N cl, .int .i64 (((b : Nat) : Int)), vd, .int .i64 ((callP n Y known x.nm x.qs ((b : Nat) : Int) (p, q)).2.1), .int .i64 ((callP n Y known x.nm x.qs ((b : Nat) : Int) (p, q)).2.2)], .blk b2 95 [sv (x.word), .int .i64 (x.kind), sv (x.nm), .int .i64 (x.num), .slice Aq (x.qs.length) cq], .own av2 69 3 ((out ++ ((callP n Y known x.nm x.qs ((b : Nat) : Int) (p, q)).1)).length) (ints (fl (out ++ ((callP n Y known x.nm x.qs ((b : Nat) : Int) (p, q)).1))))]) (Some'.weak (.take (.take (.take (.takeEq (by rw [List.length_append, fl_append, ints_append]) (.nil _)))))) ?_ ⟨_, _, rfl, fun _ => nofun, fun _ => nofun⟩
   refine .w av2 ?_
   refine .done ?_
   refine .blockEnd ?_
   refine .sr ?_
   refine .w av2 ?_
   refine .step rfl (.callM (H1 := [.own av2 69 3 ((out ++ ((callP n Y known x.nm x.qs ((b : Nat) : Int) (p, q)).1)).length) (ints (fl (out ++ ((callP n Y known x.nm x.qs ((b : Nat) : Int) (p, q)).1))))]) (H2 := [.own v1 69 3 ((callP n Y known x.nm x.qs ((b : Nat) : Int) (p, q)).1.length) (ints (fl (callP n Y known x.nm x.qs ((b : Nat) : Int) (p, q)).1)), .blk r 91 [.slice (some ⟨bl, ol, none⟩) N cl, .int .i64 (((b : Nat) : Int)), vd, .int .i64 ((callP n Y known x.nm x.qs ((b : Nat) : Int) (p, q)).2.1), .int .i64 ((callP n Y known x.nm x.qs ((b : Nat) : Int) (p, q)).2.2)], .blk b2 95 [sv (x.word), .int .i64 (x.kind), sv (x.nm), .int .i64 (x.num), .slice Aq (x.qs.length) cq]]) (vs := [av2]) (caps := []) Tcall_110 rfl rfl (Weak.selF [3]) (fun w hs => tooMany_spec rfl (hs.holds _ (.head _))) ?_)
   rintro tv2 _ rfl
   show Run _ _ (putF _ _ _ tv2) [.own tv2 69 3 ((trim ((out ++ ((callP n Y known x.nm x.qs ((b : Nat) : Int) (p, q)).1)))).length) (ints (fl (trim ((out ++ ((callP n Y known x.nm x.qs ((b : Nat) : Int) (p, q)).1)))))), .own v1 69 3 ((callP n Y known x.nm x.qs ((b : Nat) : Int) (p, q)).1.length) (ints (fl (callP n Y known x.nm x.qs ((b : Nat) : Int) (p, q)).1)), .blk r 91 [.slice (some ⟨bl, ol, none⟩) N cl, .int .i64 (((b : Nat) : Int)), vd, .int .i64 ((callP n Y known x.nm x.qs ((b : Nat) : Int) (p, q)).2.1), .int .i64 ((callP n Y known x.nm x.qs ((b : Nat) : Int) (p, q)).2.2)], .blk b2 95 [sv (x.word), .int .i64 (x.kind), sv (x.nm), .int .i64 (x.num), .slice Aq (x.qs.length) cq]]
   refine .w tv2 ?_
   refine .dr ?_
   refine .m ?_
   refine .u (.pointer (some ⟨r, 0, none⟩)) (.nilCheck rfl) ?_
   refine .fa Tfo_91_1 ?_
   refine .u (.int .i64 (((b : Nat) : Int))) (.load1 Tone_3 rfl (.b (.tail _ (.tail _ (.head _))))) ?_
   refine .u (.int .i64 ((((b : Nat) : Int)) + 1)) (.add rfl rfl rfl (by omega) (by omega)) ?_
   refine .u (.pointer (some ⟨r, 0, none⟩)) (.nilCheck rfl) ?_
   refine .fa Tfo_91_1 ?_
   refine .step rfl (.store (us := [.int .i64 ((((b : Nat) : Int)) + 1)]) Tsize_3 rfl rfl rfl (.there _ (.there _ (.here _))) (by simp only [List.length_cons, List.length_nil]; omega) ?_)
   show Run _ _ _ [.own tv2 69 3 ((trim ((out ++ ((callP n Y known x.nm x.qs ((b : Nat) : Int) (p, q)).1)))).length) (ints (fl (trim ((out ++ ((callP n Y known x.nm x.qs ((b : Nat) : Int) (p, q)).1)))))), .own v1 69 3 ((callP n Y known x.nm x.qs ((b : Nat) : Int) (p, q)).1.length) (ints (fl (callP n Y known x.nm x.qs ((b : Nat) : Int) (p, q)).1)), .blk r 91 [.slice (some ⟨bl, ol, none⟩) N cl, .int .i64 ((((b : Nat) : Int)) + 1), vd, .int .i64 ((callP n Y known x.nm x.qs ((b : Nat) : Int) (p, q)).2.1), .int .i64 ((callP n Y known x.nm x.qs ((b : Nat) : Int) (p, q)).2.2)], .blk b2 95 [sv (x.word), .int .i64 (x.kind), sv (x.nm), .int .i64 (x.num), .slice Aq (x.qs.length) cq]]
   refine .done ?_
   refine .blockEnd ?_
   refine .goal ⟨(by repeat (first | exact Same.refl _ _ | refine Same.put rfl ?_ | refine Same.over rfl rfl ?_)), (b + 1, (callP n Y known x.nm x.qs ((b : Nat) : Int) (p, q)).2.1, (callP n Y known x.nm x.qs ((b : Nat) : Int) (p, q)).2.2, (trim ((out ++ ((callP n Y known x.nm x.qs ((b : Nat) : Int) (p, q)).1)))), tv2), ?_, ?_, ?_, ?_⟩
   ·exact ⟨by first | omega | (have := bkc_le X Y known n (b + 1) (p, q) []; omega), by first | omega | exact hsN, by first | exact hgo | exact hgo3, by first | exact trim_len _ | exact hlo | exact hinv.2.2⟩
   ·have := bkc_le X Y known n (b + 1) (p, q) []
    show N - _ < N - b; omega
   ·exact ⟨(by first | rfl | (congr 1; omega) | simp), trivial⟩
   ·exact ((Weak.selF [0, 1]).trans (Some'.weak (.takeEq (by first | rfl | simp) (.takeEq (by first | rfl | simp) (.nil _)))))
  have p51 := h51; try simp only [bs] at p51
  rw [if_neg p51] at hgo
  refine .sr ?_
  refine .u (.bool ((x.word) == wR)) (.eqS rfl rfl) ?_
  refine .m ?_
  refine .done ?_
  refine .cond (b := (x.word) == wR) rfl (fun h60 => ?_) (fun h60 => ?_)
  ·have p60 := h60; try simp only [bs] at p60
   rw [if_pos p60] at hgo
   have hpl : (bkc X Y known n (b + 1) (p, q) []).1.length ≤ 401 := bkc_len _ _ _ _ rfl (by simp)
   have hsN : (bkc X Y known n (b + 1) (p, q) []).2.1 ≤ N := by rw [← hXN]; exact bkc_ub _ _ _ _ rfl (by omega)
   refine .sr ?_
   refine .m ?_
   refine .u (.pointer (some ⟨r, 0, none⟩)) (.nilCheck rfl) ?_
   refine .fa Tfo_91_1 ?_
   refine .u (.int .i64 (((b : Nat) : Int))) (.load1 Tone_3 rfl (.b (.tail _ (.tail _ (.head _))))) ?_
   refine .u (.int .i64 ((((b : Nat) : Int)) + 1)) (.add rfl rfl rfl (by omega) (by omega)) ?_
   refine .u (.pointer (some ⟨r, 0, none⟩)) (.nilCheck rfl) ?_
   refine .fa Tfo_91_1 ?_
   refine .step rfl (.store (us := [.int .i64 ((((b : Nat) : Int)) + 1)]) Tsize_3 rfl rfl rfl (.there _ (.there _ (.here _))) (by simp only [List.length_cons, List.length_nil]; omega) ?_)
   show Run _ _ _ [.blk b2 95 [sv (x.word), .int .i64 (x.kind), sv (x.nm), .int .i64 (x.num), .slice Aq (x.qs.length) cq], .own vo 69 3 (out.length) (ints (fl out)), .blk r 91 [.slice (some ⟨bl, ol, none⟩) N cl, .int .i64 ((((b : Nat) : Int)) + 1), vd, .int .i64 p, .int .i64 q]]
   refine .dsr ?_
   iterate 3 refine .m ?_
   refine .step rfl (.callM (H1 := [.blk r 91 [.slice (some ⟨bl, ol, none⟩) N cl, .int .i64 ((((b : Nat) : Int)) + 1), vd, .int .i64 p, .int .i64 q]]) (H2 := [.blk b2 95 [sv (x.word), .int .i64 (x.kind), sv (x.nm), .int .i64 (x.num), .slice Aq (x.qs.length) cq], .own vo 69 3 (out.length) (ints (fl out))]) (vs := [.pointer (some ⟨r, 0, none⟩), .int .i64 n, .int .i64 (((known : Nat) : Int))]) (caps := []) Tcall_91 rfl rfl (Weak.selF [2]) (fun w hs => (by have h := ih (N - (b + 1)) (by omega) (known := known) (a := b + 1) rfl hn hN (Ap.ap hl hs) (hLq.ap hs) hcx (Ap.ap hd hs) (hD.ap hs) hval hD401 hk (by omega) (hs.holds _ (.head _)); rw [hX, hY] at h; exact h)) ?_)
   rintro v1 _ rfl
   show Run _ _ (putF _ _ _ v1) [.own v1 69 3 ((bkc X Y known n (b + 1) (p, q) []).1.length) (ints (fl (bkc X Y known n (b + 1) (p, q) []).1)), .blk r 91 [.slice (some ⟨bl, ol, none⟩) N cl, .int .i64 ((((bkc X Y known n (b + 1) (p, q) []).2.1 : Nat) : Int)), vd, .int .i64 ((bkc X Y known n (b + 1) (p, q) []).2.2.1), .int .i64 ((bkc X Y known n (b + 1) (p, q) []).2.2.2)], .blk b2 95 [sv (x.word), .int .i64 (x.kind), sv (x.nm), .int .i64 (x.num), .slice Aq (x.qs.length) cq], .own vo 69 3 (out.length) (ints (fl out))]
   refine .w v1 ?_
   refine .done ?_
   refine .seq ?_
   refine .sr ?_
   refine .fa Tfo_95_3 ?_
   refine .u (.int .i64 (x.num)) (.load1 Tone_3 rfl (.b (.tail _ (.tail _ (.head _))))) ?_
   refine .m ?_
   refine .done ?_
   refine .block ?_
   refine Run.loop (ι := Nat × List G3 × Value) [7, 75, 76, 77, 78, 79, 80, 81] (fun ⟨i, o2, vo2⟩ => [(7, vo2), (75, .int .i64 (((i : Nat) : Int)))]) (fun ⟨i, o2, vo2⟩ => [.own vo2 69 3 (o2.length) (ints (fl o2)), .own v1 69 3 ((bkc X Y known n (b + 1) (p, q) []).1.length) (ints (fl (bkc X Y known n (b + 1) (p, q) []).1)), .blk r 91 [.slice (some ⟨bl, ol, none⟩) N cl, .int .i64 ((((bkc X Y known n (b + 1) (p, q) []).2.1 : Nat) : Int)), vd, .int .i64 ((bkc X Y known n (b + 1) (p, q) []).2.2.1), .int .i64 ((bkc X Y known n (b + 1) (p, q) []).2.2.2)]]) (fun ⟨i, o2, vo2⟩ => i ≤ x.num.toNat ∧ repT (bkc X Y known n (b + 1) (p, q) []).1 (x.num.toNat - i) o2 = repT (bkc X Y known n (b + 1) (p, q) []).1 x.num.toNat out ∧ o2.length ≤ 401) (fun ⟨i, o2, vo2⟩ => x.num.toNat - i) (0, out, vo) ?_ ?_ ?_ ?_
   ·exact ⟨Nat.zero_le _, rfl, hlo⟩
   ·exact ⟨rfl, rfl, trivial⟩
   ·exact ((Weak.selF [3, 0, 0]).trans (Some'.weak (.takeEq (by first | rfl | simp) (.take (.take (.nil _))))))
   rintro ⟨i, o2, vo2⟩ fr hinv
   show Run _ _ (over _ _ [(7, vo2), (75, .int .i64 (((i : Nat) : Int)))] fr) [.own vo2 69 3 (o2.length) (ints (fl o2)), .own v1 69 3 ((bkc X Y known n (b + 1) (p, q) []).1.length) (ints (fl (bkc X Y known n (b + 1) (p, q) []).1)), .blk r 91 [.slice (some ⟨bl, ol, none⟩) N cl, .int .i64 ((((bkc X Y known n (b + 1) (p, q) []).2.1 : Nat) : Int)), vd, .int .i64 ((bkc X Y known n (b + 1) (p, q) []).2.2.1), .int .i64 ((bkc X Y known n (b + 1) (p, q) []).2.2.2)]]
   try dsimp only at hinv
   refine .sr ?_
   refine .w (.bool (decide ((((i : Nat) : Int)) < (x.num)))) ?_
   refine .done ?_
   refine .seq ?_
   refine .cond (b := decide ((((i : Nat) : Int)) < (x.num))) rfl (fun h76 => ?_) (fun h76 => ?_)
   ·have p76 := h76; try simp only [bs] at p76
    obtain ⟨hi1, hi2, hi3⟩ := hinv
    have hinv := And.intro hi1 (And.intro hi2 hi3)
    refine .skip ?_
    refine .seq ?_
    refine .block ?_
    refine .region ?_
    refine .w vo2 ?_
    refine .w v1 ?_
    refine .step rfl (.append (H1 := []) (H2 := [.own v1 69 3 ((bkc X Y known n (b + 1) (p, q) []).1.length) (ints (fl (bkc X Y known n (b + 1) (p, q) []).1)), .blk r 91 [.slice (some ⟨bl, ol, none⟩) N cl, .int .i64 ((((bkc X Y known n (b + 1) (p, q) []).2.1 : Nat) : Int)), vd, .int .i64 ((bkc X Y known n (b + 1) (p, q) []).2.2.1), .int .i64 ((bkc X Y known n (b + 1) (p, q) []).2.2.2)]]) (v := vo2) (u := v1) (n := o2.length) (m := (bkc X Y known n (b + 1) (p, q) []).1.length) (xs := ints (fl o2)) (ys := ints (fl (bkc X Y known n (b + 1) (p, q) []).1)) Tsl_22 (by decide) rfl rfl rfl rfl (fun w hs => hs.slOwn (.tail _ (.head _))) (by exact ints_all _) (by omega) (by simp only [maxLen]; omega) fun av3 hnav3 => ?_)
    refine Run.weak (H' := [.own av3 69 3 ((o2 ++ ((bkc X Y known n (b + 1) (p, q) []).1)).length) (ints (fl (o2 ++ ((bkc X Y known n (b + 1) (p, q) []).1)))), .own v1 69 3 ((bkc X Y known n (b + 1) (p, q) []).1.length) (ints (fl (bkc X Y known n (b + 1) (p, q) []).1)), .blk r 91 [.slice (some ⟨bl, ol, none⟩) N cl, .int .i64 ((((bkc X Y known n (b + 1) (p, q) []).2.1 : Nat) : Int)), vd, .int .i64 ((bkc X Y known n (b + 1) (p, q) []).2.2.1), .int .i64 ((bkc X Y known n (b + 1) (p, q) []).2.2.2)]]) (Some'.weak (.takeEq (by rw [List.length_append, fl_append, ints_append]) (.take (.take (.nil _))))) ?_ ⟨_, _, rfl, fun _ => nofun, fun _ => nofun⟩
    refine .step rfl (.callM (H1 := [.own av3 69 3 ((o2 ++ ((bkc X Y known n (b + 1) (p, q) []).1)).length) (ints (fl (o2 ++ ((bkc X Y known n (b + 1) (p, q) []).1))))]) (H2 := [.own v1 69 3 ((bkc X Y known n (b + 1) (p, q) []).1.length) (ints (fl (bkc X Y known n (b + 1) (p, q) []).1)), .blk r 91 [.slice (some ⟨bl, ol, none⟩) N cl, .int .i64 ((((bkc X Y known n (b + 1) (p, q) []).2.1 : Nat) : Int)), vd, .int .i64 ((bkc X Y known n (b + 1) (p, q) []).2.2.1), .int .i64 ((bkc X Y known n (b + 1) (p, q) []).2.2.2)]]) (vs := [av3]) (caps := []) Tcall_110 rfl rfl (Weak.refl _) (fun w hs => tooMany_spec rfl (hs.holds _ (.head _))) ?_)
    rintro tv3 _ rfl
    show Run _ _ (putF _ _ _ tv3) [.own tv3 69 3 ((trim ((o2 ++ ((bkc X Y known n (b + 1) (p, q) []).1)))).length) (ints (fl (trim ((o2 ++ ((bkc X Y known n (b + 1) (p, q) []).1)))))), .own v1 69 3 ((bkc X Y known n (b + 1) (p, q) []).1.length) (ints (fl (bkc X Y known n (b + 1) (p, q) []).1)), .blk r 91 [.slice (some ⟨bl, ol, none⟩) N cl, .int .i64 ((((bkc X Y known n (b + 1) (p, q) []).2.1 : Nat) : Int)), vd, .int .i64 ((bkc X Y known n (b + 1) (p, q) []).2.2.1), .int .i64 ((bkc X Y known n (b + 1) (p, q) []).2.2.2)]]
    refine .w tv3 ?_
    refine .done ?_
    refine .blockEnd ?_
    refine .region ?_
    refine .u (.int .i64 ((((i : Nat) : Int)) + 1)) (.add rfl rfl rfl (by omega) (by omega)) ?_
    refine .m ?_
    refine .done ?_
    refine .goal ⟨(by repeat (first | exact Same.refl _ _ | refine Same.put rfl ?_ | refine Same.over rfl rfl ?_)), (i + 1, (trim ((o2 ++ ((bkc X Y known n (b + 1) (p, q) []).1)))), tv3), ?_, ?_, ?_, ?_⟩
    ·refine ⟨by omega, ?_, trim_len _⟩
     have h := hinv.2.1
     rw [show x.num.toNat - i = (x.num.toNat - (i + 1)) + 1 by omega, repT] at h
     exact h
    ·show x.num.toNat - (i + 1) < x.num.toNat - i; omega
    ·exact ⟨(by first | rfl | (congr 1; omega) | simp), (by first | rfl | (congr 1; omega) | simp), trivial⟩
    ·exact ((Weak.refl _).trans (Some'.weak (.takeEq (by first | rfl | simp) (.takeEq (by first | rfl | simp) (.take (.nil _))))))
   have p76 := h76; try simp only [bs] at p76
   obtain ⟨hi1, hi2, hi3⟩ := hinv
   have hinv := And.intro hi1 (And.intro hi2 hi3)
   have hix : x.num.toNat - i = 0 := by omega
   rw [hix, repT] at hi2
   have hgo3 := hgo
   rw [← hi2] at hgo3
   refine .exit rfl ?_
   refine .exit rfl ?_
   refine .goal ⟨(by repeat (first | exact Same.refl _ _ | refine Same.put rfl ?_ | refine Same.over rfl rfl ?_)), ((bkc X Y known n (b + 1) (p, q) []).2.1, (bkc X Y known n (b + 1) (p, q) []).2.2.1, (bkc X Y known n (b + 1) (p, q) []).2.2.2, o2, vo2), ?_, ?_, ?_, ?_⟩
   ·exact ⟨by first | omega | (have := bkc_le X Y known n (b + 1) (p, q) []; omega), by first | omega | exact hsN, by first | exact hgo | exact hgo3, by first | exact trim_len _ | exact hlo | exact hinv.2.2⟩
   ·have := bkc_le X Y known n (b + 1) (p, q) []
    show N - _ < N - b; omega
   ·exact ⟨(by first | rfl | (congr 1; omega) | simp), trivial⟩
   ·exact ((Weak.selF [0, 1]).trans (Some'.weak (.takeEq (by first | rfl | simp) (.takeEq (by first | rfl | simp) (.nil _)))))
  have p60 := h60; try simp only [bs] at p60
  rw [if_neg p60] at hgo
  refine .skip ?_
  refine .blockEnd ?_
  refine .sr ?_
  refine .w vo ?_
  refine .step rfl (.callM (H1 := [.own vo 69 3 (out.length) (ints (fl out))]) (H2 := [.blk b2 95 [sv (x.word), .int .i64 (x.kind), sv (x.nm), .int .i64 (x.num), .slice Aq (x.qs.length) cq], .blk r 91 [.slice (some ⟨bl, ol, none⟩) N cl, .int .i64 (((b : Nat) : Int)), vd, .int .i64 p, .int .i64 q]]) (vs := [vo]) (caps := []) Tcall_110 rfl rfl (Weak.selF [1]) (fun w hs => tooMany_spec rfl (hs.holds _ (.head _))) ?_)
  rintro tv4 _ rfl
  show Run _ _ (putF _ _ _ tv4) [.own tv4 69 3 ((trim out).length) (ints (fl (trim out))), .blk b2 95 [sv (x.word), .int .i64 (x.kind), sv (x.nm), .int .i64 (x.num), .slice Aq (x.qs.length) cq], .blk r 91 [.slice (some ⟨bl, ol, none⟩) N cl, .int .i64 (((b : Nat) : Int)), vd, .int .i64 p, .int .i64 q]]
  refine .w tv4 ?_
  refine .dr ?_
  refine .m ?_
  refine .u (.pointer (some ⟨r, 0, none⟩)) (.nilCheck rfl) ?_
  refine .fa Tfo_91_1 ?_
  refine .u (.int .i64 (((b : Nat) : Int))) (.load1 Tone_3 rfl (.b (.tail _ (.tail _ (.head _))))) ?_
  refine .u (.int .i64 ((((b : Nat) : Int)) + 1)) (.add rfl rfl rfl (by omega) (by omega)) ?_
  refine .u (.pointer (some ⟨r, 0, none⟩)) (.nilCheck rfl) ?_
  refine .fa Tfo_91_1 ?_
  refine .step rfl (.store (us := [.int .i64 ((((b : Nat) : Int)) + 1)]) Tsize_3 rfl rfl rfl (.there _ (.there _ (.here _))) (by simp only [List.length_cons, List.length_nil]; omega) ?_)
  show Run _ _ _ [.own tv4 69 3 ((trim out).length) (ints (fl (trim out))), .blk b2 95 [sv (x.word), .int .i64 (x.kind), sv (x.nm), .int .i64 (x.num), .slice Aq (x.qs.length) cq], .blk r 91 [.slice (some ⟨bl, ol, none⟩) N cl, .int .i64 ((((b : Nat) : Int)) + 1), vd, .int .i64 p, .int .i64 q]]
  refine .done ?_
  refine .blockEnd ?_
  refine .goal ⟨(by repeat (first | exact Same.refl _ _ | refine Same.put rfl ?_ | refine Same.over rfl rfl ?_)), (b + 1, p, q, (trim out), tv4), ?_, ?_, ?_, ?_⟩
  ·exact ⟨by first | omega | (have := bkc_le X Y known n (b + 1) (p, q) []; omega), by first | omega | exact hsN, by first | exact hgo | exact hgo3, by first | exact trim_len _ | exact hlo | exact hinv.2.2⟩
  ·have := bkc_le X Y known n (b + 1) (p, q) []
   show N - _ < N - b; omega
  ·exact ⟨(by first | rfl | (congr 1; omega) | simp), trivial⟩
  ·exact ((Weak.selF [0, 1]).trans (Some'.weak (.takeEq (by first | rfl | simp) (.takeEq (by first | rfl | simp) (.nil _)))))
 have p20 := h20; try simp only [bs] at p20
 obtain ⟨hab, hbN, hgo, hlo⟩ := hinv
 rw [bkc_end (by omega)] at hgo
 refine .exit rfl ?_
 refine .sr ?_
 refine .w vo ?_
 refine .w vo ?_
 refine .done ?_
 refine .ret ?_
 refine ⟨vo, [.own vo 69 3 (Z.1.length) (ints (fl Z.1)), .blk r 91 [.slice Al N cl, .int .i64 (((Z.2.1 : Nat) : Int)), vd, .int .i64 (Z.2.2.1), .int .i64 (Z.2.2.2)]], Out.one rfl rfl, (Some'.weak (.takeEq (by first | (rw [← hgo]; done) | (rw [← hgo]; simp)) (.takeEq (by first | (rw [← hgo]; done) | (rw [← hgo]; simp)) (.nil _)))), ?_⟩
 rfl


theorem blkStmt_all (d : Nat) : BlkStmt d := by
  induction d using Nat.strongRecOn with
  | _ d ih =>
    intro r vl vd a N dn known n c1 l1 L D w hd0 hn hN hl hLq hcx hd hD hval hD401 hk haN h
    exact block_step d ih hd0 hn hN hl hLq hcx hd hD hval hD401 hk haN h

end Go.Proofs.YtgpkpopbajkklaaGreatDoor
