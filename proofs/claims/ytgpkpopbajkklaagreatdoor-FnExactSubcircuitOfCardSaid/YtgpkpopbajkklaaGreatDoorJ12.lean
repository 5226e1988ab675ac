/- Walks: the reference looks for faults of names and of gates. -/
import Derived.Test.YtgpkpopbajkklaaGreatDoorJ11
import Derived.Test.YtgpkpopbajkklaaGreatDoorProg
set_option linter.unusedSimpArgs false
set_option linter.unusedVariables false
namespace Go.Proofs.YtgpkpopbajkklaaGreatDoor
open Go Go.RowKit
namespace TxrT
theorem Tagg_50 : aggOf Tryz.prog 50 = some 4 := by kernel_rfl
theorem Tagg_69 : aggOf Tryz.prog 69 = some 3 := by kernel_rfl
theorem Tagg_77 : aggOf Tryz.prog 77 = some 7 := by kernel_rfl
theorem Tcall_69 : callable Tryz.prog 69 = true := by kernel_rfl
theorem Tcall_77 : callable Tryz.prog 77 = true := by kernel_rfl
theorem Tcall_84 : callable Tryz.prog 84 = true := by kernel_rfl
theorem Tcall_85 : callable Tryz.prog 85 = true := by kernel_rfl
theorem Tfo_50_0 : fieldOff Tryz.prog 50 0 = some 0 := by kernel_rfl
theorem Tfo_50_1 : fieldOff Tryz.prog 50 1 = some 1 := by kernel_rfl
theorem Tfo_50_2 : fieldOff Tryz.prog 50 2 = some 2 := by kernel_rfl
theorem Tfo_54_0 : fieldOff Tryz.prog 54 0 = some 0 := by kernel_rfl
theorem Tfo_77_0 : fieldOff Tryz.prog 77 0 = some 0 := by kernel_rfl
theorem Tfo_77_1 : fieldOff Tryz.prog 77 1 = some 1 := by kernel_rfl
theorem Tfo_77_3 : fieldOff Tryz.prog 77 3 = some 5 := by kernel_rfl
theorem Tfo_77_4 : fieldOff Tryz.prog 77 4 = some 6 := by kernel_rfl
theorem Tone_3 : oneOf Tryz.prog 3 = true := by kernel_rfl
theorem Tone_51 : oneOf Tryz.prog 51 = true := by kernel_rfl
theorem Tone_75 : oneOf Tryz.prog 75 = true := by kernel_rfl
theorem Tone_9 : oneOf Tryz.prog 9 = true := by kernel_rfl
theorem Tsize_50 : (Tryz.prog.info? 50).map (·.size) = some 4 := by kernel_rfl
theorem Tsize_77 : (Tryz.prog.info? 77).map (·.size) = some 7 := by kernel_rfl
theorem Tsl_46 : sliceOf Tryz.prog 46 = some (50, 4, 40, [sv ([]), .int .i64 0, .int .i64 0, .int .i64 0]) := by kernel_rfl
theorem Tsl_51 : sliceOf Tryz.prog 51 = some (77, 7, 88, [sv ([]), .int .i64 0, .int .i64 0, .int .i64 0, .int .i64 0, sv ([]), .slice none 0 0]) := by kernel_rfl
theorem Tsl_75 : sliceOf Tryz.prog 75 = some (3, 1, 8, [.int .i64 0]) := by kernel_rfl
theorem Tzero_50 : zeroOf Tryz.prog 50 = some [sv ([]), .int .i64 0, .int .i64 0, .int .i64 0] := by kernel_rfl
theorem Tzero_77 : zeroOf Tryz.prog 77 = some [sv ([]), .int .i64 0, .int .i64 0, .int .i64 0, .int .i64 0, sv ([]), .slice none 0 0] := by kernel_rfl
end TxrT
open TxrT
/-- A line whose name is at fault: a definition's that was there, a call's that is not. -/
def dupN (T : List Dn) (nm : Bs) (i : Int) (k : Nat) : Bool := (dnx T k).nm == nm && decide ((dnx T k).a ≤ i)
def evN (T : List Dn) (x : Li) (i : Int) : Bool := ((x.word == wD) && anyI (dupN T x.nm i) T.length) || ((x.word == wC) && decide (finR T x.nm i < 0))
def namR (T : List Dn) (X : List Li) : Int := findI (fun i => evN T (liAt X i) ((i : Nat) : Int)) X.length + 1
/-- A line whose gate or call is at fault. -/
def badR (N : Int) (q : List Int) (k : Nat) : Bool := decide (N ≤ ix q k) || hasI q (ix q k) k
def evG (T : List Dn) (X : List Li) (x : Li) (i : Int) : Bool := ((x.word == wG) && !gateOk (widR T X i) x.g3.1 x.g3.2.1 x.g3.2.2) || ((x.word == wC) && (decide (((x.ar.length : Nat) : Int) ≠ (dnx T (finR T x.nm i).toNat).n) || anyI (badR (widR T X i) x.ar) x.ar.length))
def gatR (T : List Dn) (X : List Li) : Int := findI (fun i => evG T X (liAt X i) ((i : Nat) : Int)) X.length + 1
theorem finR_lt {T : List Dn} {nm : Bs} {i : Int} : finR T nm i < (T.length : Int) := (findI_lt).2
/-- What is known of definitions and calls before gates are looked at. -/
def WidOk (T : List Dn) (X : List Li) : Prop := ∀ i : Nat, i < X.length → 1 ≤ widR T X ((i : Nat) : Int) ∧ widR T X ((i : Nat) : Int) ≤ 5
def FinOk (T : List Dn) (X : List Li) : Prop := ∀ i : Nat, i < X.length → (liAt X i).word = wC → 0 ≤ finR T (liAt X i).nm ((i : Nat) : Int)

set_option maxHeartbeats 8000000 in
set_option maxRecDepth 20000 in
theorem names_spec {r n m : Nat} {va vd vt : Value} {L : List LV} {T : List Dn} {w : World} (hr : Sl w (.slice (some ⟨r, 0, none⟩) 1 1) 2 1 [va, vd]) (ha : Sl w va 7 n (rls L)) (hA : RQ w L) (hd : Sl w vt 4 m (dns T)) (h1 : 1 ≤ n) (hn16 : n ≤ 16777216) : Calls Tryz.prog 53 #[.pointer (some ⟨r, 0, none⟩), vt] w (Post No w fun v _ => v = .int .i64 (namR T (L.map (·.1)))) := by
 have hLn : L.length = n := by have := ha.1; simp at this; omega
 have hn := ha.le
 obtain ⟨A, c, rfl, hnc, _⟩ := ha.form0
 obtain ⟨X, hX⟩ : ∃ X, L.map (·.1) = X := ⟨_, rfl⟩
 have hXl : X.length = n := by rw [← hX, List.length_map]; exact hLn
 obtain ⟨bl, ol, rfl⟩ := ha.opn h1
 rw [hX]
 have hTm : T.length = m := by have := hd.1; simp at this; omega
 have hm := hd.le
 obtain ⟨Ad, cd, rfl, hmc, _⟩ := hd.form0
 refine enter (n := 56) (args := [.pointer (some ⟨r, 0, none⟩), .slice Ad m cd]) Tryz.func53 rfl rfl (St.empty _ _) ?_
 refine Run.sr ?_
 refine Run.p (.int .i64 0) rfl rfl ?_
 refine Run.done ?_
 refine Run.seq ?_
 refine Run.sr ?_
 refine Run.p (.pointer (some ⟨r, 0, none⟩)) rfl rfl ?_
 refine Run.y (.pointer (some ⟨r, 0, none⟩)) rfl (OpY.nilCheck rfl) ?_
 refine Run.y (.pointer (some ⟨r, 0, none⟩)) rfl (OpY.fieldAddr Tfo_54_0 rfl rfl) ?_
 refine Run.y (.slice (some ⟨bl, ol, none⟩) n c) rfl (OpY.load1 Tone_51 rfl (Cells.env (k := 0) hr rfl (by decide) ⟨rfl, trivial⟩)) ?_
 refine Run.y (.int .i64 (((n : Nat) : Int))) rfl (OpY.len Tsl_51 rfl) ?_
 refine Run.p (.int .i64 0) rfl rfl ?_
 refine Run.done ?_
 refine Run.block ?_
 refine Run.loop (ι := Nat) [4, 5, 6, 8, 14, 15, 16, 17, 18, 19, 20, 21, 22, 23, 24, 25, 26, 27, 28, 29, 30, 31, 32, 33, 34, 35, 36, 37, 38, 39, 40, 41, 42, 43, 44, 45, 46, 47, 48, 49, 50, 51, 52, 53, 54, 55] (fun k => [(14, .int .i64 (((k : Nat) : Int)))]) (fun k => []) (fun k => k ≤ n ∧ ∀ i, i < k → evN T (liAt X i) ((i : Nat) : Int) = false) (fun k => n - k) 0 ?_ ?_ ?_ ?_
 ·exact ⟨Nat.zero_le _, fun i hi => by omega⟩
 ·exact ⟨rfl, trivial⟩
 ·exact (Some'.weak (.nil _))
 ·rintro k fr hinv
  show Run _ _ (over _ _ [(14, .int .i64 (((k : Nat) : Int)))] fr) []
  try dsimp only at hinv
  refine Run.sr ?_
  refine Run.p (.bool (decide ((((k : Nat) : Int)) < (((n : Nat) : Int))))) rfl rfl ?_
  refine Run.done ?_
  refine Run.seq ?_
  refine Run.cond (b := decide ((((k : Nat) : Int)) < (((n : Nat) : Int)))) rfl (fun h15 => ?_) (fun h15 => ?_)
  ·have p15 := h15; try simp only [bs] at p15
   have hltk : k < n := by omega
   obtain ⟨hk, hall⟩ := hinv
   obtain ⟨x, hx⟩ : ∃ x, (tx L k).1 = x := ⟨_, rfl⟩
   obtain ⟨Aq, cq, hq, hqc, _⟩ := (hA k (by omega)).form0
   rw [hx] at hq hqc
   have hxX : liAt X k = x := by rw [← hX, ← tx_li, hx]
   refine Run.skip ?_
   refine Run.seq ?_
   refine Run.block ?_
   refine Run.sr ?_
   refine Run.p (.int .i64 (((k : Nat) : Int))) rfl rfl ?_
   refine Run.y (.pointer (some ⟨bl, ol + k * 7, none⟩)) rfl (OpY.index (kk := k) Tsl_51 rfl rfl (by omega) (by omega) (by first | rfl | omega)) ?_
   refine Run.y (.agg #[sv (x.word), .int .i64 (x.g3.1), .int .i64 (x.g3.2.1), .int .i64 (x.g3.2.2), .int .i64 (x.num), sv (x.nm), .slice Aq (x.ar.length) cq]) rfl (OpY.loadN (cs := [sv (x.word), .int .i64 (x.g3.1), .int .i64 (x.g3.2.1), .int .i64 (x.g3.2.2), .int .i64 (x.num), sv (x.nm), .slice Aq (x.ar.length) cq]) Tagg_77 rfl (Cells.arg (k := k * 7) ha rfl (by omega) (rls_preF (k := k) (by omega) hx hq))) ?_
   refine Run.step rfl (OpStep.alloc (zs := [sv ([]), .int .i64 0, .int .i64 0, .int .i64 0, .int .i64 0, sv ([]), .slice none 0 0]) Tzero_77 fun b1 => ?_)
   refine Run.p (.int .i64 (((k : Nat) : Int))) rfl rfl ?_
   refine Run.step rfl (OpStep.storeAll (us := [sv (x.word), .int .i64 (x.g3.1), .int .i64 (x.g3.2.1), .int .i64 (x.g3.2.2), .int .i64 (x.num), sv (x.nm), .slice Aq (x.ar.length) cq]) Tsize_77 rfl rfl rfl (.here _) rfl ?_)
   refine Run.done ?_
   refine Run.seq ?_
   refine Run.sr ?_
   refine Run.y (.pointer (some ⟨b1, 0, none⟩)) rfl (OpY.fieldAddr Tfo_77_0 rfl rfl) ?_
   refine Run.y (sv (x.word)) rfl (OpY.load1 Tone_9 rfl (Cells.blk (.head _) ⟨rfl, trivial⟩)) ?_
   refine Run.y (.bool ((x.word) == wD)) rfl (OpY.eqS rfl rfl) ?_
   refine Run.done ?_
   refine Run.cond (b := (x.word) == wD) rfl (fun h21 => ?_) (fun h21 => ?_)
   ·have p21 := h21; try simp only [bs] at p21
    refine Run.sr ?_
    refine Run.p (.slice Ad m cd) rfl rfl ?_
    refine Run.y (.int .i64 (((m : Nat) : Int))) rfl (OpY.len Tsl_46 rfl) ?_
    refine Run.p (.int .i64 0) rfl rfl ?_
    refine Run.done ?_
    refine Run.block ?_
    refine Run.loop (ι := Nat) [4, 8, 24, 25, 26, 27, 28, 29, 30, 31, 32, 33, 34, 35, 36, 37, 38, 39, 40, 41] (fun j => [(24, .int .i64 (((j : Nat) : Int)))]) (fun j => [.blk b1 77 [sv (x.word), .int .i64 (x.g3.1), .int .i64 (x.g3.2.1), .int .i64 (x.g3.2.2), .int .i64 (x.num), sv (x.nm), .slice Aq (x.ar.length) cq]]) (fun j => j ≤ m ∧ ∀ i, i < j → dupN T x.nm ((k : Nat) : Int) i = false) (fun j => m - j) 0 ?_ ?_ ?_ ?_
    ·exact ⟨Nat.zero_le _, fun i hi => by omega⟩
    ·exact ⟨rfl, trivial⟩
    ·exact (Some'.weak (.take (.nil _)))
    ·rintro j fr hinv
     show Run _ _ (over _ _ [(24, .int .i64 (((j : Nat) : Int)))] fr) [.blk b1 77 [sv (x.word), .int .i64 (x.g3.1), .int .i64 (x.g3.2.1), .int .i64 (x.g3.2.2), .int .i64 (x.num), sv (x.nm), .slice Aq (x.ar.length) cq]]
     try dsimp only at hinv
     refine Run.sr ?_
     refine Run.p (.bool (decide ((((j : Nat) : Int)) < (((m : Nat) : Int))))) rfl rfl ?_
     refine Run.done ?_
     refine Run.seq ?_
     refine Run.cond (b := decide ((((j : Nat) : Int)) < (((m : Nat) : Int)))) rfl (fun h25 => ?_) (fun h25 => ?_)
     ·have p25 := h25; try simp only [bs] at p25
      have hltj : j < m := by omega
      obtain ⟨hj, halld⟩ := hinv
      obtain ⟨bd, od, rfl⟩ := hd.opn (by omega)
      refine Run.skip ?_
      refine Run.seq ?_
      refine Run.block ?_
      refine Run.sr ?_
      refine Run.y (.pointer (some ⟨bd, od + j * 4, none⟩)) rfl (OpY.index (kk := j) Tsl_46 rfl rfl (by omega) (by omega) (by first | rfl | omega)) ?_
      refine Run.y (.agg #[sv ((dnx T j).nm), .int .i64 ((dnx T j).n), .int .i64 ((dnx T j).a), .int .i64 ((dnx T j).z)]) rfl (OpY.loadN (cs := [sv ((dnx T j).nm), .int .i64 ((dnx T j).n), .int .i64 ((dnx T j).a), .int .i64 ((dnx T j).z)]) Tagg_50 rfl (Cells.arg (k := j * 4) hd rfl (by omega) (dns_pre0 (k := j) (by omega)))) ?_
      refine Run.step rfl (OpStep.alloc (zs := [sv ([]), .int .i64 0, .int .i64 0, .int .i64 0]) Tzero_50 fun b2 => ?_)
      refine Run.step rfl (OpStep.storeAll (us := [sv ((dnx T j).nm), .int .i64 ((dnx T j).n), .int .i64 ((dnx T j).a), .int .i64 ((dnx T j).z)]) Tsize_50 rfl rfl rfl (.here _) rfl ?_)
      refine Run.dsr ?_
      refine Run.y (.pointer (some ⟨b2, 0, none⟩)) rfl (OpY.fieldAddr Tfo_50_0 rfl rfl) ?_
      refine Run.y (sv ((dnx T j).nm)) rfl (OpY.load1 Tone_9 rfl (Cells.blk (.head _) ⟨rfl, trivial⟩)) ?_
      refine Run.y (.pointer (some ⟨b1, 5, none⟩)) rfl (OpY.fieldAddr Tfo_77_3 rfl rfl) ?_
      refine Run.y (sv (x.nm)) rfl (OpY.load1 Tone_9 rfl (Cells.blk (.tail _ (List.Mem.head _)) ⟨rfl, trivial⟩)) ?_
      refine Run.y (.bool (((dnx T j).nm) == (x.nm))) rfl (OpY.eqS rfl rfl) ?_
      rcases Bool.eq_false_or_eq_true (((dnx T j).nm) == (x.nm)) with h33 | h33
      ·refine Run.q (v := .bool true) rfl (OpQ.y (OpY.moveB rfl h33)) ?_
       have p33 := h33; try simp only [bs] at p33
       refine Run.y (.pointer (some ⟨b2, 2, none⟩)) rfl (OpY.fieldAddr Tfo_50_2 rfl rfl) ?_
       refine Run.y (.int .i64 ((dnx T j).a)) rfl (OpY.load1 Tone_3 rfl (Cells.blk (.head _) ⟨rfl, trivial⟩)) ?_
       refine Run.p (.int .i64 (((k : Nat) : Int))) rfl rfl ?_
       refine Run.p (.bool (decide (((dnx T j).a) ≤ (((k : Nat) : Int))))) rfl rfl ?_
       refine Run.p (.bool (decide (((dnx T j).a) ≤ (((k : Nat) : Int))))) rfl rfl ?_
       refine Run.done ?_
       refine Run.cond (b := decide (((dnx T j).a) ≤ (((k : Nat) : Int)))) rfl (fun h38 => ?_) (fun h38 => ?_)
       ·have p38 := h38; try simp only [bs] at p38
        refine Run.seq ?_
        have hev : evN T (liAt X k) ((k : Nat) : Int) = true := by rw [hxX, evN, h21, anyI_true (i := j) (by omega) (by rw [dupN, h33, Bool.true_and]; exact h38)]; rfl
        have hfin : namR T X = ((k : Nat) : Int) + 1 := by rw [namR, findI_hit hall hev (by omega)]
        refine Run.region ?_
        refine Run.p (.int .i64 (((k : Nat) : Int))) rfl rfl ?_
        refine Run.y (.int .i64 ((((k : Nat) : Int)) + 1)) rfl (OpY.add rfl rfl rfl (by omega) (by omega)) ?_
        refine Run.p (.int .i64 ((((k : Nat) : Int)) + 1)) rfl rfl ?_
        refine Run.done ?_
        refine Run.ret ?_
        refine ⟨.int .i64 ((((k : Nat) : Int)) + 1), [], Out.one rfl rfl, (Some'.weak (.nil _)), ?_⟩
        rw [hfin]
       ·have p38 := h38; try simp only [bs] at p38
        refine Run.skip ?_
        refine Run.blockEnd ?_
        have hgoodj : dupN T x.nm ((k : Nat) : Int) j = false := by rw [dupN]; first | (rw [h33, Bool.true_and]; exact h38) | (rw [h33]; rfl)
        refine Run.region ?_
        refine Run.y (.int .i64 ((((j : Nat) : Int)) + 1)) rfl (OpY.add rfl rfl rfl (by omega) (by omega)) ?_
        refine Run.p (.int .i64 ((((j : Nat) : Int)) + 1)) rfl rfl ?_
        refine Run.done ?_
        refine Run.goal ⟨(by repeat (first | exact Same.refl _ _ | refine Same.put rfl ?_ | refine Same.over rfl rfl ?_)), j + 1, ?_, ?_, ?_, ?_⟩
        ·refine ⟨by omega, ?_⟩
         intro i hi
         rcases Nat.lt_succ_iff_lt_or_eq.1 hi with h | h
         ·exact halld i h
         ·rw [h]; exact hgoodj
        ·omega
        ·exact ⟨(by first | rfl | (congr 1; omega) | simp), trivial⟩
        ·exact (Some'.weak (.skip (.take (.nil _))))
      ·refine Run.q (v := .bool false) rfl (OpQ.y (OpY.moveB rfl h33)) ?_
       have p33 := h33; try simp only [bs] at p33
       refine Run.pass rfl ?_
       refine Run.pass rfl ?_
       refine Run.pass rfl ?_
       refine Run.pass rfl ?_
       refine Run.p (.bool false) rfl rfl ?_
       refine Run.done ?_
       refine Run.cond (b := false) rfl (fun h => nomatch h) (fun _ => ?_)
       refine Run.skip ?_
       refine Run.blockEnd ?_
       have hgoodj : dupN T x.nm ((k : Nat) : Int) j = false := by rw [dupN]; first | (rw [h33, Bool.true_and]; exact h38) | (rw [h33]; rfl)
       refine Run.region ?_
       refine Run.y (.int .i64 ((((j : Nat) : Int)) + 1)) rfl (OpY.add rfl rfl rfl (by omega) (by omega)) ?_
       refine Run.p (.int .i64 ((((j : Nat) : Int)) + 1)) rfl rfl ?_
       refine Run.done ?_
       refine Run.goal ⟨(by repeat (first | exact Same.refl _ _ | refine Same.put rfl ?_ | refine Same.over rfl rfl ?_)), j + 1, ?_, ?_, ?_, ?_⟩
       ·refine ⟨by omega, ?_⟩
        intro i hi
        rcases Nat.lt_succ_iff_lt_or_eq.1 hi with h | h
        ·exact halld i h
        ·rw [h]; exact hgoodj
       ·omega
       ·exact ⟨(by first | rfl | (congr 1; omega) | simp), trivial⟩
       ·exact (Some'.weak (.skip (.take (.nil _))))
     ·have p25 := h25; try simp only [bs] at p25
      obtain ⟨hj, halld⟩ := hinv
      have hdup : ((x.word == wD) && anyI (dupN T x.nm ((k : Nat) : Int)) T.length) = false := by rw [anyI_false fun i hi => halld i (by omega), Bool.and_false]
      refine Run.exit rfl ?_
      refine Run.sr ?_
      refine Run.y (.pointer (some ⟨b1, 0, none⟩)) rfl (OpY.fieldAddr Tfo_77_0 rfl rfl) ?_
      refine Run.y (sv (x.word)) rfl (OpY.load1 Tone_9 rfl (Cells.blk (.head _) ⟨rfl, trivial⟩)) ?_
      refine Run.y (.bool ((x.word) == wC)) rfl (OpY.eqS rfl rfl) ?_
      rcases Bool.eq_false_or_eq_true ((x.word) == wC) with h45 | h45
      ·refine Run.q (v := .bool true) rfl (OpQ.y (OpY.moveB rfl h45)) ?_
       have p45 := h45; try simp only [bs] at p45
       refine Run.p (.slice Ad m cd) rfl rfl ?_
       refine Run.y (.pointer (some ⟨b1, 5, none⟩)) rfl (OpY.fieldAddr Tfo_77_3 rfl rfl) ?_
       refine Run.y (sv (x.nm)) rfl (OpY.load1 Tone_9 rfl (Cells.blk (.head _) ⟨rfl, trivial⟩)) ?_
       refine Run.p (.int .i64 (((k : Nat) : Int))) rfl rfl ?_
       refine Run.q (v := .int .i64 (finR T x.nm ((k : Nat) : Int))) rfl (OpQ.call (vs := [.slice Ad m cd, sv (x.nm), .int .i64 (((k : Nat) : Int))]) (caps := []) Tcall_77 rfl rfl (fun w hs => l5Find_spec (hs.sl hd))) ?_
       refine Run.p (.bool (decide ((finR T x.nm ((k : Nat) : Int)) < 0))) rfl rfl ?_
       refine Run.p (.bool (decide ((finR T x.nm ((k : Nat) : Int)) < 0))) rfl rfl ?_
       refine Run.done ?_
       refine Run.cond (b := decide ((finR T x.nm ((k : Nat) : Int)) < 0)) rfl (fun h52 => ?_) (fun h52 => ?_)
       ·have p52 := h52; try simp only [bs] at p52
        refine Run.seq ?_
        have hev : evN T (liAt X k) ((k : Nat) : Int) = true := by rw [hxX, evN, hdup, Bool.false_or, h45, Bool.true_and]; exact h52
        have hfin : namR T X = ((k : Nat) : Int) + 1 := by rw [namR, findI_hit hall hev (by omega)]
        refine Run.region ?_
        refine Run.p (.int .i64 (((k : Nat) : Int))) rfl rfl ?_
        refine Run.y (.int .i64 ((((k : Nat) : Int)) + 1)) rfl (OpY.add rfl rfl rfl (by omega) (by omega)) ?_
        refine Run.p (.int .i64 ((((k : Nat) : Int)) + 1)) rfl rfl ?_
        refine Run.done ?_
        refine Run.ret ?_
        refine ⟨.int .i64 ((((k : Nat) : Int)) + 1), [], Out.one rfl rfl, (Some'.weak (.nil _)), ?_⟩
        rw [hfin]
       ·have p52 := h52; try simp only [bs] at p52
        refine Run.skip ?_
        refine Run.blockEnd ?_
        have hgood : evN T (liAt X k) ((k : Nat) : Int) = false := by rw [hxX, evN, hdup, Bool.false_or]; first | (rw [h45, Bool.true_and]; exact h52) | (rw [h45]; rfl)
        refine Run.region ?_
        refine Run.y (.int .i64 ((((k : Nat) : Int)) + 1)) rfl (OpY.add rfl rfl rfl (by omega) (by omega)) ?_
        refine Run.p (.int .i64 ((((k : Nat) : Int)) + 1)) rfl rfl ?_
        refine Run.done ?_
        refine Run.goal ⟨(by repeat (first | exact Same.refl _ _ | refine Same.put rfl ?_ | refine Same.over rfl rfl ?_)), k + 1, ?_, ?_, ?_, ?_⟩
        ·refine ⟨by omega, ?_⟩
         intro i hi
         rcases Nat.lt_succ_iff_lt_or_eq.1 hi with h | h
         ·exact hall i h
         ·rw [h]; exact hgood
        ·omega
        ·exact ⟨(by first | rfl | (congr 1; omega) | simp), trivial⟩
        ·exact (Some'.weak (.nil _))
      ·refine Run.q (v := .bool false) rfl (OpQ.y (OpY.moveB rfl h45)) ?_
       have p45 := h45; try simp only [bs] at p45
       refine Run.pass rfl ?_
       refine Run.pass rfl ?_
       refine Run.pass rfl ?_
       refine Run.pass rfl ?_
       refine Run.pass rfl ?_
       refine Run.pass rfl ?_
       refine Run.p (.bool false) rfl rfl ?_
       refine Run.done ?_
       refine Run.cond (b := false) rfl (fun h => nomatch h) (fun _ => ?_)
       refine Run.skip ?_
       refine Run.blockEnd ?_
       have hgood : evN T (liAt X k) ((k : Nat) : Int) = false := by rw [hxX, evN, hdup, Bool.false_or]; first | (rw [h45, Bool.true_and]; exact h52) | (rw [h45]; rfl)
       refine Run.region ?_
       refine Run.y (.int .i64 ((((k : Nat) : Int)) + 1)) rfl (OpY.add rfl rfl rfl (by omega) (by omega)) ?_
       refine Run.p (.int .i64 ((((k : Nat) : Int)) + 1)) rfl rfl ?_
       refine Run.done ?_
       refine Run.goal ⟨(by repeat (first | exact Same.refl _ _ | refine Same.put rfl ?_ | refine Same.over rfl rfl ?_)), k + 1, ?_, ?_, ?_, ?_⟩
       ·refine ⟨by omega, ?_⟩
        intro i hi
        rcases Nat.lt_succ_iff_lt_or_eq.1 hi with h | h
        ·exact hall i h
        ·rw [h]; exact hgood
       ·omega
       ·exact ⟨(by first | rfl | (congr 1; omega) | simp), trivial⟩
       ·exact (Some'.weak (.nil _))
   ·have p21 := h21; try simp only [bs] at p21
    have hdup : ((x.word == wD) && anyI (dupN T x.nm ((k : Nat) : Int)) T.length) = false := by rw [h21]; rfl
    refine Run.skip ?_
    refine Run.sr ?_
    refine Run.y (.pointer (some ⟨b1, 0, none⟩)) rfl (OpY.fieldAddr Tfo_77_0 rfl rfl) ?_
    refine Run.y (sv (x.word)) rfl (OpY.load1 Tone_9 rfl (Cells.blk (.head _) ⟨rfl, trivial⟩)) ?_
    refine Run.y (.bool ((x.word) == wC)) rfl (OpY.eqS rfl rfl) ?_
    rcases Bool.eq_false_or_eq_true ((x.word) == wC) with h45 | h45
    ·refine Run.q (v := .bool true) rfl (OpQ.y (OpY.moveB rfl h45)) ?_
     have p45 := h45; try simp only [bs] at p45
     refine Run.p (.slice Ad m cd) rfl rfl ?_
     refine Run.y (.pointer (some ⟨b1, 5, none⟩)) rfl (OpY.fieldAddr Tfo_77_3 rfl rfl) ?_
     refine Run.y (sv (x.nm)) rfl (OpY.load1 Tone_9 rfl (Cells.blk (.head _) ⟨rfl, trivial⟩)) ?_
     refine Run.p (.int .i64 (((k : Nat) : Int))) rfl rfl ?_
     refine Run.q (v := .int .i64 (finR T x.nm ((k : Nat) : Int))) rfl (OpQ.call (vs := [.slice Ad m cd, sv (x.nm), .int .i64 (((k : Nat) : Int))]) (caps := []) Tcall_77 rfl rfl (fun w hs => l5Find_spec (hs.sl hd))) ?_
     refine Run.p (.bool (decide ((finR T x.nm ((k : Nat) : Int)) < 0))) rfl rfl ?_
     refine Run.p (.bool (decide ((finR T x.nm ((k : Nat) : Int)) < 0))) rfl rfl ?_
     refine Run.done ?_
     refine Run.cond (b := decide ((finR T x.nm ((k : Nat) : Int)) < 0)) rfl (fun h52 => ?_) (fun h52 => ?_)
     ·have p52 := h52; try simp only [bs] at p52
      refine Run.seq ?_
      have hev : evN T (liAt X k) ((k : Nat) : Int) = true := by rw [hxX, evN, hdup, Bool.false_or, h45, Bool.true_and]; exact h52
      have hfin : namR T X = ((k : Nat) : Int) + 1 := by rw [namR, findI_hit hall hev (by omega)]
      refine Run.region ?_
      refine Run.p (.int .i64 (((k : Nat) : Int))) rfl rfl ?_
      refine Run.y (.int .i64 ((((k : Nat) : Int)) + 1)) rfl (OpY.add rfl rfl rfl (by omega) (by omega)) ?_
      refine Run.p (.int .i64 ((((k : Nat) : Int)) + 1)) rfl rfl ?_
      refine Run.done ?_
      refine Run.ret ?_
      refine ⟨.int .i64 ((((k : Nat) : Int)) + 1), [], Out.one rfl rfl, (Some'.weak (.nil _)), ?_⟩
      rw [hfin]
     ·have p52 := h52; try simp only [bs] at p52
      refine Run.skip ?_
      refine Run.blockEnd ?_
      have hgood : evN T (liAt X k) ((k : Nat) : Int) = false := by rw [hxX, evN, hdup, Bool.false_or]; first | (rw [h45, Bool.true_and]; exact h52) | (rw [h45]; rfl)
      refine Run.region ?_
      refine Run.y (.int .i64 ((((k : Nat) : Int)) + 1)) rfl (OpY.add rfl rfl rfl (by omega) (by omega)) ?_
      refine Run.p (.int .i64 ((((k : Nat) : Int)) + 1)) rfl rfl ?_
      refine Run.done ?_
      refine Run.goal ⟨(by repeat (first | exact Same.refl _ _ | refine Same.put rfl ?_ | refine Same.over rfl rfl ?_)), k + 1, ?_, ?_, ?_, ?_⟩
      ·refine ⟨by omega, ?_⟩
       intro i hi
       rcases Nat.lt_succ_iff_lt_or_eq.1 hi with h | h
       ·exact hall i h
       ·rw [h]; exact hgood
      ·omega
      ·exact ⟨(by first | rfl | (congr 1; omega) | simp), trivial⟩
      ·exact (Some'.weak (.nil _))
    ·refine Run.q (v := .bool false) rfl (OpQ.y (OpY.moveB rfl h45)) ?_
     have p45 := h45; try simp only [bs] at p45
     refine Run.pass rfl ?_
     refine Run.pass rfl ?_
     refine Run.pass rfl ?_
     refine Run.pass rfl ?_
     refine Run.pass rfl ?_
     refine Run.pass rfl ?_
     refine Run.p (.bool false) rfl rfl ?_
     refine Run.done ?_
     refine Run.cond (b := false) rfl (fun h => nomatch h) (fun _ => ?_)
     refine Run.skip ?_
     refine Run.blockEnd ?_
     have hgood : evN T (liAt X k) ((k : Nat) : Int) = false := by rw [hxX, evN, hdup, Bool.false_or]; first | (rw [h45, Bool.true_and]; exact h52) | (rw [h45]; rfl)
     refine Run.region ?_
     refine Run.y (.int .i64 ((((k : Nat) : Int)) + 1)) rfl (OpY.add rfl rfl rfl (by omega) (by omega)) ?_
     refine Run.p (.int .i64 ((((k : Nat) : Int)) + 1)) rfl rfl ?_
     refine Run.done ?_
     refine Run.goal ⟨(by repeat (first | exact Same.refl _ _ | refine Same.put rfl ?_ | refine Same.over rfl rfl ?_)), k + 1, ?_, ?_, ?_, ?_⟩
     ·refine ⟨by omega, ?_⟩
      intro i hi
      rcases Nat.lt_succ_iff_lt_or_eq.1 hi with h | h
      ·exact hall i h
      ·rw [h]; exact hgood
     ·omega
     ·exact ⟨(by first | rfl | (congr 1; omega) | simp), trivial⟩
     ·exact (Some'.weak (.nil _))
  ·have p15 := h15; try simp only [bs] at p15
   obtain ⟨hk, hall⟩ := hinv
   have hfin : namR T X = 0 := by rw [namR, findI_none fun i hi => hall i (by omega)]; rfl
   refine Run.exit rfl ?_
   refine Run.sr ?_
   refine Run.p (.int .i64 0) rfl rfl ?_
   refine Run.done ?_
   refine Run.ret ?_
   refine ⟨.int .i64 0, [], Out.one rfl rfl, (Some'.weak (.nil _)), ?_⟩
   rw [hfin]

set_option maxHeartbeats 8000000 in
set_option maxRecDepth 20000 in
theorem gates_spec {r n m : Nat} {va vd vt : Value} {L : List LV} {T : List Dn} {w : World} (hr : Sl w (.slice (some ⟨r, 0, none⟩) 1 1) 2 1 [va, vd]) (ha : Sl w va 7 n (rls L)) (hA : RQ w L) (hd : Sl w vt 4 m (dns T)) (h1 : 1 ≤ n) (hn16 : n ≤ 16777216) (hwid : WidOk T (L.map (·.1))) (hfok : FinOk T (L.map (·.1))) : Calls Tryz.prog 54 #[.pointer (some ⟨r, 0, none⟩), vt] w (Post No w fun v _ => v = .int .i64 (gatR T (L.map (·.1)))) := by
 have hLn : L.length = n := by have := ha.1; simp at this; omega
 have hn := ha.le
 obtain ⟨A, c, rfl, hnc, _⟩ := ha.form0
 obtain ⟨X, hX⟩ : ∃ X, L.map (·.1) = X := ⟨_, rfl⟩
 have hXl : X.length = n := by rw [← hX, List.length_map]; exact hLn
 obtain ⟨bl, ol, rfl⟩ := ha.opn h1
 rw [hX] at hwid hfok ⊢
 have hTm : T.length = m := by have := hd.1; simp at this; omega
 have hm := hd.le
 obtain ⟨Ad, cd, rfl, hmc, _⟩ := hd.form0
 refine enter (n := 77) (args := [.pointer (some ⟨r, 0, none⟩), .slice Ad m cd]) Tryz.func54 rfl rfl (St.empty _ _) ?_
 refine Run.sr ?_
 refine Run.p (.int .i64 0) rfl rfl ?_
 refine Run.done ?_
 refine Run.seq ?_
 refine Run.sr ?_
 refine Run.p (.pointer (some ⟨r, 0, none⟩)) rfl rfl ?_
 refine Run.y (.pointer (some ⟨r, 0, none⟩)) rfl (OpY.nilCheck rfl) ?_
 refine Run.y (.pointer (some ⟨r, 0, none⟩)) rfl (OpY.fieldAddr Tfo_54_0 rfl rfl) ?_
 refine Run.y (.slice (some ⟨bl, ol, none⟩) n c) rfl (OpY.load1 Tone_51 rfl (Cells.env (k := 0) hr rfl (by decide) ⟨rfl, trivial⟩)) ?_
 refine Run.y (.int .i64 (((n : Nat) : Int))) rfl (OpY.len Tsl_51 rfl) ?_
 refine Run.p (.int .i64 0) rfl rfl ?_
 refine Run.done ?_
 refine Run.block ?_
 refine Run.loop (ι := Nat) ([4, 5, 6, 7, 8, 9, 15, 16, 17, 18, 19, 20, 21, 22, 23, 24, 25, 26, 27, 28, 29, 30, 31, 32, 33, 34, 35, 36, 37, 38, 39, 40, 41, 42, 43, 44, 45, 46, 47, 48, 49, 50, 51, 52, 53, 54, 55, 56, 57, 58] ++ [59, 60, 61, 62, 63, 64, 65, 66, 67, 68, 69, 70, 71, 72, 73, 74, 75, 76]) (fun k => [(15, .int .i64 (((k : Nat) : Int)))]) (fun k => []) (fun k => k ≤ n ∧ ∀ i, i < k → evG T X (liAt X i) ((i : Nat) : Int) = false) (fun k => n - k) 0 ?_ ?_ ?_ ?_
 ·exact ⟨Nat.zero_le _, fun i hi => by omega⟩
 ·exact ⟨rfl, trivial⟩
 ·exact (Some'.weak (.nil _))
 ·rintro k fr hinv
  show Run _ _ (over _ _ [(15, .int .i64 (((k : Nat) : Int)))] fr) []
  try dsimp only at hinv
  refine Run.sr ?_
  refine Run.p (.bool (decide ((((k : Nat) : Int)) < (((n : Nat) : Int))))) rfl rfl ?_
  refine Run.done ?_
  refine Run.seq ?_
  refine Run.cond (b := decide ((((k : Nat) : Int)) < (((n : Nat) : Int)))) rfl (fun h16 => ?_) (fun h16 => ?_)
  ·have p16 := h16; try simp only [bs] at p16
   have hltk : k < n := by omega
   obtain ⟨hk, hall⟩ := hinv
   obtain ⟨x, hx⟩ : ∃ x, (tx L k).1 = x := ⟨_, rfl⟩
   obtain ⟨Aq, cq, hq, hqc, _⟩ := (hA k (by omega)).form0
   rw [hx] at hq hqc
   have hxX : liAt X k = x := by rw [← hX, ← tx_li, hx]
   have hqa : Sl w (.slice Aq x.ar.length cq) 1 x.ar.length (ints x.ar) := by rw [← hq, ← hx]; exact hA k (by omega)
   have hqm := hqa.le
   obtain ⟨Nw, hNw⟩ : ∃ N, widR T X ((k : Nat) : Int) = N := ⟨_, rfl⟩
   obtain ⟨F, hF⟩ : ∃ F, finR T x.nm ((k : Nat) : Int) = F := ⟨_, rfl⟩
   have hN5 := hwid k (by omega)
   rw [hNw] at hN5
   have hFl := finR_lt (T := T) (nm := x.nm) (i := ((k : Nat) : Int))
   have hF0 := hfok k (by omega)
   rw [hxX, hF] at hF0
   rw [hF] at hFl
   have hevG : evG T X (liAt X k) ((k : Nat) : Int) = (((x.word == wG) && !gateOk Nw x.g3.1 x.g3.2.1 x.g3.2.2) || ((x.word == wC) && (decide (((x.ar.length : Nat) : Int) ≠ (dnx T F.toNat).n) || anyI (badR Nw x.ar) x.ar.length))) := by rw [hxX, evG, hNw, hF]
   refine Run.skip ?_
   refine Run.seq ?_
   refine Run.block ?_
   refine Run.sr ?_
   refine Run.p (.int .i64 (((k : Nat) : Int))) rfl rfl ?_
   refine Run.y (.pointer (some ⟨bl, ol + k * 7, none⟩)) rfl (OpY.index (kk := k) Tsl_51 rfl rfl (by omega) (by omega) (by first | rfl | omega)) ?_
   refine Run.y (.agg #[sv (x.word), .int .i64 (x.g3.1), .int .i64 (x.g3.2.1), .int .i64 (x.g3.2.2), .int .i64 (x.num), sv (x.nm), .slice Aq (x.ar.length) cq]) rfl (OpY.loadN (cs := [sv (x.word), .int .i64 (x.g3.1), .int .i64 (x.g3.2.1), .int .i64 (x.g3.2.2), .int .i64 (x.num), sv (x.nm), .slice Aq (x.ar.length) cq]) Tagg_77 rfl (Cells.arg (k := k * 7) ha rfl (by omega) (rls_preF (k := k) (by omega) hx hq))) ?_
   refine Run.step rfl (OpStep.alloc (zs := [sv ([]), .int .i64 0, .int .i64 0, .int .i64 0, .int .i64 0, sv ([]), .slice none 0 0]) Tzero_77 fun b1 => ?_)
   refine Run.p (.int .i64 (((k : Nat) : Int))) rfl rfl ?_
   refine Run.step rfl (OpStep.storeAll (us := [sv (x.word), .int .i64 (x.g3.1), .int .i64 (x.g3.2.1), .int .i64 (x.g3.2.2), .int .i64 (x.num), sv (x.nm), .slice Aq (x.ar.length) cq]) Tsize_77 rfl rfl rfl (.here _) rfl ?_)
   refine Run.dsr ?_
   refine Run.p (.pointer (some ⟨r, 0, none⟩)) rfl rfl ?_
   refine Run.p (.slice Ad m cd) rfl rfl ?_
   refine Run.p (.int .i64 (((k : Nat) : Int))) rfl rfl ?_
   refine Run.q (v := .int .i64 Nw) rfl (OpQ.call (vs := [.pointer (some ⟨r, 0, none⟩), .slice Ad m cd, .int .i64 (((k : Nat) : Int))]) (caps := []) Tcall_84 rfl rfl (fun w hs => (by have h := width_spec (i0 := ((k : Nat) : Int)) (hs.sl hr) (hs.sl ha) (hA.go hs) (hs.sl hd) h1; rw [hX, hNw] at h; exact h))) ?_
   refine Run.p (.int .i64 Nw) rfl rfl ?_
   refine Run.done ?_
   refine Run.seq ?_
   refine Run.sr ?_
   refine Run.y (.pointer (some ⟨b1, 0, none⟩)) rfl (OpY.fieldAddr Tfo_77_0 rfl rfl) ?_
   refine Run.y (sv (x.word)) rfl (OpY.load1 Tone_9 rfl (Cells.blk (.head _) ⟨rfl, trivial⟩)) ?_
   refine Run.y (.bool ((x.word) == wG)) rfl (OpY.eqS rfl rfl) ?_
   rcases Bool.eq_false_or_eq_true ((x.word) == wG) with h27 | h27
   ·refine Run.q (v := .bool true) rfl (OpQ.y (OpY.moveB rfl h27)) ?_
    have p27 := h27; try simp only [bs] at p27
    refine Run.p (.int .i64 Nw) rfl rfl ?_
    refine Run.y (.pointer (some ⟨b1, 1, none⟩)) rfl (OpY.fieldAddr Tfo_77_1 rfl rfl) ?_
    refine Run.y (.agg #[.int .i64 (x.g3.1), .int .i64 (x.g3.2.1), .int .i64 (x.g3.2.2)]) rfl (OpY.loadN (cs := [.int .i64 (x.g3.1), .int .i64 (x.g3.2.1), .int .i64 (x.g3.2.2)]) Tagg_69 rfl (Cells.blk (.head _) ⟨rfl, rfl, rfl, trivial⟩)) ?_
    refine Run.q (v := .bool (gateOk Nw x.g3.1 x.g3.2.1 x.g3.2.2)) rfl (OpQ.call (vs := [.int .i64 Nw, .agg #[.int .i64 (x.g3.1), .int .i64 (x.g3.2.1), .int .i64 (x.g3.2.2)]]) (caps := []) Tcall_69 rfl rfl (fun w hs => l4Gate_spec hN5 _)) ?_
    refine Run.p (.bool (!(gateOk Nw x.g3.1 x.g3.2.1 x.g3.2.2))) rfl rfl ?_
    refine Run.p (.bool (!(gateOk Nw x.g3.1 x.g3.2.1 x.g3.2.2))) rfl rfl ?_
    refine Run.done ?_
    refine Run.cond (b := !(gateOk Nw x.g3.1 x.g3.2.1 x.g3.2.2)) rfl (fun h33 => ?_) (fun h33 => ?_)
    ·have p33 := h33; try simp only [bs] at p33
     refine Run.seq ?_
     have hev : evG T X (liAt X k) ((k : Nat) : Int) = true := by rw [hevG, h27, Bool.true_and, h33]; rfl
     have hfin : gatR T X = ((k : Nat) : Int) + 1 := by rw [gatR, findI_hit hall hev (by omega)]
     refine Run.region ?_
     refine Run.p (.int .i64 (((k : Nat) : Int))) rfl rfl ?_
     refine Run.y (.int .i64 ((((k : Nat) : Int)) + 1)) rfl (OpY.add rfl rfl rfl (by omega) (by omega)) ?_
     refine Run.p (.int .i64 ((((k : Nat) : Int)) + 1)) rfl rfl ?_
     refine Run.done ?_
     refine Run.ret ?_
     refine ⟨.int .i64 ((((k : Nat) : Int)) + 1), [], Out.one rfl rfl, (Some'.weak (.nil _)), ?_⟩
     rw [hfin]
    ·have p33 := h33; try simp only [bs] at p33
     refine Run.skip ?_
     refine Run.seq ?_
     refine Run.seq ?_
     have hg0 : ((x.word == wG) && !gateOk Nw x.g3.1 x.g3.2.1 x.g3.2.2) = false := by first | (rw [h27, Bool.true_and]; exact h33) | (rw [h27]; rfl)
     rw [hg0, Bool.false_or] at hevG
     refine Run.region ?_
     refine Run.y (.pointer (some ⟨b1, 0, none⟩)) rfl (OpY.fieldAddr Tfo_77_0 rfl rfl) ?_
     refine Run.y (sv (x.word)) rfl (OpY.load1 Tone_9 rfl (Cells.blk (.head _) ⟨rfl, trivial⟩)) ?_
     refine Run.y (.bool ((x.word) != wC)) rfl (OpY.neS rfl rfl) ?_
     refine Run.done ?_
     refine Run.cond (b := (x.word) != wC) rfl (fun h38 => ?_) (fun h38 => ?_)
     ·have p38 := h38; try simp only [bs] at p38
      have hgood : evG T X (liAt X k) ((k : Nat) : Int) = false := by rw [hevG, beq_eq_false_iff_ne.2 p38]; rfl
      refine Run.exit rfl ?_
      refine Run.region ?_
      refine Run.y (.int .i64 ((((k : Nat) : Int)) + 1)) rfl (OpY.add rfl rfl rfl (by omega) (by omega)) ?_
      refine Run.p (.int .i64 ((((k : Nat) : Int)) + 1)) rfl rfl ?_
      refine Run.done ?_
      refine Run.goal ⟨(by repeat (first | exact Same.refl _ _ | refine Same.put rfl ?_ | refine Same.over rfl rfl ?_)), k + 1, ?_, ?_, ?_, ?_⟩
      ·refine ⟨by omega, ?_⟩
       intro i hi
       rcases Nat.lt_succ_iff_lt_or_eq.1 hi with h | h
       ·exact hall i h
       ·rw [h]; exact hgood
      ·omega
      ·exact ⟨(by first | rfl | (congr 1; omega) | simp), trivial⟩
      ·exact (Some'.weak (.nil _))
     ·have p38 := h38; try simp only [bs] at p38
      have hF1 := hF0 p38
      rw [beq_iff_eq.2 p38, Bool.true_and] at hevG
      obtain ⟨bd, od, rfl⟩ := hd.opn (by omega)
      refine Run.skip ?_
      refine Run.seq ?_
      refine Run.seq ?_
      refine Run.draws (by kernel_rfl) (by kernel_rfl) ?_
      refine Lex.q (v := .pointer (some ⟨b1, 6, none⟩)) rfl (OpQ.y (OpY.fieldAddr Tfo_77_4 rfl rfl)) ?_
      refine Lex.q (v := .slice Aq (x.ar.length) cq) rfl (OpQ.y (OpY.load1 Tone_75 rfl (Cells.blk (.head _) ⟨rfl, trivial⟩))) ?_
      refine Lex.q (v := .int .i64 (((x.ar.length : Nat) : Int))) rfl (OpQ.y (OpY.len Tsl_75 rfl)) ?_
      refine Lex.q (v := .slice (some ⟨bd, od, none⟩) m cd) rfl (OpQ.y (OpY.pure rfl)) ?_
      refine Lex.q (v := .slice (some ⟨bd, od, none⟩) m cd) rfl (OpQ.y (OpY.pure rfl)) ?_
      refine Lex.q (v := .pointer (some ⟨b1, 5, none⟩)) rfl (OpQ.y (OpY.fieldAddr Tfo_77_3 rfl rfl)) ?_
      refine Lex.q (v := sv (x.nm)) rfl (OpQ.y (OpY.load1 Tone_9 rfl (Cells.blk (.head _) ⟨rfl, trivial⟩))) ?_
      refine Lex.q (v := .int .i64 (((k : Nat) : Int))) rfl (OpQ.y (OpY.pure rfl)) ?_
      refine Lex.q (v := .int .i64 F) rfl (OpQ.call (vs := [.slice (some ⟨bd, od, none⟩) m cd, sv (x.nm), .int .i64 (((k : Nat) : Int))]) (caps := []) Tcall_77 rfl rfl (fun w hs => (by have h := l5Find_spec (nm := x.nm) (i0 := ((k : Nat) : Int)) (hs.sl hd); rw [hF] at h; exact h))) ?_
      refine Lex.q (v := .pointer (some ⟨bd, od + (F.toNat) * 4, none⟩)) rfl (OpQ.y (OpY.index (kk := F.toNat) Tsl_46 rfl rfl (by omega) (by omega) (by first | rfl | omega))) ?_
      refine Lex.q (v := .pointer (some ⟨bd, od + (F.toNat) * 4 + 1, none⟩)) rfl (OpQ.y (OpY.fieldAddr Tfo_50_1 rfl rfl)) ?_
      refine Lex.q (v := .int .i64 ((dnx T (F.toNat)).n)) rfl (OpQ.y (OpY.load1 Tone_3 rfl (Cells.arg (k := (F.toNat) * 4 + 1) hd rfl (by omega) (dns_preN (k := F.toNat) (by omega))))) ?_
      refine Lex.q (v := .bool ((((x.ar.length : Nat) : Int)) != ((dnx T (F.toNat)).n))) rfl (OpQ.y (OpY.pure rfl)) ?_
      refine Lex.done ?_
      refine Run.cond (b := (((x.ar.length : Nat) : Int)) != ((dnx T (F.toNat)).n)) rfl (fun h51 => ?_) (fun h51 => ?_)
      ·have p51 := h51; try simp only [bs] at p51
       refine Run.seq ?_
       have hev : evG T X (liAt X k) ((k : Nat) : Int) = true := by rw [hevG, decide_eq_true p51]; rfl
       have hfin : gatR T X = ((k : Nat) : Int) + 1 := by rw [gatR, findI_hit hall hev (by omega)]
       refine Run.region ?_
       refine Run.p (.int .i64 (((k : Nat) : Int))) rfl rfl ?_
       refine Run.y (.int .i64 ((((k : Nat) : Int)) + 1)) rfl (OpY.add rfl rfl rfl (by omega) (by omega)) ?_
       refine Run.p (.int .i64 ((((k : Nat) : Int)) + 1)) rfl rfl ?_
       refine Run.done ?_
       refine Run.ret ?_
       refine ⟨.int .i64 ((((k : Nat) : Int)) + 1), [], Out.one rfl rfl, (Some'.weak (.nil _)), ?_⟩
       rw [hfin]
      ·have p51 := h51; try simp only [bs] at p51
       refine Run.skip ?_
       refine Run.seq ?_
       rw [decide_eq_false (fun e => e p51), Bool.false_or] at hevG
       refine Run.region ?_
       refine Run.y (.pointer (some ⟨b1, 6, none⟩)) rfl (OpY.fieldAddr Tfo_77_4 rfl rfl) ?_
       refine Run.y (.slice Aq (x.ar.length) cq) rfl (OpY.load1 Tone_75 rfl (Cells.blk (.head _) ⟨rfl, trivial⟩)) ?_
       refine Run.y (.int .i64 (((x.ar.length : Nat) : Int))) rfl (OpY.len Tsl_75 rfl) ?_
       refine Run.p (.int .i64 0) rfl rfl ?_
       refine Run.done ?_
       refine Run.block ?_
       refine Run.loop (ι := Nat) [4, 8, 9, 57, 58, 59, 60, 61, 62, 63, 64, 65, 66, 67, 68, 69, 70, 71, 72, 73, 74, 75] (fun j => [(57, .int .i64 (((j : Nat) : Int)))]) (fun j => [.blk b1 77 [sv (x.word), .int .i64 (x.g3.1), .int .i64 (x.g3.2.1), .int .i64 (x.g3.2.2), .int .i64 (x.num), sv (x.nm), .slice Aq (x.ar.length) cq]]) (fun j => j ≤ x.ar.length ∧ ∀ i, i < j → badR Nw x.ar i = false) (fun j => x.ar.length - j) 0 ?_ ?_ ?_ ?_
       ·exact ⟨Nat.zero_le _, fun i hi => by omega⟩
       ·exact ⟨rfl, trivial⟩
       ·exact (Some'.weak (.take (.nil _)))
       ·rintro j fr hinv
        show Run _ _ (over _ _ [(57, .int .i64 (((j : Nat) : Int)))] fr) [.blk b1 77 [sv (x.word), .int .i64 (x.g3.1), .int .i64 (x.g3.2.1), .int .i64 (x.g3.2.2), .int .i64 (x.num), sv (x.nm), .slice Aq (x.ar.length) cq]]
        try dsimp only at hinv
        refine Run.sr ?_
        refine Run.p (.bool (decide ((((j : Nat) : Int)) < (((x.ar.length : Nat) : Int))))) rfl rfl ?_
        refine Run.done ?_
        refine Run.seq ?_
        refine Run.cond (b := decide ((((j : Nat) : Int)) < (((x.ar.length : Nat) : Int)))) rfl (fun h58 => ?_) (fun h58 => ?_)
        ·have p58 := h58; try simp only [bs] at p58
         have hltj : j < x.ar.length := by omega
         obtain ⟨hj, halld⟩ := hinv
         obtain ⟨bq, oq, rfl⟩ := hqa.opn (by omega)
         refine Run.skip ?_
         refine Run.seq ?_
         refine Run.block ?_
         refine Run.sr ?_
         refine Run.p (.int .i64 (((j : Nat) : Int))) rfl rfl ?_
         refine Run.y (.pointer (some ⟨bq, oq + j, none⟩)) rfl (OpY.index (kk := j) Tsl_75 rfl rfl (by omega) (by omega) (by first | rfl | omega)) ?_
         refine Run.y (.int .i64 (ix (x.ar) (j))) rfl (OpY.load1 Tone_3 rfl (Cells.arg (k := j) hqa rfl (by omega) (pre1 (by omega)))) ?_
         refine Run.p (.int .i64 (((j : Nat) : Int))) rfl rfl ?_
         refine Run.p (.int .i64 (ix (x.ar) (j))) rfl rfl ?_
         refine Run.dsr ?_
         refine Run.p (.int .i64 (ix (x.ar) (j))) rfl rfl ?_
         refine Run.p (.int .i64 Nw) rfl rfl ?_
         refine Run.p (.bool (decide ((ix (x.ar) (j)) ≥ Nw))) rfl rfl ?_
         rcases Bool.eq_false_or_eq_true (decide ((ix (x.ar) (j)) ≥ Nw)) with h65 | h65
         ·refine Run.q (v := .bool true) rfl (OpQ.y (OpY.moveB rfl h65)) ?_
          have p65 := h65; try simp only [bs] at p65
          refine Run.pass rfl ?_
          refine Run.pass rfl ?_
          refine Run.pass rfl ?_
          refine Run.pass rfl ?_
          refine Run.pass rfl ?_
          refine Run.pass rfl ?_
          refine Run.p (.bool true) rfl rfl ?_
          refine Run.done ?_
          refine Run.cond (b := true) rfl (fun _ => ?_) (fun h => nomatch h)
          refine Run.seq ?_
          have hbj : badR Nw x.ar j = true := by rw [badR]; first | (rw [decide_eq_true (show Nw ≤ ix x.ar j by omega)]; rfl) | (rw [h72, Bool.or_true])
          have hev : evG T X (liAt X k) ((k : Nat) : Int) = true := by rw [hevG]; exact anyI_true (i := j) (by omega) hbj
          have hfin : gatR T X = ((k : Nat) : Int) + 1 := by rw [gatR, findI_hit hall hev (by omega)]
          refine Run.region ?_
          refine Run.p (.int .i64 (((k : Nat) : Int))) rfl rfl ?_
          refine Run.y (.int .i64 ((((k : Nat) : Int)) + 1)) rfl (OpY.add rfl rfl rfl (by omega) (by omega)) ?_
          refine Run.p (.int .i64 ((((k : Nat) : Int)) + 1)) rfl rfl ?_
          refine Run.done ?_
          refine Run.ret ?_
          refine ⟨.int .i64 ((((k : Nat) : Int)) + 1), [], Out.one rfl rfl, (Some'.weak (.nil _)), ?_⟩
          rw [hfin]
         ·refine Run.q (v := .bool false) rfl (OpQ.y (OpY.moveB rfl h65)) ?_
          have p65 := h65; try simp only [bs] at p65
          refine Run.y (.pointer (some ⟨b1, 6, none⟩)) rfl (OpY.fieldAddr Tfo_77_4 rfl rfl) ?_
          refine Run.y (.slice (some ⟨bq, oq, none⟩) (x.ar.length) cq) rfl (OpY.load1 Tone_75 rfl (Cells.blk (.head _) ⟨rfl, trivial⟩)) ?_
          refine Run.p (.int .i64 (((j : Nat) : Int))) rfl rfl ?_
          refine Run.y (.slice (some ⟨bq, oq, none⟩) j cq) rfl (OpY.sliceHN (h := j) Tsl_75 rfl rfl rfl (by omega)) ?_
          refine Run.p (.int .i64 (ix (x.ar) (j))) rfl rfl ?_
          refine Run.q (v := .bool (hasI x.ar (ix x.ar j) j)) rfl (OpQ.call (vs := [.slice (some ⟨bq, oq, none⟩) j cq, .int .i64 (ix (x.ar) (j))]) (caps := []) Tcall_85 rfl rfl (fun w hs => (by have h := l1Has_spec (x := ix x.ar j) ((hs.sl hqa).take (show j ≤ x.ar.length by omega)); rw [hasI_take] at h; exact h))) ?_
          refine Run.p (.bool (hasI x.ar (ix x.ar j) j)) rfl rfl ?_
          refine Run.done ?_
          refine Run.cond (b := hasI x.ar (ix x.ar j) j) rfl (fun h72 => ?_) (fun h72 => ?_)
          ·have p72 := h72; try simp only [bs] at p72
           refine Run.seq ?_
           have hbj : badR Nw x.ar j = true := by rw [badR]; first | (rw [decide_eq_true (show Nw ≤ ix x.ar j by omega)]; rfl) | (rw [h72, Bool.or_true])
           have hev : evG T X (liAt X k) ((k : Nat) : Int) = true := by rw [hevG]; exact anyI_true (i := j) (by omega) hbj
           have hfin : gatR T X = ((k : Nat) : Int) + 1 := by rw [gatR, findI_hit hall hev (by omega)]
           refine Run.region ?_
           refine Run.p (.int .i64 (((k : Nat) : Int))) rfl rfl ?_
           refine Run.y (.int .i64 ((((k : Nat) : Int)) + 1)) rfl (OpY.add rfl rfl rfl (by omega) (by omega)) ?_
           refine Run.p (.int .i64 ((((k : Nat) : Int)) + 1)) rfl rfl ?_
           refine Run.done ?_
           refine Run.ret ?_
           refine ⟨.int .i64 ((((k : Nat) : Int)) + 1), [], Out.one rfl rfl, (Some'.weak (.nil _)), ?_⟩
           rw [hfin]
          ·have p72 := h72; try simp only [bs] at p72
           refine Run.skip ?_
           refine Run.blockEnd ?_
           have hgoodj : badR Nw x.ar j = false := by rw [badR, decide_eq_false (show ¬ Nw ≤ ix x.ar j by omega), Bool.false_or]; exact h72
           refine Run.region ?_
           refine Run.y (.int .i64 ((((j : Nat) : Int)) + 1)) rfl (OpY.add rfl rfl rfl (by omega) (by omega)) ?_
           refine Run.p (.int .i64 ((((j : Nat) : Int)) + 1)) rfl rfl ?_
           refine Run.done ?_
           refine Run.goal ⟨(by repeat (first | exact Same.refl _ _ | refine Same.put rfl ?_ | refine Same.over rfl rfl ?_)), j + 1, ?_, ?_, ?_, ?_⟩
           ·refine ⟨by omega, ?_⟩
            intro i hi
            rcases Nat.lt_succ_iff_lt_or_eq.1 hi with h | h
            ·exact halld i h
            ·rw [h]; exact hgoodj
           ·omega
           ·exact ⟨(by first | rfl | (congr 1; omega) | simp), trivial⟩
           ·exact (Some'.weak (.takeEq (by first | rfl | simp) (.nil _)))
        ·have p58 := h58; try simp only [bs] at p58
         obtain ⟨hj, halld⟩ := hinv
         have hgood : evG T X (liAt X k) ((k : Nat) : Int) = false := by rw [hevG]; exact anyI_false fun i hi => halld i (by omega)
         refine Run.exit rfl ?_
         refine Run.blockEnd ?_
         refine Run.region ?_
         refine Run.y (.int .i64 ((((k : Nat) : Int)) + 1)) rfl (OpY.add rfl rfl rfl (by omega) (by omega)) ?_
         refine Run.p (.int .i64 ((((k : Nat) : Int)) + 1)) rfl rfl ?_
         refine Run.done ?_
         refine Run.goal ⟨(by repeat (first | exact Same.refl _ _ | refine Same.put rfl ?_ | refine Same.over rfl rfl ?_)), k + 1, ?_, ?_, ?_, ?_⟩
         ·refine ⟨by omega, ?_⟩
          intro i hi
          rcases Nat.lt_succ_iff_lt_or_eq.1 hi with h | h
          ·exact hall i h
          ·rw [h]; exact hgood
         ·omega
         ·exact ⟨(by first | rfl | (congr 1; omega) | simp), trivial⟩
         ·exact (Some'.weak (.nil _))
   ·refine Run.q (v := .bool false) rfl (OpQ.y (OpY.moveB rfl h27)) ?_
    have p27 := h27; try simp only [bs] at p27
    refine Run.pass rfl ?_
    refine Run.pass rfl ?_
    refine Run.pass rfl ?_
    refine Run.pass rfl ?_
    refine Run.pass rfl ?_
    refine Run.p (.bool false) rfl rfl ?_
    refine Run.done ?_
    refine Run.cond (b := false) rfl (fun h => nomatch h) (fun _ => ?_)
    refine Run.skip ?_
    refine Run.seq ?_
    refine Run.seq ?_
    have hg0 : ((x.word == wG) && !gateOk Nw x.g3.1 x.g3.2.1 x.g3.2.2) = false := by first | (rw [h27, Bool.true_and]; exact h33) | (rw [h27]; rfl)
    rw [hg0, Bool.false_or] at hevG
    refine Run.region ?_
    refine Run.y (.pointer (some ⟨b1, 0, none⟩)) rfl (OpY.fieldAddr Tfo_77_0 rfl rfl) ?_
    refine Run.y (sv (x.word)) rfl (OpY.load1 Tone_9 rfl (Cells.blk (.head _) ⟨rfl, trivial⟩)) ?_
    refine Run.y (.bool ((x.word) != wC)) rfl (OpY.neS rfl rfl) ?_
    refine Run.done ?_
    refine Run.cond (b := (x.word) != wC) rfl (fun h38 => ?_) (fun h38 => ?_)
    ·have p38 := h38; try simp only [bs] at p38
     have hgood : evG T X (liAt X k) ((k : Nat) : Int) = false := by rw [hevG, beq_eq_false_iff_ne.2 p38]; rfl
     refine Run.exit rfl ?_
     refine Run.region ?_
     refine Run.y (.int .i64 ((((k : Nat) : Int)) + 1)) rfl (OpY.add rfl rfl rfl (by omega) (by omega)) ?_
     refine Run.p (.int .i64 ((((k : Nat) : Int)) + 1)) rfl rfl ?_
     refine Run.done ?_
     refine Run.goal ⟨(by repeat (first | exact Same.refl _ _ | refine Same.put rfl ?_ | refine Same.over rfl rfl ?_)), k + 1, ?_, ?_, ?_, ?_⟩
     ·refine ⟨by omega, ?_⟩
      intro i hi
      rcases Nat.lt_succ_iff_lt_or_eq.1 hi with h | h
      ·exact hall i h
      ·rw [h]; exact hgood
     ·omega
     ·exact ⟨(by first | rfl | (congr 1; omega) | simp), trivial⟩
     ·exact (Some'.weak (.nil _))
    ·have p38 := h38; try simp only [bs] at p38
     have hF1 := hF0 p38
     rw [beq_iff_eq.2 p38, Bool.true_and] at hevG
     obtain ⟨bd, od, rfl⟩ := hd.opn (by omega)
     refine Run.skip ?_
     refine Run.seq ?_
     refine Run.seq ?_
     refine Run.draws (by kernel_rfl) (by kernel_rfl) ?_
     refine Lex.q (v := .pointer (some ⟨b1, 6, none⟩)) rfl (OpQ.y (OpY.fieldAddr Tfo_77_4 rfl rfl)) ?_
     refine Lex.q (v := .slice Aq (x.ar.length) cq) rfl (OpQ.y (OpY.load1 Tone_75 rfl (Cells.blk (.head _) ⟨rfl, trivial⟩))) ?_
     refine Lex.q (v := .int .i64 (((x.ar.length : Nat) : Int))) rfl (OpQ.y (OpY.len Tsl_75 rfl)) ?_
     refine Lex.q (v := .slice (some ⟨bd, od, none⟩) m cd) rfl (OpQ.y (OpY.pure rfl)) ?_
     refine Lex.q (v := .slice (some ⟨bd, od, none⟩) m cd) rfl (OpQ.y (OpY.pure rfl)) ?_
     refine Lex.q (v := .pointer (some ⟨b1, 5, none⟩)) rfl (OpQ.y (OpY.fieldAddr Tfo_77_3 rfl rfl)) ?_
     refine Lex.q (v := sv (x.nm)) rfl (OpQ.y (OpY.load1 Tone_9 rfl (Cells.blk (.head _) ⟨rfl, trivial⟩))) ?_
     refine Lex.q (v := .int .i64 (((k : Nat) : Int))) rfl (OpQ.y (OpY.pure rfl)) ?_
     refine Lex.q (v := .int .i64 F) rfl (OpQ.call (vs := [.slice (some ⟨bd, od, none⟩) m cd, sv (x.nm), .int .i64 (((k : Nat) : Int))]) (caps := []) Tcall_77 rfl rfl (fun w hs => (by have h := l5Find_spec (nm := x.nm) (i0 := ((k : Nat) : Int)) (hs.sl hd); rw [hF] at h; exact h))) ?_
     refine Lex.q (v := .pointer (some ⟨bd, od + (F.toNat) * 4, none⟩)) rfl (OpQ.y (OpY.index (kk := F.toNat) Tsl_46 rfl rfl (by omega) (by omega) (by first | rfl | omega))) ?_
     refine Lex.q (v := .pointer (some ⟨bd, od + (F.toNat) * 4 + 1, none⟩)) rfl (OpQ.y (OpY.fieldAddr Tfo_50_1 rfl rfl)) ?_
     refine Lex.q (v := .int .i64 ((dnx T (F.toNat)).n)) rfl (OpQ.y (OpY.load1 Tone_3 rfl (Cells.arg (k := (F.toNat) * 4 + 1) hd rfl (by omega) (dns_preN (k := F.toNat) (by omega))))) ?_
     refine Lex.q (v := .bool ((((x.ar.length : Nat) : Int)) != ((dnx T (F.toNat)).n))) rfl (OpQ.y (OpY.pure rfl)) ?_
     refine Lex.done ?_
     refine Run.cond (b := (((x.ar.length : Nat) : Int)) != ((dnx T (F.toNat)).n)) rfl (fun h51 => ?_) (fun h51 => ?_)
     ·have p51 := h51; try simp only [bs] at p51
      refine Run.seq ?_
      have hev : evG T X (liAt X k) ((k : Nat) : Int) = true := by rw [hevG, decide_eq_true p51]; rfl
      have hfin : gatR T X = ((k : Nat) : Int) + 1 := by rw [gatR, findI_hit hall hev (by omega)]
      refine Run.region ?_
      refine Run.p (.int .i64 (((k : Nat) : Int))) rfl rfl ?_
      refine Run.y (.int .i64 ((((k : Nat) : Int)) + 1)) rfl (OpY.add rfl rfl rfl (by omega) (by omega)) ?_
      refine Run.p (.int .i64 ((((k : Nat) : Int)) + 1)) rfl rfl ?_
      refine Run.done ?_
      refine Run.ret ?_
      refine ⟨.int .i64 ((((k : Nat) : Int)) + 1), [], Out.one rfl rfl, (Some'.weak (.nil _)), ?_⟩
      rw [hfin]
     ·have p51 := h51; try simp only [bs] at p51
      refine Run.skip ?_
      refine Run.seq ?_
      rw [decide_eq_false (fun e => e p51), Bool.false_or] at hevG
      refine Run.region ?_
      refine Run.y (.pointer (some ⟨b1, 6, none⟩)) rfl (OpY.fieldAddr Tfo_77_4 rfl rfl) ?_
      refine Run.y (.slice Aq (x.ar.length) cq) rfl (OpY.load1 Tone_75 rfl (Cells.blk (.head _) ⟨rfl, trivial⟩)) ?_
      refine Run.y (.int .i64 (((x.ar.length : Nat) : Int))) rfl (OpY.len Tsl_75 rfl) ?_
      refine Run.p (.int .i64 0) rfl rfl ?_
      refine Run.done ?_
      refine Run.block ?_
      refine Run.loop (ι := Nat) [4, 8, 9, 57, 58, 59, 60, 61, 62, 63, 64, 65, 66, 67, 68, 69, 70, 71, 72, 73, 74, 75] (fun j => [(57, .int .i64 (((j : Nat) : Int)))]) (fun j => [.blk b1 77 [sv (x.word), .int .i64 (x.g3.1), .int .i64 (x.g3.2.1), .int .i64 (x.g3.2.2), .int .i64 (x.num), sv (x.nm), .slice Aq (x.ar.length) cq]]) (fun j => j ≤ x.ar.length ∧ ∀ i, i < j → badR Nw x.ar i = false) (fun j => x.ar.length - j) 0 ?_ ?_ ?_ ?_
      ·exact ⟨Nat.zero_le _, fun i hi => by omega⟩
      ·exact ⟨rfl, trivial⟩
      ·exact (Some'.weak (.take (.nil _)))
      ·rintro j fr hinv
       show Run _ _ (over _ _ [(57, .int .i64 (((j : Nat) : Int)))] fr) [.blk b1 77 [sv (x.word), .int .i64 (x.g3.1), .int .i64 (x.g3.2.1), .int .i64 (x.g3.2.2), .int .i64 (x.num), sv (x.nm), .slice Aq (x.ar.length) cq]]
       try dsimp only at hinv
       refine Run.sr ?_
       refine Run.p (.bool (decide ((((j : Nat) : Int)) < (((x.ar.length : Nat) : Int))))) rfl rfl ?_
       refine Run.done ?_
       refine Run.seq ?_
       refine Run.cond (b := decide ((((j : Nat) : Int)) < (((x.ar.length : Nat) : Int)))) rfl (fun h58 => ?_) (fun h58 => ?_)
       ·have p58 := h58; try simp only [bs] at p58
        have hltj : j < x.ar.length := by omega
        obtain ⟨hj, halld⟩ := hinv
        obtain ⟨bq, oq, rfl⟩ := hqa.opn (by omega)
        refine Run.skip ?_
        refine Run.seq ?_
        refine Run.block ?_
        refine Run.sr ?_
        refine Run.p (.int .i64 (((j : Nat) : Int))) rfl rfl ?_
        refine Run.y (.pointer (some ⟨bq, oq + j, none⟩)) rfl (OpY.index (kk := j) Tsl_75 rfl rfl (by omega) (by omega) (by first | rfl | omega)) ?_
        refine Run.y (.int .i64 (ix (x.ar) (j))) rfl (OpY.load1 Tone_3 rfl (Cells.arg (k := j) hqa rfl (by omega) (pre1 (by omega)))) ?_
        refine Run.p (.int .i64 (((j : Nat) : Int))) rfl rfl ?_
        refine Run.p (.int .i64 (ix (x.ar) (j))) rfl rfl ?_
        refine Run.dsr ?_
        refine Run.p (.int .i64 (ix (x.ar) (j))) rfl rfl ?_
        refine Run.p (.int .i64 Nw) rfl rfl ?_
        refine Run.p (.bool (decide ((ix (x.ar) (j)) ≥ Nw))) rfl rfl ?_
        rcases Bool.eq_false_or_eq_true (decide ((ix (x.ar) (j)) ≥ Nw)) with h65 | h65
        ·refine Run.q (v := .bool true) rfl (OpQ.y (OpY.moveB rfl h65)) ?_
         have p65 := h65; try simp only [bs] at p65
         refine Run.pass rfl ?_
         refine Run.pass rfl ?_
         refine Run.pass rfl ?_
         refine Run.pass rfl ?_
         refine Run.pass rfl ?_
         refine Run.pass rfl ?_
         refine Run.p (.bool true) rfl rfl ?_
         refine Run.done ?_
         refine Run.cond (b := true) rfl (fun _ => ?_) (fun h => nomatch h)
         refine Run.seq ?_
         have hbj : badR Nw x.ar j = true := by rw [badR]; first | (rw [decide_eq_true (show Nw ≤ ix x.ar j by omega)]; rfl) | (rw [h72, Bool.or_true])
         have hev : evG T X (liAt X k) ((k : Nat) : Int) = true := by rw [hevG]; exact anyI_true (i := j) (by omega) hbj
         have hfin : gatR T X = ((k : Nat) : Int) + 1 := by rw [gatR, findI_hit hall hev (by omega)]
         refine Run.region ?_
         refine Run.p (.int .i64 (((k : Nat) : Int))) rfl rfl ?_
         refine Run.y (.int .i64 ((((k : Nat) : Int)) + 1)) rfl (OpY.add rfl rfl rfl (by omega) (by omega)) ?_
         refine Run.p (.int .i64 ((((k : Nat) : Int)) + 1)) rfl rfl ?_
         refine Run.done ?_
         refine Run.ret ?_
         refine ⟨.int .i64 ((((k : Nat) : Int)) + 1), [], Out.one rfl rfl, (Some'.weak (.nil _)), ?_⟩
         rw [hfin]
        ·refine Run.q (v := .bool false) rfl (OpQ.y (OpY.moveB rfl h65)) ?_
         have p65 := h65; try simp only [bs] at p65
         refine Run.y (.pointer (some ⟨b1, 6, none⟩)) rfl (OpY.fieldAddr Tfo_77_4 rfl rfl) ?_
         refine Run.y (.slice (some ⟨bq, oq, none⟩) (x.ar.length) cq) rfl (OpY.load1 Tone_75 rfl (Cells.blk (.head _) ⟨rfl, trivial⟩)) ?_
         refine Run.p (.int .i64 (((j : Nat) : Int))) rfl rfl ?_
         refine Run.y (.slice (some ⟨bq, oq, none⟩) j cq) rfl (OpY.sliceHN (h := j) Tsl_75 rfl rfl rfl (by omega)) ?_
         refine Run.p (.int .i64 (ix (x.ar) (j))) rfl rfl ?_
         refine Run.q (v := .bool (hasI x.ar (ix x.ar j) j)) rfl (OpQ.call (vs := [.slice (some ⟨bq, oq, none⟩) j cq, .int .i64 (ix (x.ar) (j))]) (caps := []) Tcall_85 rfl rfl (fun w hs => (by have h := l1Has_spec (x := ix x.ar j) ((hs.sl hqa).take (show j ≤ x.ar.length by omega)); rw [hasI_take] at h; exact h))) ?_
         refine Run.p (.bool (hasI x.ar (ix x.ar j) j)) rfl rfl ?_
         refine Run.done ?_
         refine Run.cond (b := hasI x.ar (ix x.ar j) j) rfl (fun h72 => ?_) (fun h72 => ?_)
         ·have p72 := h72; try simp only [bs] at p72
          refine Run.seq ?_
          have hbj : badR Nw x.ar j = true := by rw [badR]; first | (rw [decide_eq_true (show Nw ≤ ix x.ar j by omega)]; rfl) | (rw [h72, Bool.or_true])
          have hev : evG T X (liAt X k) ((k : Nat) : Int) = true := by rw [hevG]; exact anyI_true (i := j) (by omega) hbj
          have hfin : gatR T X = ((k : Nat) : Int) + 1 := by rw [gatR, findI_hit hall hev (by omega)]
          refine Run.region ?_
          refine Run.p (.int .i64 (((k : Nat) : Int))) rfl rfl ?_
          refine Run.y (.int .i64 ((((k : Nat) : Int)) + 1)) rfl (OpY.add rfl rfl rfl (by omega) (by omega)) ?_
          refine Run.p (.int .i64 ((((k : Nat) : Int)) + 1)) rfl rfl ?_
          refine Run.done ?_
          refine Run.ret ?_
          refine ⟨.int .i64 ((((k : Nat) : Int)) + 1), [], Out.one rfl rfl, (Some'.weak (.nil _)), ?_⟩
          rw [hfin]
         ·have p72 := h72; try simp only [bs] at p72
          refine Run.skip ?_
          refine Run.blockEnd ?_
          have hgoodj : badR Nw x.ar j = false := by rw [badR, decide_eq_false (show ¬ Nw ≤ ix x.ar j by omega), Bool.false_or]; exact h72
          refine Run.region ?_
          refine Run.y (.int .i64 ((((j : Nat) : Int)) + 1)) rfl (OpY.add rfl rfl rfl (by omega) (by omega)) ?_
          refine Run.p (.int .i64 ((((j : Nat) : Int)) + 1)) rfl rfl ?_
          refine Run.done ?_
          refine Run.goal ⟨(by repeat (first | exact Same.refl _ _ | refine Same.put rfl ?_ | refine Same.over rfl rfl ?_)), j + 1, ?_, ?_, ?_, ?_⟩
          ·refine ⟨by omega, ?_⟩
           intro i hi
           rcases Nat.lt_succ_iff_lt_or_eq.1 hi with h | h
           ·exact halld i h
           ·rw [h]; exact hgoodj
          ·omega
          ·exact ⟨(by first | rfl | (congr 1; omega) | simp), trivial⟩
          ·exact (Some'.weak (.takeEq (by first | rfl | simp) (.nil _)))
       ·have p58 := h58; try simp only [bs] at p58
        obtain ⟨hj, halld⟩ := hinv
        have hgood : evG T X (liAt X k) ((k : Nat) : Int) = false := by rw [hevG]; exact anyI_false fun i hi => halld i (by omega)
        refine Run.exit rfl ?_
        refine Run.blockEnd ?_
        refine Run.region ?_
        refine Run.y (.int .i64 ((((k : Nat) : Int)) + 1)) rfl (OpY.add rfl rfl rfl (by omega) (by omega)) ?_
        refine Run.p (.int .i64 ((((k : Nat) : Int)) + 1)) rfl rfl ?_
        refine Run.done ?_
        refine Run.goal ⟨(by repeat (first | exact Same.refl _ _ | refine Same.put rfl ?_ | refine Same.over rfl rfl ?_)), k + 1, ?_, ?_, ?_, ?_⟩
        ·refine ⟨by omega, ?_⟩
         intro i hi
         rcases Nat.lt_succ_iff_lt_or_eq.1 hi with h | h
         ·exact hall i h
         ·rw [h]; exact hgood
        ·omega
        ·exact ⟨(by first | rfl | (congr 1; omega) | simp), trivial⟩
        ·exact (Some'.weak (.nil _))
  ·have p16 := h16; try simp only [bs] at p16
   obtain ⟨hk, hall⟩ := hinv
   have hfin : gatR T X = 0 := by rw [gatR, findI_none fun i hi => hall i (by omega)]; rfl
   refine Run.exit rfl ?_
   refine Run.sr ?_
   refine Run.p (.int .i64 0) rfl rfl ?_
   refine Run.done ?_
   refine Run.ret ?_
   refine ⟨.int .i64 0, [], Out.one rfl rfl, (Some'.weak (.nil _)), ?_⟩
   rw [hfin]

end Go.Proofs.YtgpkpopbajkklaaGreatDoor
