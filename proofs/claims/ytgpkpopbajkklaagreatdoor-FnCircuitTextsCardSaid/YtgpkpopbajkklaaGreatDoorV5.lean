/- Walks: the program reads the lines of a circuit text, and looks at its blocks. -/
import Derived.Test.YtgpkpopbajkklaaGreatDoorV4
import Derived.Test.YtgpkpopbajkklaaGreatDoorProg
import Derived.Test.YtgpkpopbajkklaaGreatDoorV2
import Derived.Test.YtgpkpopbajkklaaGreatDoorV3
set_option linter.unusedSimpArgs false
set_option linter.unusedVariables false
namespace Go.Proofs.YtgpkpopbajkklaaGreatDoor
open Go Go.RowKit
namespace TxgT
theorem Tagg_95 : aggOf Tryz.prog 95 = some 5 := by kernel_rfl
theorem Tbool_4 : Tryz.prog.underlying 4 = some .bool := by kernel_rfl
theorem Tcall_87 : callable Tryz.prog 87 = true := by kernel_rfl
theorem Tcall_88 : callable Tryz.prog 88 = true := by kernel_rfl
theorem Tcall_89 : callable Tryz.prog 89 = true := by kernel_rfl
theorem Tfo_95_0 : fieldOff Tryz.prog 95 0 = some 0 := by kernel_rfl
theorem Tone_9 : oneOf Tryz.prog 9 = true := by kernel_rfl
theorem Tsize_95 : (Tryz.prog.info? 95).map (·.size) = some 5 := by kernel_rfl
theorem Tsl_40 : sliceOf Tryz.prog 40 = some (9, 1, 16, [sv ([])]) := by kernel_rfl
theorem Tsl_85 : sliceOf Tryz.prog 85 = some (95, 5, 72, [sv ([]), .int .i64 0, sv ([]), .int .i64 0, .slice none 0 0]) := by kernel_rfl
theorem Tzero_95 : zeroOf Tryz.prog 95 = some [sv ([]), .int .i64 0, sv ([]), .int .i64 0, .slice none 0 0] := by kernel_rfl
end TxgT
open TxgT
/-- A line beside the slice of its qubits. -/
abbrev LV := Li × Value
abbrev lv (x : Li) (v : Value) : LV := (x, v)
def tle (p : LV) : List Value := [sv p.1.word, .int .i64 p.1.kind, sv p.1.nm, .int .i64 p.1.num, p.2]
/-- Lines as the program's cells. -/
def tls (L : List LV) : List Value := L.flatMap tle
def tgr (L : List LV) : List (Value × Nat × List Value) := L.map fun p => (p.2, p.1.qs.length, ints p.1.qs)
def tx (L : List LV) (k : Nat) : LV := L.getD k (.cl, undef)
theorem flat_get {α : Type} {f : α → List Value} {m : Nat} (hf : ∀ a, (f a).length = m) (d : α) : ∀ {L : List α} {k : Nat}, k < L.length → ∀ j, j < m → (L.flatMap f)[k * m + j]? = (f (L.getD k d))[j]?
  | [], k, h, _, _ => by simp at h
  | a :: L, 0, _, j, hj => by
    rw [List.flatMap_cons, List.getElem?_append_left (by rw [hf]; omega)]
    simp
  | a :: L, k + 1, h, j, hj => by
    rw [List.flatMap_cons, List.getElem?_append_right (by rw [hf, Nat.add_mul]; omega), hf, Nat.add_mul]
    have := flat_get hf d (L := L) (k := k) (by simpa using h) j hj
    rw [show k * m + 1 * m + j - m = k * m + j by omega, this]; simp
theorem flat_pre {α : Type} {f : α → List Value} {m : Nat} (hf : ∀ a, (f a).length = m) (d : α) {L : List α} {k : Nat} (hk : k < L.length) : ∀ (c j : Nat), j + c ≤ m → Pre (L.flatMap f) (k * m + j) (((f (L.getD k d)).drop j).take c)
  | 0, j, _ => by simp [Pre]
  | c + 1, j, h => by
    have h1 := flat_get hf d hk j (by omega)
    have hl := hf (L.getD k d)
    rw [List.drop_eq_getElem_cons (by omega), List.take_succ_cons]
    refine ⟨?_, ?_⟩
    · rw [h1, List.getElem?_eq_getElem (by omega)]
    · rw [Nat.add_assoc]; exact flat_pre hf d hk c (j + 1) (by omega)
theorem flat_len {α : Type} {f : α → List Value} {m : Nat} (hf : ∀ a, (f a).length = m) (L : List α) : (L.flatMap f).length = L.length * m := by
  induction L with
  | nil => simp
  | cons a L ih => rw [List.flatMap_cons, List.length_append, hf, ih, List.length_cons, Nat.add_mul]; omega
theorem tle_len (p : LV) : (tle p).length = 5 := rfl
@[simp] theorem tls_length (L : List LV) : (tls L).length = L.length * 5 := flat_len tle_len L
theorem tls_pre {L : List LV} {k : Nat} (hk : k < L.length) (c j : Nat) (h : j + c ≤ 5) : Pre (tls L) (k * 5 + j) (((tle (tx L k)).drop j).take c) := flat_pre tle_len _ hk c j h
theorem Weak.grpSnocG {α : Type} {g : α → Value × Nat × List Value} {H : List Res} {e : TypeId} {size : Nat} {v : Value} {n : Nat} {xs : List Value} {L : List α} {a : α} (hg : g a = (v, n, xs)) : Weak (.own v e size n xs :: .grp e size (L.map g) :: H) (.grp e size ((L ++ [a]).map g) :: H) :=
  Weak.grpIn.trans (Weak.grpPerm (by rw [List.map_append, List.map_cons, List.map_nil, hg]; exact (List.perm_append_singleton _ _).symm))
theorem Weak.tgrSnoc {H : List Res} {e : TypeId} {x : Li} {v : Value} {L : List LV} : Weak (.own v e 1 x.qs.length (ints x.qs) :: .grp e 1 (tgr L) :: H) (.grp e 1 (tgr (L ++ [lv x v])) :: H) :=
  Weak.grpSnocG (g := fun p : LV => (p.2, p.1.qs.length, ints p.1.qs)) rfl
/-- The line at a place: the first one, and no other, tells the qubits. -/
def lnAt (i : Nat) (l : Bs) : Option Li := match lineB l with
  | some x => if (x.word == wQ) = (i == 0) then some x else none
  | none => none
def badAt (P : List Bs) (i : Nat) : Bool := (lnAt i (stx P i)).isNone
/-- The number of the first line that has none of the forms, or 0. -/
def fltL (P : List Bs) : Int := findI (badAt P) P.length + 1
def lns (P : List Bs) (k : Nat) : List Li := (List.range k).map fun i => (lnAt i (stx P i)).getD .cl
@[simp] theorem lns_length (P : List Bs) (k : Nat) : (lns P k).length = k := by simp [lns]
theorem lns_succ {P : List Bs} {k : Nat} {x : Li} (h : lnAt k (stx P k) = some x) : lns P (k + 1) = lns P k ++ [x] := by
  rw [lns, List.range_succ, List.map_append, List.map_cons, List.map_nil, h]; rfl
theorem lnAt_bad {i : Nat} {l : Bs} (h : lineB l = none) : lnAt i l = none := by rw [lnAt, h]
theorem lnAt_ok {i : Nat} {l : Bs} {x : Li} (h : lineB l = some x) (hw : (x.word == wQ) = (i == 0)) : lnAt i l = some x := by rw [lnAt, h]; exact if_pos hw
theorem lnAt_no {i : Nat} {l : Bs} {x : Li} (h : lineB l = some x) (hw : ¬ (x.word == wQ) = (i == 0)) : lnAt i l = none := by rw [lnAt, h]; exact if_neg hw
theorem int_nat_zero (k : Nat) : (((k : Nat) : Int) == 0) = (k == 0) := by
  by_cases h : k = 0
  · subst h; rfl
  · rw [beq_eq_false_iff_ne.2 h, beq_eq_false_iff_ne.2 (by omega)]
/-- The lines of a text. -/
def piecesP (s : Bs) : List Bs := splitC 10 (Lib.trimSuffix s [10])
theorem trim_le (s m : Bs) : (Lib.trimSuffix s m).length ≤ s.length := by unfold Lib.trimSuffix; split <;> simp

set_option maxHeartbeats 4000000 in
set_option maxRecDepth 20000 in
theorem readLines_spec {s : Bs} {w : World} (hg : Gl w) (hl : s.length ≤ 8000) : Calls Tryz.prog 56 #[sv s] w (Post No w fun v H => ∃ (vl : Value) (L : List LV), v = .tuple #[vl, .int .i64 (fltL (piecesP s))] ∧ H = [.own vl 95 5 L.length (tls L), .grp 3 1 (tgr L)] ∧ (fltL (piecesP s) = 0 → L.map (·.1) = lns (piecesP s) (piecesP s).length)) := by
 obtain ⟨P, hP⟩ : ∃ P, piecesP s = P := ⟨_, rfl⟩
 have hP16 : P.length ≤ 8001 := by rw [← hP]; have := splitC_length 10 (Lib.trimSuffix s [10]); have := trim_le s [10]; unfold piecesP; omega
 have hPl : ∀ t ∈ P, t.length ≤ 16777000 := fun t ht => by rw [← hP] at ht; have := splitC_le t ht; have := trim_le s [10]; omega
 refine enter (n := 42) (args := [sv s]) Tryz.func56 rfl rfl (St.empty _ _) ?_
 refine .sr ?_
 iterate 2 refine .m ?_
 refine .dsr ?_
 refine .step rfl (.buildSlice (us := []) Tsl_85 (by decide) (by decide) rfl rfl fun b1 => ?_)
 refine .m ?_
 refine .done ?_
 refine Run.weak (H' := [.grp 3 1 (tgr []), .own (.slice (some ⟨b1, 0, none⟩) 0 0) 95 5 0 ([])]) (Weak.grpNil _ _) ?_ ⟨_, _, rfl, fun _ => nofun, fun _ => nofun⟩
 refine .seq ?_
 refine .sr ?_
 refine .w (sv s) ?_
 refine .c (sv (Lib.trimSuffix s [10])) [sv s, sv ([10])] Tcall_88 (fun w hs => TrimSuffix_spec (by omega)) ?_
 refine .step rfl (.c [sv (Lib.trimSuffix s [10]), sv ([10])] Tcall_87 (fun w hs => Split_specW 10 (show splitC 10 (Lib.trimSuffix s [10]) = P from hP) (hg.go hs) (by have := trim_le s [10]; omega)) ?_)
 rintro _ _ ⟨b0, rfl, rfl⟩
 show Run _ _ (putF _ _ _ (.slice (some ⟨b0, 0, none⟩) (P.length) (P.length))) [.own (.slice (some ⟨b0, 0, none⟩) (P.length) (P.length)) 9 1 (P.length) (strs P), .grp 3 1 (tgr []), .own (.slice (some ⟨b1, 0, none⟩) 0 0) 95 5 0 ([])]
 refine .u (.int .i64 (((P.length : Nat) : Int))) (.len Tsl_40 rfl) ?_
 refine .m ?_
 refine .done ?_
 refine .block ?_
 refine Run.loop (ι := Nat × List LV × Value) [2, 3, 4, 5, 6, 7, 8, 14, 15, 16, 17, 18, 19, 20, 21, 22, 23, 24, 25, 26, 27, 28, 29, 30, 31, 32, 33, 34, 35, 36, 37, 38, 39, 40] (fun ⟨k, L, vo⟩ => [(4, vo), (14, .int .i64 (((k : Nat) : Int)))]) (fun ⟨k, L, vo⟩ => [.own (.slice (some ⟨b0, 0, none⟩) (P.length) (P.length)) 9 1 (P.length) (strs P), .own vo 95 5 (L.length) (tls L), .grp 3 1 (tgr L)]) (fun ⟨k, L, vo⟩ => k ≤ P.length ∧ L.length = k ∧ L.map (·.1) = lns P k ∧ ∀ i, i < k → badAt P i = false) (fun ⟨k, L, vo⟩ => P.length - k) (0, [], .slice (some ⟨b1, 0, none⟩) 0 0) ?_ ?_ ?_ ?_
 ·exact ⟨Nat.zero_le _, rfl, rfl, fun i hi => by omega⟩
 ·exact ⟨rfl, rfl, trivial⟩
 ·exact ((Weak.selF [0, 1, 0]).trans (Some'.weak (.take (.takeEq (by first | rfl | simp) (.takeEq (by first | rfl | simp) (.nil _))))))
 rintro ⟨k, L, vo⟩ fr hinv
 show Run _ _ (over _ _ [(4, vo), (14, .int .i64 (((k : Nat) : Int)))] fr) [.own (.slice (some ⟨b0, 0, none⟩) (P.length) (P.length)) 9 1 (P.length) (strs P), .own vo 95 5 (L.length) (tls L), .grp 3 1 (tgr L)]
 try dsimp only at hinv
 refine .sr ?_
 refine .w (.bool (decide ((((k : Nat) : Int)) < (((P.length : Nat) : Int))))) ?_
 refine .done ?_
 refine .seq ?_
 refine .cond (b := decide ((((k : Nat) : Int)) < (((P.length : Nat) : Int)))) rfl (fun h15 => ?_) (fun h15 => ?_)
 ·have p15 := h15; try simp only [bs] at p15
  have hltk : k < P.length := by omega
  obtain ⟨hk, hLk, hLm, hgoodk⟩ := hinv
  refine .skip ?_
  refine .seq ?_
  refine .block ?_
  refine .sr ?_
  refine .m ?_
  refine .u (.pointer (some ⟨b0, k, none⟩)) (.ix k Tsl_40) ?_
  refine .u (sv (stx P k)) (.load1 Tone_9 rfl (Cells.own0 (.head _) (preS (by omega)))) ?_
  refine .m ?_
  refine .w (sv (stx P k)) ?_
  refine .dsr ?_
  refine .w (sv (stx P k)) ?_
  refine .step rfl (.c [sv (stx P k)] Tcall_89 (fun w hs => readLine_spec (hg.go hs) (stx_len hPl k)) ?_)
  rintro _ _ ⟨c0, c1, c2, c3, v1, qs, bb, rfl, rfl, hln⟩
  show Run _ _ (putF _ _ _ (.tuple #[.agg #[sv c0, .int .i64 c1, sv c2, .int .i64 c3, v1], .bool bb])) [.own v1 3 1 (qs.length) (ints qs), .own (.slice (some ⟨b0, 0, none⟩) (P.length) (P.length)) 9 1 (P.length) (strs P), .own vo 95 5 (L.length) (tls L), .grp 3 1 (tgr L)]
  refine .w (.tuple #[.agg #[sv c0, .int .i64 c1, sv c2, .int .i64 c3, v1], .bool bb]) ?_
  refine .w (.agg #[sv c0, .int .i64 c1, sv c2, .int .i64 c3, v1]) ?_
  refine .w (.bool bb) ?_
  refine .step rfl (.alloc (zs := [sv ([]), .int .i64 0, sv ([]), .int .i64 0, .slice none 0 0]) Tzero_95 fun b2 => ?_)
  refine Run.formOwn (.tail _ (.head _)) (fun A_v11 c_v11 hv hcapc_v11 hmaxc_v11 => ?_) (fun _ _ _ => ⟨nofun, nofun, nofun⟩)
  subst hv
  refine .step rfl (.storeAll (us := [sv c0, .int .i64 c1, sv c2, .int .i64 c3, .slice A_v11 (qs.length) c_v11]) Tsize_95 rfl rfl rfl (.here _) rfl ?_)
  refine .m ?_
  refine .done ?_
  refine .seq ?_
  refine .sr ?_
  refine .m ?_
  refine .w (.bool (!bb)) ?_
  rcases Bool.eq_false_or_eq_true (!bb) with h26 | h26
  ·refine .mb h26 ?_
   have p26 := h26; try simp only [bs] at p26
   have hbad : badAt P k = true := by
    have : lineB (stx P k) = none := by
     have h := hln.1; rw [show bb = false by simpa using h26] at h
     cases hb2 : lineB (stx P k) with
     | none => rfl
     | some y => rw [hb2] at h; cases h
    rw [badAt, lnAt_bad this]; rfl
   iterate 6 refine .pass rfl ?_
   refine .w (.bool true) ?_
   refine .done ?_
   refine .cond (b := true) rfl (fun _ => ?_) (fun h => nomatch h)
   refine .seq ?_
   refine Run.weak (H' := [.grp 3 1 (tgr []), .blk b2 95 [sv c0, .int .i64 c1, sv c2, .int .i64 c3, .slice A_v11 (qs.length) c_v11], .own (.slice A_v11 (qs.length) c_v11) 3 1 (qs.length) (ints qs), .own (.slice (some ⟨b0, 0, none⟩) (P.length) (P.length)) 9 1 (P.length) (strs P), .own vo 95 5 (L.length) (tls L), .grp 3 1 (tgr L)]) (Weak.grpNil _ _) ?_ ⟨_, _, rfl, fun _ => nofun, fun _ => nofun⟩
   have hflt : fltL P = ((k + 1 : Nat) : Int) := by rw [fltL, findI_hit hgoodk hbad hltk]; rfl
   refine .region ?_
   refine .m ?_
   refine .u (.int .i64 ((((k : Nat) : Int)) + 1)) (.add rfl rfl rfl (by omega) (by omega)) ?_
   iterate 2 refine .m ?_
   refine .done ?_
   refine .ret ?_
   refine ⟨.tuple #[.slice none 0 0, .int .i64 ((((k : Nat) : Int)) + 1)], [.own (.slice none 0 0) 95 5 (([] : List LV).length) (tls ([] : List LV)), .grp 3 1 (tgr [])], Out.two rfl rfl rfl, ((Weak.nilOwn 95 5).trans (Some'.weak (.takeEq (by first | rfl | simp [tls]) (.take (.nil _))))), ?_⟩
   refine ⟨_, [], ?_, rfl, ?_⟩
   ·first | (rw [hP, hflt]; done) | (rw [hP, hflt]; rfl)
   ·intro h; rw [hP, hflt] at h; omega
  refine .mb h26 ?_
  have p26 := h26; try simp only [bs] at p26
  obtain ⟨x, hx⟩ : ∃ x, lineB (stx P k) = some x := Option.isSome_iff_exists.1 (by rw [← hln.1]; simpa using h26)
  obtain ⟨rfl, rfl, rfl, rfl, rfl⟩ := hln.2 x hx
  refine .fa Tfo_95_0 ?_
  refine .u (sv (x.word)) (.load1 Tone_9 rfl (.b (.head _))) ?_
  refine .u (.bool ((x.word) == ([113, 117, 98, 105, 116, 115]))) (.eqS rfl rfl) ?_
  refine .m ?_
  refine .w (.bool ((((k : Nat) : Int)) == 0)) ?_
  refine .u (.bool (((x.word) == ([113, 117, 98, 105, 116, 115])) != ((((k : Nat) : Int)) == 0))) (.eqBn Tbool_4 rfl rfl) ?_
  refine .w (.bool (((x.word) == ([113, 117, 98, 105, 116, 115])) != ((((k : Nat) : Int)) == 0))) ?_
  refine .done ?_
  refine .cond (b := ((x.word) == ([113, 117, 98, 105, 116, 115])) != ((((k : Nat) : Int)) == 0)) rfl (fun h33 => ?_) (fun h33 => ?_)
  ·have p33 := h33; try simp only [bs] at p33
   have hbad : badAt P k = true := by
    rw [badAt, lnAt_no hx (by rw [← int_nat_zero]; simpa [wQ] using h33)]; rfl
   refine .seq ?_
   refine Run.weak (H' := [.grp 3 1 (tgr []), .blk b2 95 [sv (x.word), .int .i64 (x.kind), sv (x.nm), .int .i64 (x.num), .slice A_v11 (x.qs.length) c_v11], .own (.slice A_v11 (x.qs.length) c_v11) 3 1 (x.qs.length) (ints x.qs), .own (.slice (some ⟨b0, 0, none⟩) (P.length) (P.length)) 9 1 (P.length) (strs P), .own vo 95 5 (L.length) (tls L), .grp 3 1 (tgr L)]) (Weak.grpNil _ _) ?_ ⟨_, _, rfl, fun _ => nofun, fun _ => nofun⟩
   have hflt : fltL P = ((k + 1 : Nat) : Int) := by rw [fltL, findI_hit hgoodk hbad hltk]; rfl
   refine .region ?_
   refine .m ?_
   refine .u (.int .i64 ((((k : Nat) : Int)) + 1)) (.add rfl rfl rfl (by omega) (by omega)) ?_
   iterate 2 refine .m ?_
   refine .done ?_
   refine .ret ?_
   refine ⟨.tuple #[.slice none 0 0, .int .i64 ((((k : Nat) : Int)) + 1)], [.own (.slice none 0 0) 95 5 (([] : List LV).length) (tls ([] : List LV)), .grp 3 1 (tgr [])], Out.two rfl rfl rfl, ((Weak.nilOwn 95 5).trans (Some'.weak (.takeEq (by first | rfl | simp [tls]) (.take (.nil _))))), ?_⟩
   refine ⟨_, [], ?_, rfl, ?_⟩
   ·first | (rw [hP, hflt]; done) | (rw [hP, hflt]; rfl)
   ·intro h; rw [hP, hflt] at h; omega
  have p33 := h33; try simp only [bs] at p33
  have hat : lnAt k (stx P k) = some x := lnAt_ok hx (by rw [← int_nat_zero]; simpa [wQ] using h33)
  refine .skip ?_
  refine .region ?_
  refine .w vo ?_
  refine .u (.agg #[sv (x.word), .int .i64 (x.kind), sv (x.nm), .int .i64 (x.num), .slice A_v11 (x.qs.length) c_v11]) (.loadN (cs := [sv (x.word), .int .i64 (x.kind), sv (x.nm), .int .i64 (x.num), .slice A_v11 (x.qs.length) c_v11]) Tagg_95 rfl (Cells.blk (.head _) ⟨rfl, rfl, rfl, rfl, rfl, trivial⟩)) ?_
  refine .step rfl (.buildSlice (us := [sv (x.word), .int .i64 (x.kind), sv (x.nm), .int .i64 (x.num), .slice A_v11 (x.qs.length) c_v11]) Tsl_85 (by decide) (by decide) ⟨rfl, [sv (x.word), .int .i64 (x.kind), sv (x.nm), .int .i64 (x.num), .slice A_v11 (x.qs.length) c_v11], _, rfl, rfl, rfl, rfl⟩ rfl fun b3 => ?_)
  refine .step rfl (.append (H1 := [.own (.slice (some ⟨b3, 0, none⟩) 1 1) 95 5 1 ([sv (x.word), .int .i64 (x.kind), sv (x.nm), .int .i64 (x.num), .slice A_v11 (x.qs.length) c_v11]), .blk b2 95 [sv (x.word), .int .i64 (x.kind), sv (x.nm), .int .i64 (x.num), .slice A_v11 (x.qs.length) c_v11], .own (.slice A_v11 (x.qs.length) c_v11) 3 1 (x.qs.length) (ints x.qs), .own (.slice (some ⟨b0, 0, none⟩) (P.length) (P.length)) 9 1 (P.length) (strs P)]) (H2 := [.grp 3 1 (tgr L)]) (v := vo) (u := .slice (some ⟨b3, 0, none⟩) 1 1) (n := L.length) (m := 1) (xs := tls L) (ys := [sv (x.word), .int .i64 (x.kind), sv (x.nm), .int .i64 (x.num), .slice A_v11 (x.qs.length) c_v11]) Tsl_85 (by decide) rfl rfl rfl rfl (fun w hs => hs.slOwn (.head _)) (by simp [Value.oneCell']) (by omega) (by simp only [maxLen]; omega) fun av1 hnav1 => ?_)
  refine Run.weak (H' := [.own (.slice (some ⟨b3, 0, none⟩) 1 1) 95 5 1 ([sv (x.word), .int .i64 (x.kind), sv (x.nm), .int .i64 (x.num), .slice A_v11 (x.qs.length) c_v11]), .blk b2 95 [sv (x.word), .int .i64 (x.kind), sv (x.nm), .int .i64 (x.num), .slice A_v11 (x.qs.length) c_v11], .own (.slice A_v11 (x.qs.length) c_v11) 3 1 (x.qs.length) (ints x.qs), .own (.slice (some ⟨b0, 0, none⟩) (P.length) (P.length)) 9 1 (P.length) (strs P), .own av1 95 5 ((L ++ [lv x (.slice A_v11 (x.qs.length) c_v11)]).length) (tls (L ++ [lv x (.slice A_v11 (x.qs.length) c_v11)])), .grp 3 1 (tgr L)]) (Some'.weak (.take (.take (.take (.take (.takeEq (by simp [tls, tle]) (.take (.nil _)))))))) ?_ ⟨_, _, rfl, fun _ => nofun, fun _ => nofun⟩
  refine .w av1 ?_
  refine .done ?_
  refine .blockEnd ?_
  refine Run.weak (H' := [.grp 3 1 (tgr (L ++ [lv x (.slice A_v11 (x.qs.length) c_v11)])), .own (.slice (some ⟨b3, 0, none⟩) 1 1) 95 5 1 ([sv (x.word), .int .i64 (x.kind), sv (x.nm), .int .i64 (x.num), .slice A_v11 (x.qs.length) c_v11]), .blk b2 95 [sv (x.word), .int .i64 (x.kind), sv (x.nm), .int .i64 (x.num), .slice A_v11 (x.qs.length) c_v11], .own (.slice (some ⟨b0, 0, none⟩) (P.length) (P.length)) 9 1 (P.length) (strs P), .own av1 95 5 ((L ++ [lv x (.slice A_v11 (x.qs.length) c_v11)]).length) (tls (L ++ [lv x (.slice A_v11 (x.qs.length) c_v11)]))]) ((Weak.selF [2, 4]).trans Weak.tgrSnoc) ?_ ⟨_, _, rfl, fun _ => nofun, fun _ => nofun⟩
  refine .region ?_
  refine .u (.int .i64 ((((k : Nat) : Int)) + 1)) (.add rfl rfl rfl (by omega) (by omega)) ?_
  refine .m ?_
  refine .done ?_
  refine .goal ⟨(by repeat (first | exact Same.refl _ _ | refine Same.put rfl ?_ | refine Same.over rfl rfl ?_)), (k + 1, (L ++ [lv x (.slice A_v11 (x.qs.length) c_v11)]), av1), ?_, ?_, ?_, ?_⟩
  ·refine ⟨by omega, by simp [hLk], by rw [lns_succ hat, List.map_append, hLm]; rfl, ?_⟩
   intro i hi
   rcases Nat.lt_succ_iff_lt_or_eq.1 hi with h | h
   ·exact hgoodk i h
   ·rw [h, badAt, hat]; rfl
  ·show P.length - (k + 1) < P.length - k; omega
  ·exact ⟨(by first | rfl | (congr 1; omega) | simp), (by first | rfl | (congr 1; omega) | simp), trivial⟩
  ·exact ((Weak.selF [3, 3, 0]).trans (Some'.weak (.takeEq (by first | rfl | simp) (.takeEq (by first | rfl | simp) (.takeEq (by first | rfl | simp) (.nil _))))))
 have p15 := h15; try simp only [bs] at p15
 have hkn : k = P.length := by omega
 obtain ⟨hk, hLk, hLm, hgoodk⟩ := hinv
 have hflt : fltL P = 0 := by rw [fltL, findI_none fun i hi => hgoodk i (by omega)]; rfl
 refine .exit rfl ?_
 refine .sr ?_
 refine .w vo ?_
 refine .w vo ?_
 refine .m ?_
 refine .done ?_
 refine .ret ?_
 refine ⟨.tuple #[vo, .int .i64 0], [.own vo 95 5 (L.length) (tls L), .grp 3 1 (tgr L)], Out.two rfl rfl rfl, (Some'.weak (.skip (.take (.take (.nil _))))), ?_⟩
 refine ⟨_, L, ?_, rfl, ?_⟩
 ·first | (rw [hP, hflt]; done) | (rw [hP, hflt]; rfl)
 ·intro _; rw [hP, hLm, hkn]

end Go.Proofs.YtgpkpopbajkklaaGreatDoor
/- Walks: the blocks of a circuit text. -/
set_option linter.unusedSimpArgs false
set_option linter.unusedVariables false
namespace Go.Proofs.YtgpkpopbajkklaaGreatDoor
open Go Go.RowKit
namespace TxhT
theorem Tagg_95 : aggOf Tryz.prog 95 = some 5 := by kernel_rfl
theorem Tfo_95_0 : fieldOff Tryz.prog 95 0 = some 0 := by kernel_rfl
theorem Tone_3 : oneOf Tryz.prog 3 = true := by kernel_rfl
theorem Tone_9 : oneOf Tryz.prog 9 = true := by kernel_rfl
theorem Tsize_95 : (Tryz.prog.info? 95).map (·.size) = some 5 := by kernel_rfl
theorem Tsl_75 : sliceOf Tryz.prog 75 = some (3, 1, 8, [.int .i64 0]) := by kernel_rfl
theorem Tsl_85 : sliceOf Tryz.prog 85 = some (95, 5, 72, [sv ([]), .int .i64 0, sv ([]), .int .i64 0, .slice none 0 0]) := by kernel_rfl
theorem Tzero_95 : zeroOf Tryz.prog 95 = some [sv ([]), .int .i64 0, sv ([]), .int .i64 0, .slice none 0 0] := by kernel_rfl
end TxhT
open TxhT
theorem tls_preF {L : List LV} {k : Nat} {x : Li} {v : Value} (hk : k < L.length) (hx : (tx L k).1 = x) (hv : (tx L k).2 = v) : Pre (tls L) (k * 5) [sv x.word, .int .i64 x.kind, sv x.nm, .int .i64 x.num, v] := by
  subst hx; subst hv; exact tls_pre hk 5 0 (by decide)
/-- The slices of the lines' qubits can be read. -/
def LQ (w : World) (L : List LV) : Prop := ∀ k, k < L.length → Sl w (tx L k).2 1 (tx L k).1.qs.length (ints (tx L k).1.qs)
theorem tx_mem {L : List LV} {k : Nat} (hk : k < L.length) : tx L k ∈ L := by
  have : tx L k = L[k] := by simp [tx, List.getD, hk]
  rw [this]; exact List.getElem_mem hk
theorem Weak.grpTakeG {H : List Res} {e : TypeId} {size : Nat} {p : Value × Nat × List Value} {A B : List (Value × Nat × List Value)} : Weak (.grp e size (A ++ p :: B) :: H) (.own p.1 e size p.2.1 p.2.2 :: .grp e size (A ++ B) :: H) :=
  (Weak.grpPerm (l' := p :: (A ++ B)) List.perm_middle).trans Weak.grpOut
theorem St.slGrpG {M : Nat → Prop} {w0 w : World} {H : List Res} {e : TypeId} {size : Nat} {l : List (Value × Nat × List Value)} (hs : St M w0 w H) (hm : Res.grp e size l ∈ H) {p : Value × Nat × List Value} (hp : p ∈ l) : Sl w p.1 size p.2.1 p.2.2 := by
  obtain ⟨A, B, rfl⟩ := List.append_of_mem hp
  obtain ⟨H1, H2, rfl⟩ := List.append_of_mem hm
  have h1 := hs.perm (List.perm_middle (a := Res.grp e size (A ++ p :: B)) (l₁ := H1) (l₂ := H2))
  exact (Weak.grpTakeG _ _ _ h1).slOwn (.head _)
theorem St.lq {M : Nat → Prop} {w0 w : World} {H : List Res} {e : TypeId} {L : List LV} (hs : St M w0 w H) (hm : Res.grp e 1 (tgr L) ∈ H) : LQ w L :=
  fun k hk => hs.slGrpG hm (p := ((tx L k).2, (tx L k).1.qs.length, ints (tx L k).1.qs)) (List.mem_map.2 ⟨_, tx_mem hk, rfl⟩)
theorem Sl.slicedE {w : World} {A : Option Addr} {n c l size : Nat} {xs : List Value} (h : Sl w (.slice A n c) size n xs) (hl : l ≤ n) : ∃ A2 c2, sliced A l n c size = .slice A2 (n - l) c2 ∧ n - l ≤ c2 ∧ Sl w (.slice A2 (n - l) c2) size (n - l) (xs.drop (l * size)) := by
  have h1 := h.slicedL hl
  obtain ⟨A2, c2, h2, h3, _⟩ := h1.form0
  exact ⟨A2, c2, h2, h3, by rw [← h2]; exact h1⟩
theorem OpY.sliceLE {E : Env} {f : Fr} {H : List Res} {d : Option Tmp} {ty : TypeId} {pos : String} {after : Array Edge} {gd : Option (Nat × Bool)} {t : TypeId} {x y : Operand} {A : Option Addr} {n c l : Nat} {k : IntKind} {i : Int} {e : TypeId} {size : Nat} {z : Nat × List Value} {v : Value} (ht : sliceOf E.P t = some (e, size, z)) (hx : f.eval x = .slice A n c) (hy : f.eval y = .int k i) (hi : i = (l : Int)) (h1 : l ≤ n) (hv : sliced A l n c size = v) :
    OpY E ⟨d, .slice t x (some y) none none, ty, pos, after, gd⟩ f H v := by
  subst hv; subst hi
  exact OpY.sliceL ht hx hy (by omega) (by omega)
/-- The program's and the reference's look at blocks: the lines that are left, the number of the first of them, the numbers of the lines at which the open blocks begin, and whether only definitions stand before. -/
def fbGo : List Li → Int → List Int → Bool → Int
  | [], _, st, _ => (st.getLast?).getD 0
  | x :: r, num, st, only =>
    if x.word = wE then (if st.length = 0 then num else fbGo r (num + 1) st.dropLast only)
    else if x.word = wD then (if 0 < st.length ∨ only = false then num else fbGo r (num + 1) (st ++ [num]) only)
    else if x.word = wR then fbGo r (num + 1) (st ++ [num]) (only && decide (0 < st.length))
    else fbGo r (num + 1) st (only && decide (0 < st.length))
def fbL (xs : List Li) : Int := fbGo (xs.drop 1) 2 [] true
theorem drop_lv {L : List LV} {k : Nat} (hk : k < L.length) : (L.map (·.1)).drop k = (tx L k).1 :: (L.map (·.1)).drop (k + 1) := by
  rw [List.drop_eq_getElem_cons (by simpa using hk)]
  simp [tx, List.getD, hk]
theorem drop_li {xs : List Li} {k : Nat} (hk : k < xs.length) : xs.drop k = xs.getD k .cl :: xs.drop (k + 1) := by
  rw [List.drop_eq_getElem_cons hk]; simp [List.getD, hk]
theorem tls_drop (L : List LV) (l : Nat) : (tls L).drop (l * 5) = tls (L.drop l) := by
  induction l generalizing L with
  | zero => simp
  | succ l ih =>
    cases L with
    | nil => simp [tls]
    | cons p L =>
      have e : tls (p :: L) = tle p ++ tls L := rfl
      rw [e, List.drop_succ_cons, ← ih, List.drop_append, tle_len, List.drop_eq_nil_iff.2 (by rw [tle_len]; omega)]
      simp [Nat.add_mul]
theorem getLast_ix {l : List Int} (h : 0 < l.length) : (l.getLast?).getD 0 = ix l (l.length - 1) := by
  rw [List.getLast?_eq_getElem?]
  simp [ix, List.getD]
theorem ints_take' (l : List Int) (m : Nat) : (ints l).take m = ints (l.take m) := by simp [ints, List.map_take]
theorem tx_drop1 {L : List LV} {k : Nat} : tx (L.drop 1) k = tx L (1 + k) := by simp [tx, List.getD, Nat.add_comm]
theorem dropLast_take' (l : List Int) : l.dropLast = l.take (l.length - 1) := List.dropLast_eq_take

set_option maxHeartbeats 4000000 in
set_option maxRecDepth 20000 in
theorem faultyBlock_spec {va : Value} {n : Nat} {L : List LV} {w : World} (ha : Sl w va 5 n (tls L)) (hq0 : LQ w L) (h1 : 1 ≤ n) (hn16 : n ≤ 16777216) : Calls Tryz.prog 57 #[va] w (Post No w fun v _ => v = .int .i64 (fbL (L.map (·.1)))) := by
 have hLn : L.length = n := by have := ha.1; simp at this; omega
 obtain ⟨A, c, rfl, hnc, _⟩ := ha.form0
 obtain ⟨A2, c2, hA2, hc2, ha2⟩ := ha.slicedE h1
 rw [tls_drop] at ha2
 obtain ⟨M, hM⟩ : ∃ M, L.drop 1 = M := ⟨_, rfl⟩
 rw [hM] at ha2
 have hMn : M.length = n - 1 := by rw [← hM]; simp [hLn]
 have hqM : LQ w M := fun k hk => by rw [← hM, tx_drop1]; exact hq0 (1 + k) (by omega)
 have hML : (L.map (·.1)).drop 1 = M.map (·.1) := by rw [← hM, List.map_drop]
 refine enter (n := 74) (args := [.slice A n c]) Tryz.func57 rfl rfl (St.empty _ _) ?_
 refine .sr ?_
 refine .m ?_
 refine .dsr ?_
 refine .step rfl (.buildSlice (us := []) Tsl_75 (by decide) (by decide) rfl rfl fun b1 => ?_)
 iterate 2 refine .m ?_
 refine .done ?_
 refine .seq ?_
 refine .sr ?_
 refine .m ?_
 refine .u (.slice A2 ((n - 1)) c2) (.sliceLE (l := 1) Tsl_85 rfl rfl rfl h1 hA2) ?_
 refine .u (.int .i64 ((((n - 1) : Nat) : Int))) (.len Tsl_85 rfl) ?_
 refine .m ?_
 refine .done ?_
 refine .block ?_
 refine Run.loop (ι := Nat × List Int × Bool × Value) ([2, 3, 4, 5, 6, 7, 12, 13, 14, 15, 16, 17, 18, 19, 20, 21, 22, 23, 24, 25, 26, 27, 28, 29, 30, 31, 32, 33, 34, 35, 36, 37, 38, 39, 40, 41, 42, 43, 44, 45, 46, 47, 48, 49, 50, 51, 52, 53, 54, 55] ++ [56, 57, 58, 59, 60, 61, 62, 63, 64]) (fun ⟨k, st, on, vo⟩ => [(3, vo), (4, .bool on), (12, .int .i64 (((k : Nat) : Int)))]) (fun ⟨k, st, on, vo⟩ => [.own vo 3 1 (st.length) (ints st)]) (fun ⟨k, st, on, vo⟩ => k ≤ n - 1 ∧ fbGo ((M.map (·.1)).drop k) ((k + 2 : Nat) : Int) st on = fbL (L.map (·.1)) ∧ st.length ≤ k) (fun ⟨k, st, on, vo⟩ => n - 1 - k) (0, [], true, .slice (some ⟨b1, 0, none⟩) 0 0) ?_ ?_ ?_ ?_
 ·exact ⟨Nat.zero_le _, by rw [List.drop_zero, ← hML]; rfl, by simp⟩
 ·exact ⟨rfl, rfl, rfl, trivial⟩
 ·exact (Some'.weak (.takeEq (by first | rfl | simp) (.nil _)))
 rintro ⟨k, st, on, vo⟩ fr hinv
 show Run _ _ (over _ _ [(3, vo), (4, .bool on), (12, .int .i64 (((k : Nat) : Int)))] fr) [.own vo 3 1 (st.length) (ints st)]
 try dsimp only at hinv
 refine .sr ?_
 refine .w (.bool (decide ((((k : Nat) : Int)) < ((((n - 1) : Nat) : Int))))) ?_
 refine .done ?_
 refine .seq ?_
 refine .cond (b := decide ((((k : Nat) : Int)) < ((((n - 1) : Nat) : Int)))) rfl (fun h13 => ?_) (fun h13 => ?_)
 ·have p13 := h13; try simp only [bs] at p13
  have hltk : k < n - 1 := by omega
  obtain ⟨hk, hgo, hst⟩ := hinv
  have hdk := drop_lv (L := M) (k := k) (by omega)
  obtain ⟨b, o, rfl⟩ := ha2.opn (by omega)
  obtain ⟨x, hx⟩ : ∃ x, (tx (M) k).1 = x := ⟨_, rfl⟩
  obtain ⟨Aq, cq, hq, hcq1, hcq2⟩ := (show Sl _ (tx (M) k).2 1 (tx (M) k).1.qs.length (ints (tx (M) k).1.qs) from hqM k (by omega)).form0
  rw [hx] at hq
  rw [hdk, hx, fbGo] at hgo
  refine .skip ?_
  refine .seq ?_
  refine .block ?_
  refine .sr ?_
  refine .m ?_
  refine .u (.pointer (some ⟨b, o + k * 5, none⟩)) (.ix k Tsl_85) ?_
  refine .u (.agg #[sv (x.word), .int .i64 (x.kind), sv (x.nm), .int .i64 (x.num), .slice Aq (x.qs.length) cq]) (.loadN (cs := [sv (x.word), .int .i64 (x.kind), sv (x.nm), .int .i64 (x.num), .slice Aq (x.qs.length) cq]) Tagg_95 rfl (Cells.arg (k := k * 5) ha2 rfl (by omega) (tls_preF (k := k) (by omega) hx hq))) ?_
  refine .step rfl (.alloc (zs := [sv ([]), .int .i64 0, sv ([]), .int .i64 0, .slice none 0 0]) Tzero_95 fun b2 => ?_)
  refine .m ?_
  refine .step rfl (.storeAll (us := [sv (x.word), .int .i64 (x.kind), sv (x.nm), .int .i64 (x.num), .slice Aq (x.qs.length) cq]) Tsize_95 rfl rfl rfl (.here _) rfl ?_)
  refine .dsr ?_
  refine .m ?_
  refine .u (.int .i64 (((k + 2 : Nat) : Int))) (.add rfl rfl (by omega) (by omega) (by omega)) ?_
  refine .m ?_
  refine .dsr ?_
  refine .fa Tfo_95_0 ?_
  refine .u (sv (x.word)) (.load1 Tone_9 rfl (.b (.head _))) ?_
  refine .done ?_
  refine .block ?_
  refine .sr ?_
  refine .u (.bool ((x.word) == wE)) (.eqS rfl rfl) ?_
  refine .m ?_
  refine .done ?_
  refine .cond (b := (x.word) == wE) rfl (fun h27 => ?_) (fun h27 => ?_)
  ·have p27 := h27; try simp only [bs] at p27
   rw [if_pos p27] at hgo
   refine .seq ?_
   refine .sr ?_
   refine .w vo ?_
   refine Run.formOwn (.tail _ (.head _)) (fun A_vo1 c_vo1 hv hcapc_vo1 hmaxc_vo1 => ?_) (fun _ _ _ => ⟨nofun, nofun, nofun⟩)
   subst hv
   refine .u (.int .i64 (((st.length : Nat) : Int))) (.len Tsl_75 rfl) ?_
   refine .w (.bool ((((st.length : Nat) : Int)) == 0)) ?_
   refine .done ?_
   refine .cond (b := (((st.length : Nat) : Int)) == 0) rfl (fun h31 => ?_) (fun h31 => ?_)
   ·have p31 := h31; try simp only [bs] at p31
    rw [if_pos (by omega)] at hgo
    refine .sr ?_
    iterate 2 refine .m ?_
    refine .done ?_
    refine .ret ?_
    refine ⟨.int .i64 (((k + 2 : Nat) : Int)), [], Out.one rfl rfl, (Some'.weak (.nil _)), ?_⟩
    first | exact congrArg _ hgo | (refine congrArg _ (Eq.trans ?_ hgo); first | (rw [getLast_ix (by omega)]; done) | (rw [List.length_eq_zero_iff.1 (by omega : st.length = 0)]; rfl))
   have p31 := h31; try simp only [bs] at p31
   rw [if_neg (by omega)] at hgo
   refine .skip ?_
   refine .region ?_
   iterate 2 refine .m ?_
   refine .u (.int .i64 (((st.length : Nat) : Int))) (.len Tsl_75 rfl) ?_
   refine .u (.int .i64 ((((st.length : Nat) : Int)) - 1)) (.sub rfl rfl rfl (by omega) (by omega)) ?_
   refine Run.weak (H' := [.own (.slice A_vo1 (st.length) c_vo1) 3 1 (st.length) (ints st), .blk b2 95 [sv (x.word), .int .i64 (x.kind), sv (x.nm), .int .i64 (x.num), .slice Aq (x.qs.length) cq]]) (Weak.selF [1]) ?_ ⟨_, _, rfl, fun _ => nofun, fun _ => nofun⟩
   refine Run.weak (H' := [.own (.slice A_vo1 ((st.length - 1)) c_vo1) 3 1 ((st.length - 1)) (ints st.dropLast), .blk b2 95 [sv (x.word), .int .i64 (x.kind), sv (x.nm), .int .i64 (x.num), .slice Aq (x.qs.length) cq]]) ((Weak.ownTake (m := (st.length - 1)) (by omega)).trans (Some'.weak (.takeEq (by rw [Nat.mul_one, ints_take', ← dropLast_take']) (.take (.nil _))))) ?_ ⟨_, _, rfl, fun _ => nofun, fun _ => nofun⟩
   refine Run.weak (H' := [.own (.slice A_vo1 ((st.length - 1)) c_vo1) 3 1 (st.dropLast.length) (ints st.dropLast), .blk b2 95 [sv (x.word), .int .i64 (x.kind), sv (x.nm), .int .i64 (x.num), .slice Aq (x.qs.length) cq]]) (Some'.weak (.takeEq (by rw [List.length_dropLast]) (.take (.nil _)))) ?_ ⟨_, _, rfl, fun _ => nofun, fun _ => nofun⟩
   refine .u (.slice A_vo1 (st.length - 1) c_vo1) (.sliceHN (h := st.length - 1) Tsl_75 rfl rfl (by omega) (by omega)) ?_
   refine .m ?_
   refine .done ?_
   iterate 2 refine .blockEnd ?_
   refine .region ?_
   refine .u (.int .i64 ((((k : Nat) : Int)) + 1)) (.add rfl rfl rfl (by omega) (by omega)) ?_
   refine .m ?_
   refine .done ?_
   refine .goal ⟨(by repeat (first | exact Same.refl _ _ | refine Same.put rfl ?_ | refine Same.over rfl rfl ?_)), (k + 1, st.dropLast, on, .slice A_vo1 (st.length - 1) c_vo1), ?_, ?_, ?_, ?_⟩
   ·refine ⟨by omega, ?_, by first | omega | (simp; omega)⟩
    first | exact hgo | (rw [← hgo]; congr 1; simp_all; done) | (rw [← hgo]; simp_all; done)
   ·show n - 1 - (k + 1) < n - 1 - k; omega
   ·exact ⟨(by first | rfl | (congr 1; omega) | simp), (by first | rfl | (congr 1; omega) | simp), (by first | rfl | (congr 1; omega) | simp), trivial⟩
   ·exact (Some'.weak (.takeEq (by first | rfl | simp) (.nil _)))
  have p27 := h27; try simp only [bs] at p27
  rw [if_neg p27] at hgo
  refine .sr ?_
  refine .u (.bool ((x.word) == wD)) (.eqS rfl rfl) ?_
  refine .m ?_
  refine .done ?_
  refine .cond (b := (x.word) == wD) rfl (fun h38 => ?_) (fun h38 => ?_)
  ·have p38 := h38; try simp only [bs] at p38
   rw [if_pos p38] at hgo
   refine .seq ?_
   refine .sr ?_
   refine .w vo ?_
   refine Run.formOwn (.tail _ (.head _)) (fun A_vo2 c_vo2 hv hcapc_vo2 hmaxc_vo2 => ?_) (fun _ _ _ => ⟨nofun, nofun, nofun⟩)
   subst hv
   refine .u (.int .i64 (((st.length : Nat) : Int))) (.len Tsl_75 rfl) ?_
   refine .w (.bool (decide ((((st.length : Nat) : Int)) > 0))) ?_
   rcases Bool.eq_false_or_eq_true (decide ((((st.length : Nat) : Int)) > 0)) with h43 | h43
   ·refine .mb h43 ?_
    have p43 := h43; try simp only [bs] at p43
    iterate 2 refine .pass rfl ?_
    refine .w (.bool true) ?_
    refine .done ?_
    refine .cond (b := true) rfl (fun _ => ?_) (fun h => nomatch h)
    refine .seq ?_
    rw [if_pos (by first | exact .inl (by omega) | exact .inr (by simpa using h46))] at hgo
    refine .region ?_
    iterate 2 refine .m ?_
    refine .done ?_
    refine .ret ?_
    refine ⟨.int .i64 (((k + 2 : Nat) : Int)), [], Out.one rfl rfl, (Some'.weak (.nil _)), ?_⟩
    first | exact congrArg _ hgo | (refine congrArg _ (Eq.trans ?_ hgo); first | (rw [getLast_ix (by omega)]; done) | (rw [List.length_eq_zero_iff.1 (by omega : st.length = 0)]; rfl))
   refine .mb h43 ?_
   have p43 := h43; try simp only [bs] at p43
   refine .m ?_
   refine .w (.bool (!on)) ?_
   refine .w (.bool (!on)) ?_
   refine .done ?_
   refine .cond (b := !on) rfl (fun h46 => ?_) (fun h46 => ?_)
   ·have p46 := h46; try simp only [bs] at p46
    refine .seq ?_
    rw [if_pos (by first | exact .inl (by omega) | exact .inr (by simpa using h46))] at hgo
    refine .region ?_
    iterate 2 refine .m ?_
    refine .done ?_
    refine .ret ?_
    refine ⟨.int .i64 (((k + 2 : Nat) : Int)), [], Out.one rfl rfl, (Some'.weak (.nil _)), ?_⟩
    first | exact congrArg _ hgo | (refine congrArg _ (Eq.trans ?_ hgo); first | (rw [getLast_ix (by omega)]; done) | (rw [List.length_eq_zero_iff.1 (by omega : st.length = 0)]; rfl))
   have p46 := h46; try simp only [bs] at p46
   refine .skip ?_
   rw [if_neg (by rintro (h | h) <;> simp_all <;> omega)] at hgo
   refine .region ?_
   iterate 2 refine .m ?_
   refine .step rfl (.buildSlice (us := [.int .i64 (((k + 2 : Nat) : Int))]) Tsl_75 (by decide) (by decide) ⟨rfl, [.int .i64 (((k + 2 : Nat) : Int))], _, rfl, rfl, rfl, rfl⟩ rfl fun b3 => ?_)
   refine .step rfl (.append (H1 := [.own (.slice (some ⟨b3, 0, none⟩) 1 1) 3 1 1 ([.int .i64 (((k + 2 : Nat) : Int))]), .blk b2 95 [sv (x.word), .int .i64 (x.kind), sv (x.nm), .int .i64 (x.num), .slice Aq (x.qs.length) cq]]) (H2 := []) (v := .slice A_vo2 (st.length) c_vo2) (u := .slice (some ⟨b3, 0, none⟩) 1 1) (n := st.length) (m := 1) (xs := ints st) (ys := [.int .i64 (((k + 2 : Nat) : Int))]) Tsl_75 (by decide) rfl rfl rfl rfl (fun w hs => hs.slOwn (.head _)) (by simp [Value.oneCell']) (by omega) (by simp only [maxLen]; omega) fun av1 hnav1 => ?_)
   refine Run.weak (H' := [.own (.slice (some ⟨b3, 0, none⟩) 1 1) 3 1 1 ([.int .i64 (((k + 2 : Nat) : Int))]), .blk b2 95 [sv (x.word), .int .i64 (x.kind), sv (x.nm), .int .i64 (x.num), .slice Aq (x.qs.length) cq], .own av1 3 1 ((st ++ [((k + 2 : Nat) : Int)]).length) (ints (st ++ [((k + 2 : Nat) : Int)]))]) (Some'.weak (.take (.take (.takeEq (by simp [ints]) (.nil _))))) ?_ ⟨_, _, rfl, fun _ => nofun, fun _ => nofun⟩
   refine .w av1 ?_
   refine .done ?_
   iterate 2 refine .blockEnd ?_
   refine .region ?_
   refine .u (.int .i64 ((((k : Nat) : Int)) + 1)) (.add rfl rfl rfl (by omega) (by omega)) ?_
   refine .m ?_
   refine .done ?_
   refine .goal ⟨(by repeat (first | exact Same.refl _ _ | refine Same.put rfl ?_ | refine Same.over rfl rfl ?_)), (k + 1, (st ++ [((k + 2 : Nat) : Int)]), on, av1), ?_, ?_, ?_, ?_⟩
   ·refine ⟨by omega, ?_, by first | omega | (simp; omega)⟩
    first | exact hgo | (rw [← hgo]; congr 1; simp_all; done) | (rw [← hgo]; simp_all; done)
   ·show n - 1 - (k + 1) < n - 1 - k; omega
   ·exact ⟨(by first | rfl | (congr 1; omega) | simp), (by first | rfl | (congr 1; omega) | simp), (by first | rfl | (congr 1; omega) | simp), trivial⟩
   ·exact (Some'.weak (.skip (.skip (.takeEq (by first | rfl | simp) (.nil _)))))
  have p38 := h38; try simp only [bs] at p38
  rw [if_neg p38] at hgo
  refine .sr ?_
  refine .u (.bool ((x.word) == wR)) (.eqS rfl rfl) ?_
  refine .m ?_
  refine .done ?_
  refine .cond (b := (x.word) == wR) rfl (fun h52 => ?_) (fun h52 => ?_)
  ·have p52 := h52; try simp only [bs] at p52
   rw [if_pos p52] at hgo
   refine .sr ?_
   refine .m ?_
   rcases Bool.eq_false_or_eq_true (on) with h55 | h55
   ·refine .mb h55 ?_
    have p55 := h55; try simp only [bs] at p55
    refine .w vo ?_
    refine Run.formOwn (.tail _ (.head _)) (fun A_vo3 c_vo3 hv hcapc_vo3 hmaxc_vo3 => ?_) (fun _ _ _ => ⟨nofun, nofun, nofun⟩)
    subst hv
    refine .u (.int .i64 (((st.length : Nat) : Int))) (.len Tsl_75 rfl) ?_
    refine .w (.bool (decide ((((st.length : Nat) : Int)) > 0))) ?_
    refine .w (.bool (decide ((((st.length : Nat) : Int)) > 0))) ?_
    refine .m ?_
    refine .dr ?_
    iterate 2 refine .m ?_
    refine .step rfl (.buildSlice (us := [.int .i64 (((k + 2 : Nat) : Int))]) Tsl_75 (by decide) (by decide) ⟨rfl, [.int .i64 (((k + 2 : Nat) : Int))], _, rfl, rfl, rfl, rfl⟩ rfl fun b4 => ?_)
    refine .step rfl (.append (H1 := [.own (.slice (some ⟨b4, 0, none⟩) 1 1) 3 1 1 ([.int .i64 (((k + 2 : Nat) : Int))]), .blk b2 95 [sv (x.word), .int .i64 (x.kind), sv (x.nm), .int .i64 (x.num), .slice Aq (x.qs.length) cq]]) (H2 := []) (v := .slice A_vo3 (st.length) c_vo3) (u := .slice (some ⟨b4, 0, none⟩) 1 1) (n := st.length) (m := 1) (xs := ints st) (ys := [.int .i64 (((k + 2 : Nat) : Int))]) Tsl_75 (by decide) rfl rfl rfl rfl (fun w hs => hs.slOwn (.head _)) (by simp [Value.oneCell']) (by omega) (by simp only [maxLen]; omega) fun av2 hnav2 => ?_)
    refine Run.weak (H' := [.own (.slice (some ⟨b4, 0, none⟩) 1 1) 3 1 1 ([.int .i64 (((k + 2 : Nat) : Int))]), .blk b2 95 [sv (x.word), .int .i64 (x.kind), sv (x.nm), .int .i64 (x.num), .slice Aq (x.qs.length) cq], .own av2 3 1 ((st ++ [((k + 2 : Nat) : Int)]).length) (ints (st ++ [((k + 2 : Nat) : Int)]))]) (Some'.weak (.take (.take (.takeEq (by simp [ints]) (.nil _))))) ?_ ⟨_, _, rfl, fun _ => nofun, fun _ => nofun⟩
    refine .w av2 ?_
    refine .done ?_
    iterate 2 refine .blockEnd ?_
    refine .region ?_
    refine .u (.int .i64 ((((k : Nat) : Int)) + 1)) (.add rfl rfl rfl (by omega) (by omega)) ?_
    refine .m ?_
    refine .done ?_
    refine .goal ⟨(by repeat (first | exact Same.refl _ _ | refine Same.put rfl ?_ | refine Same.over rfl rfl ?_)), (k + 1, (st ++ [((k + 2 : Nat) : Int)]), ((decide ((((st.length : Nat) : Int)) > 0))), av2), ?_, ?_, ?_, ?_⟩
    ·refine ⟨by omega, ?_, by first | omega | (simp; omega)⟩
     first | exact hgo | (rw [← hgo]; congr 1; simp_all; done) | (rw [← hgo]; simp_all; done)
    ·show n - 1 - (k + 1) < n - 1 - k; omega
    ·exact ⟨(by first | rfl | (congr 1; omega) | simp), (by first | rfl | (congr 1; omega) | simp), (by first | rfl | (congr 1; omega) | simp), trivial⟩
    ·exact (Some'.weak (.skip (.skip (.takeEq (by first | rfl | simp) (.nil _)))))
   refine .mb h55 ?_
   have p55 := h55; try simp only [bs] at p55
   iterate 3 refine .pass rfl ?_
   refine .w (.bool false) ?_
   refine .m ?_
   refine .dr ?_
   refine .w vo ?_
   refine .m ?_
   refine .step rfl (.buildSlice (us := [.int .i64 (((k + 2 : Nat) : Int))]) Tsl_75 (by decide) (by decide) ⟨rfl, [.int .i64 (((k + 2 : Nat) : Int))], _, rfl, rfl, rfl, rfl⟩ rfl fun b5 => ?_)
   refine .step rfl (.append (H1 := [.own (.slice (some ⟨b5, 0, none⟩) 1 1) 3 1 1 ([.int .i64 (((k + 2 : Nat) : Int))]), .blk b2 95 [sv (x.word), .int .i64 (x.kind), sv (x.nm), .int .i64 (x.num), .slice Aq (x.qs.length) cq]]) (H2 := []) (v := vo) (u := .slice (some ⟨b5, 0, none⟩) 1 1) (n := st.length) (m := 1) (xs := ints st) (ys := [.int .i64 (((k + 2 : Nat) : Int))]) Tsl_75 (by decide) rfl rfl rfl rfl (fun w hs => hs.slOwn (.head _)) (by simp [Value.oneCell']) (by omega) (by simp only [maxLen]; omega) fun av3 hnav3 => ?_)
   refine Run.weak (H' := [.own (.slice (some ⟨b5, 0, none⟩) 1 1) 3 1 1 ([.int .i64 (((k + 2 : Nat) : Int))]), .blk b2 95 [sv (x.word), .int .i64 (x.kind), sv (x.nm), .int .i64 (x.num), .slice Aq (x.qs.length) cq], .own av3 3 1 ((st ++ [((k + 2 : Nat) : Int)]).length) (ints (st ++ [((k + 2 : Nat) : Int)]))]) (Some'.weak (.take (.take (.takeEq (by simp [ints]) (.nil _))))) ?_ ⟨_, _, rfl, fun _ => nofun, fun _ => nofun⟩
   refine .w av3 ?_
   refine .done ?_
   iterate 2 refine .blockEnd ?_
   refine .region ?_
   refine .u (.int .i64 ((((k : Nat) : Int)) + 1)) (.add rfl rfl rfl (by omega) (by omega)) ?_
   refine .m ?_
   refine .done ?_
   refine .goal ⟨(by repeat (first | exact Same.refl _ _ | refine Same.put rfl ?_ | refine Same.over rfl rfl ?_)), (k + 1, (st ++ [((k + 2 : Nat) : Int)]), false, av3), ?_, ?_, ?_, ?_⟩
   ·refine ⟨by omega, ?_, by first | omega | (simp; omega)⟩
    first | exact hgo | (rw [← hgo]; congr 1; simp_all; done) | (rw [← hgo]; simp_all; done)
   ·show n - 1 - (k + 1) < n - 1 - k; omega
   ·exact ⟨(by first | rfl | (congr 1; omega) | simp), (by first | rfl | (congr 1; omega) | simp), (by first | rfl | (congr 1; omega) | simp), trivial⟩
   ·exact (Some'.weak (.skip (.skip (.takeEq (by first | rfl | simp) (.nil _)))))
  have p52 := h52; try simp only [bs] at p52
  rw [if_neg p52] at hgo
  refine .region ?_
  refine .m ?_
  rcases Bool.eq_false_or_eq_true (on) with h22 | h22
  ·refine .mb h22 ?_
   have p22 := h22; try simp only [bs] at p22
   refine .w vo ?_
   refine Run.formOwn (.tail _ (.head _)) (fun A_vo4 c_vo4 hv hcapc_vo4 hmaxc_vo4 => ?_) (fun _ _ _ => ⟨nofun, nofun, nofun⟩)
   subst hv
   refine .u (.int .i64 (((st.length : Nat) : Int))) (.len Tsl_75 rfl) ?_
   refine .w (.bool (decide ((((st.length : Nat) : Int)) > 0))) ?_
   refine .w (.bool (decide ((((st.length : Nat) : Int)) > 0))) ?_
   refine .m ?_
   refine .done ?_
   iterate 2 refine .blockEnd ?_
   refine .region ?_
   refine .u (.int .i64 ((((k : Nat) : Int)) + 1)) (.add rfl rfl rfl (by omega) (by omega)) ?_
   refine .m ?_
   refine .done ?_
   refine .goal ⟨(by repeat (first | exact Same.refl _ _ | refine Same.put rfl ?_ | refine Same.over rfl rfl ?_)), (k + 1, st, ((decide ((((st.length : Nat) : Int)) > 0))), .slice A_vo4 (st.length) c_vo4), ?_, ?_, ?_, ?_⟩
   ·refine ⟨by omega, ?_, by first | omega | (simp; omega)⟩
    first | exact hgo | (rw [← hgo]; congr 1; simp_all; done) | (rw [← hgo]; simp_all; done)
   ·show n - 1 - (k + 1) < n - 1 - k; omega
   ·exact ⟨(by first | rfl | (congr 1; omega) | simp), (by first | rfl | (congr 1; omega) | simp), (by first | rfl | (congr 1; omega) | simp), trivial⟩
   ·exact (Some'.weak (.skip (.takeEq (by first | rfl | simp) (.nil _))))
  refine .mb h22 ?_
  have p22 := h22; try simp only [bs] at p22
  iterate 3 refine .pass rfl ?_
  refine .w (.bool false) ?_
  refine .m ?_
  refine .done ?_
  iterate 2 refine .blockEnd ?_
  refine .region ?_
  refine .u (.int .i64 ((((k : Nat) : Int)) + 1)) (.add rfl rfl rfl (by omega) (by omega)) ?_
  refine .m ?_
  refine .done ?_
  refine .goal ⟨(by repeat (first | exact Same.refl _ _ | refine Same.put rfl ?_ | refine Same.over rfl rfl ?_)), (k + 1, st, false, vo), ?_, ?_, ?_, ?_⟩
  ·refine ⟨by omega, ?_, by first | omega | (simp; omega)⟩
   first | exact hgo | (rw [← hgo]; congr 1; simp_all; done) | (rw [← hgo]; simp_all; done)
  ·show n - 1 - (k + 1) < n - 1 - k; omega
  ·exact ⟨(by first | rfl | (congr 1; omega) | simp), (by first | rfl | (congr 1; omega) | simp), (by first | rfl | (congr 1; omega) | simp), trivial⟩
  ·exact (Some'.weak (.skip (.takeEq (by first | rfl | simp) (.nil _))))
 have p13 := h13; try simp only [bs] at p13
 have hkn : k = n - 1 := by omega
 obtain ⟨hk, hgo, hst⟩ := hinv
 have hdn : (M.map (·.1)).drop k = [] := by rw [List.drop_eq_nil_iff]; simp; omega
 rw [hdn, fbGo] at hgo
 refine .exit rfl ?_
 refine .seq ?_
 refine .sr ?_
 refine .w vo ?_
 refine Run.formOwn (.head _) (fun A_vo5 c_vo5 hv hcapc_vo5 hmaxc_vo5 => ?_) (fun _ _ _ => ⟨nofun, nofun, nofun⟩)
 subst hv
 refine .u (.int .i64 (((st.length : Nat) : Int))) (.len Tsl_75 rfl) ?_
 refine .w (.bool (decide ((((st.length : Nat) : Int)) > 0))) ?_
 refine .done ?_
 refine .cond (b := decide ((((st.length : Nat) : Int)) > 0)) rfl (fun h67 => ?_) (fun h67 => ?_)
 ·have p67 := h67; try simp only [bs] at p67
  refine Run.openOwn (.head _) (by omega) (fun gs cgs hvgs hcapgs _ => ?_) (fun _ _ _ => ⟨nofun, nofun, nofun⟩)
  injection hvgs with hAgs _ hcgs; subst hAgs; subst hcgs
  refine .sr ?_
  iterate 2 refine .m ?_
  refine .u (.int .i64 (((st.length : Nat) : Int))) (.len Tsl_75 rfl) ?_
  refine .u (.int .i64 ((((st.length : Nat) : Int)) - 1)) (.sub rfl rfl rfl (by omega) (by omega)) ?_
  refine .u (.pointer (some ⟨gs, st.length - 1, none⟩)) (.ix (st.length - 1) Tsl_75) ?_
  refine .u (.int .i64 (ix st (st.length - 1))) (.load1 Tone_3 rfl (Cells.own0 (.head _) (pre1 (by omega)))) ?_
  refine .m ?_
  refine .done ?_
  refine .ret ?_
  refine ⟨.int .i64 (ix st (st.length - 1)), [], Out.one rfl rfl, (Some'.weak (.nil _)), ?_⟩
  first | exact congrArg _ hgo | (refine congrArg _ (Eq.trans ?_ hgo); first | (rw [getLast_ix (by omega)]; done) | (rw [List.length_eq_zero_iff.1 (by omega : st.length = 0)]; rfl))
 have p67 := h67; try simp only [bs] at p67
 refine .skip ?_
 refine .sr ?_
 refine .m ?_
 refine .done ?_
 refine .ret ?_
 refine ⟨.int .i64 0, [], Out.one rfl rfl, (Some'.weak (.nil _)), ?_⟩
 first | exact congrArg _ hgo | (refine congrArg _ (Eq.trans ?_ hgo); first | (rw [getLast_ix (by omega)]; done) | (rw [List.length_eq_zero_iff.1 (by omega : st.length = 0)]; rfl))

end Go.Proofs.YtgpkpopbajkklaaGreatDoor
/- Walks: valid edges, valid coupling graphs; the law FnExactIsValidCouplingGraph. -/
set_option linter.unusedSimpArgs false
set_option linter.unusedVariables false
namespace Go.Proofs.YtgpkpopbajkklaaGreatDoor
open Go Go.RowKit
/-- Edge i of a flat list of edges is in range and behind the one before it. -/
def edgeOk (N : Int) (xs : List Int) (i : Nat) : Prop :=
  0 ≤ ix xs (i * 2) ∧ ix xs (i * 2) < ix xs (i * 2 + 1) ∧ ix xs (i * 2 + 1) < N ∧ (0 < i → ix xs ((i - 1) * 2) < ix xs (i * 2) ∨ (ix xs ((i - 1) * 2) = ix xs (i * 2) ∧ ix xs ((i - 1) * 2 + 1) < ix xs (i * 2 + 1)))
instance (N : Int) (xs : List Int) (i : Nat) : Decidable (edgeOk N xs i) := by unfold edgeOk; infer_instance
end Go.Proofs.YtgpkpopbajkklaaGreatDoor
/- Walks: searches in slices, placements, neighbours in a coupling graph. -/
set_option linter.unusedSimpArgs false
set_option linter.unusedVariables false
namespace Go.Proofs.YtgpkpopbajkklaaGreatDoor
open Go Go.RowKit
namespace Cg3T
theorem Tcall_133 : callable Tryz.prog 133 = true := by kernel_rfl
theorem Tone_3 : oneOf Tryz.prog 3 = true := by kernel_rfl
theorem Tsl_75 : sliceOf Tryz.prog 75 = some (3, 1, 8, [.int .i64 0]) := by kernel_rfl
end Cg3T
open Cg3T
set_option maxHeartbeats 1000000 in
set_option maxRecDepth 20000 in
theorem l1Has_spec {va : Value} {n : Nat} {xs : List Int} {x : Int} {w : World} (ha : Sl w va 1 n (ints xs)) : Calls Tryz.prog 85 #[va, .int .i64 x] w (Post No w fun v _ => v = .bool (hasI xs x n)) := by
 have hxl := ha.len
 have hn := ha.le
 obtain ⟨A, c, rfl, _, _⟩ := ha.form0
 refine enter (n := 17) (args := [.slice A n c, .int .i64 x]) Tryz.func85 rfl rfl (St.empty _ _) ?_
 refine .sr ?_
 refine .m ?_
 refine .done ?_
 refine .seq ?_
 refine .sr ?_
 refine .m ?_
 refine .u (.int .i64 (((n : Nat) : Int))) (.len Tsl_75 rfl) ?_
 refine .m ?_
 refine .done ?_
 refine .block ?_
 refine Run.loop (ι := Nat) [4, 6, 9, 10, 11, 12, 13, 14, 15, 16] (fun k => [(9, .int .i64 (((k : Nat) : Int)))]) (fun k => []) (fun k => k ≤ n ∧ (∀ i, i < k → decide (ix xs i = x) = false)) (fun k => n - k) 0 ?_ ?_ ?_ ?_
 ·exact ⟨Nat.zero_le _, by first | trivial | (intro i hi; omega)⟩
 ·exact ⟨rfl, trivial⟩
 ·exact (Some'.weak (.nil _))
 rintro k fr hinv
 show Run _ _ (over _ _ [(9, .int .i64 (((k : Nat) : Int)))] fr) []
 try dsimp only at hinv
 refine .sr ?_
 refine .w (.bool (decide ((((k : Nat) : Int)) < (((n : Nat) : Int))))) ?_
 refine .done ?_
 refine .seq ?_
 refine .cond (b := decide ((((k : Nat) : Int)) < (((n : Nat) : Int)))) rfl (fun h10 => ?_) (fun h10 => ?_)
 ·have p10 := h10; try simp only [bs] at p10
  have hltk : k < n := by omega
  obtain ⟨b, o, rfl⟩ := ha.opn (by omega)
  refine .skip ?_
  refine .seq ?_
  refine .block ?_
  refine .sr ?_
  refine .u (.pointer (some ⟨b, o + k, none⟩)) (.ix k Tsl_75) ?_
  refine .u (.int .i64 (ix xs (k))) (.load1 Tone_3 rfl (Cells.arg (k := k) ha rfl (by omega) (pre1 (by omega)))) ?_
  refine .m ?_
  refine .dsr ?_
  iterate 2 refine .m ?_
  refine .w (.bool ((ix xs (k)) == x)) ?_
  refine .done ?_
  refine .cond (b := (ix xs (k)) == x) rfl (fun h15 => ?_) (fun h15 => ?_)
  ·have p15 := h15; try simp only [bs] at p15
   refine .seq ?_
   have hres : hasI xs x n = true := anyI_true hltk (by simpa using p15)
   refine .region ?_
   refine .m ?_
   refine .done ?_
   refine .ret ?_
   refine ⟨.bool true, [], Out.one rfl rfl, (Some'.weak (.nil _)), ?_⟩
   show _ = _; rw [hres]
  have p15 := h15; try simp only [bs] at p15
  refine .skip ?_
  refine .blockEnd ?_
  have hgood : decide (ix xs k = x) = false := by simpa using p15
  refine .region ?_
  refine .u (.int .i64 ((((k : Nat) : Int)) + 1)) (.add rfl rfl rfl (by omega) (by omega)) ?_
  refine .m ?_
  refine .done ?_
  refine .goal ⟨(by repeat (first | exact Same.refl _ _ | refine Same.put rfl ?_ | refine Same.over rfl rfl ?_)), k + 1, ?_, ?_, ?_, ?_⟩
  ·refine ⟨by omega, ?_⟩
   intro i hi
   rcases Nat.lt_succ_iff_lt_or_eq.1 hi with h | h
   ·exact hinv.2 i h
   ·rw [h]; exact hgood
  ·omega
  ·exact ⟨(by first | rfl | (congr 1; omega) | simp), trivial⟩
  ·exact (Some'.weak (.nil _))
 have p10 := h10; try simp only [bs] at p10
 have hknk : k = n := by omega
 have hres : hasI xs x n = false := by rw [← hknk]; exact anyI_false hinv.2
 refine .exit rfl ?_
 refine .sr ?_
 refine .m ?_
 refine .done ?_
 refine .ret ?_
 refine ⟨.bool false, [], Out.one rfl rfl, (Some'.weak (.nil _)), ?_⟩
 show _ = _; rw [hres]

set_option maxHeartbeats 1000000 in
set_option maxRecDepth 20000 in
theorem IndexInt_spec {va : Value} {n : Nat} {xs : List Int} {x : Int} {w : World} (ha : Sl w va 1 n (ints xs)) : Calls Tryz.prog 133 #[va, .int .i64 x] w (Post No w fun v _ => v = .int .i64 (findI (fun i => decide (ix xs i = x)) n)) := by
 have hxl := ha.len
 have hn := ha.le
 obtain ⟨A, c, rfl, _, _⟩ := ha.form0
 refine enter (n := 19) (args := [.slice A n c, .int .i64 x]) Tryz.func133 rfl rfl (St.empty _ _) ?_
 refine .sr ?_
 refine .m ?_
 refine .done ?_
 refine .seq ?_
 refine .sr ?_
 refine .m ?_
 refine .u (.int .i64 (((n : Nat) : Int))) (.len Tsl_75 rfl) ?_
 refine .m ?_
 refine .done ?_
 refine .block ?_
 refine Run.loop (ι := Nat) [4, 5, 8, 9, 10, 11, 12, 13, 14, 15, 16, 17, 18] (fun k => [(8, .int .i64 (((k : Nat) : Int)))]) (fun k => []) (fun k => k ≤ n ∧ (∀ i, i < k → decide (ix xs i = x) = false)) (fun k => n - k) 0 ?_ ?_ ?_ ?_
 ·exact ⟨Nat.zero_le _, by first | trivial | (intro i hi; omega)⟩
 ·exact ⟨rfl, trivial⟩
 ·exact (Some'.weak (.nil _))
 rintro k fr hinv
 show Run _ _ (over _ _ [(8, .int .i64 (((k : Nat) : Int)))] fr) []
 try dsimp only at hinv
 refine .sr ?_
 refine .w (.bool (decide ((((k : Nat) : Int)) < (((n : Nat) : Int))))) ?_
 refine .done ?_
 refine .seq ?_
 refine .cond (b := decide ((((k : Nat) : Int)) < (((n : Nat) : Int)))) rfl (fun h9 => ?_) (fun h9 => ?_)
 ·have p9 := h9; try simp only [bs] at p9
  have hltk : k < n := by omega
  obtain ⟨b, o, rfl⟩ := ha.opn (by omega)
  refine .skip ?_
  refine .seq ?_
  refine .block ?_
  refine .sr ?_
  iterate 2 refine .m ?_
  refine .dsr ?_
  iterate 3 refine .m ?_
  refine .u (.pointer (some ⟨b, o + k, none⟩)) (.ix k Tsl_75) ?_
  refine .u (.int .i64 (ix xs (k))) (.load1 Tone_3 rfl (Cells.arg (k := k) ha rfl (by omega) (pre1 (by omega)))) ?_
  refine .w (.bool (x == (ix xs (k)))) ?_
  refine .done ?_
  refine .cond (b := x == (ix xs (k))) rfl (fun h16 => ?_) (fun h16 => ?_)
  ·have p16 := h16; try simp only [bs] at p16
   refine .seq ?_
   have hres : findI (fun i => decide (ix xs i = x)) n = k := findI_hit hinv.2 (by simp; omega) hltk
   refine .region ?_
   iterate 2 refine .m ?_
   refine .done ?_
   refine .ret ?_
   refine ⟨.int .i64 (((k : Nat) : Int)), [], Out.one rfl rfl, (Some'.weak (.nil _)), ?_⟩
   show _ = _; rw [hres]
  have p16 := h16; try simp only [bs] at p16
  refine .skip ?_
  refine .blockEnd ?_
  have hgood : decide (ix xs k = x) = false := by simp; omega
  refine .region ?_
  refine .u (.int .i64 ((((k : Nat) : Int)) + 1)) (.add rfl rfl rfl (by omega) (by omega)) ?_
  refine .m ?_
  refine .done ?_
  refine .goal ⟨(by repeat (first | exact Same.refl _ _ | refine Same.put rfl ?_ | refine Same.over rfl rfl ?_)), k + 1, ?_, ?_, ?_, ?_⟩
  ·refine ⟨by omega, ?_⟩
   intro i hi
   rcases Nat.lt_succ_iff_lt_or_eq.1 hi with h | h
   ·exact hinv.2 i h
   ·rw [h]; exact hgood
  ·omega
  ·exact ⟨(by first | rfl | (congr 1; omega) | simp), trivial⟩
  ·exact (Some'.weak (.nil _))
 have p9 := h9; try simp only [bs] at p9
 have hknk : k = n := by omega
 have hres : findI (fun i => decide (ix xs i = x)) n = -1 := by rw [← hknk]; exact findI_none hinv.2
 refine .exit rfl ?_
 refine .sr ?_
 refine .m ?_
 refine .done ?_
 refine .ret ?_
 refine ⟨.int .i64 (-1), [], Out.one rfl rfl, (Some'.weak (.nil _)), ?_⟩
 show _ = _; rw [hres]

set_option maxHeartbeats 1000000 in
set_option maxRecDepth 20000 in
theorem ContainsInt_spec {va : Value} {n : Nat} {xs : List Int} {x : Int} {w : World} (ha : Sl w va 1 n (ints xs)) : Calls Tryz.prog 121 #[va, .int .i64 x] w (Post No w fun v _ => v = .bool (hasI xs x n)) := by
 refine enter (n := 9) (args := [va, .int .i64 x]) Tryz.func121 rfl rfl (St.empty _ _) ?_
 refine .sr ?_
 refine .m ?_
 refine .dsr ?_
 refine .w va ?_
 refine .m ?_
 refine .c (.int .i64 (findI (fun i => decide (ix xs i = x)) n)) [va, .int .i64 x] Tcall_133 (fun w hs => IndexInt_spec (hs.sl ha)) ?_
 refine .w (.bool (decide ((findI (fun i => decide (ix xs i = x)) n) ≥ 0))) ?_
 refine .m ?_
 refine .done ?_
 refine .ret ?_
 refine ⟨.bool (decide ((findI (fun i => decide (ix xs i = x)) n) ≥ 0)), [], Out.one rfl rfl, (Some'.weak (.nil _)), ?_⟩
 show _ = _; rw [findI_ge]; rfl


def edgeAt (xs : List Int) (a b : Int) (i : Nat) : Bool := decide (ix xs (i * 2) = a ∧ ix xs (i * 2 + 1) = b ∨ ix xs (i * 2) = b ∧ ix xs (i * 2 + 1) = a)
/-- Two nodes are connected. -/
def adj (xs : List Int) (n : Nat) (a b : Int) : Bool := anyI (edgeAt xs a b) n
theorem adj_comm (xs : List Int) (n : Nat) (a b : Int) : adj xs n a b = adj xs n b a := anyI_congr fun i _ => by
  unfold edgeAt
  rw [decide_eq_decide]
  omega
def nbL (N : Int) (xs : List Int) (n : Nat) (node : Int) : List Int := filterL (fun k => adj xs n node k) N.toNat

end Go.Proofs.YtgpkpopbajkklaaGreatDoor
/- Gates and definitions of a circuit text; walks: the program's mapped, tooMany, tell, find. -/
set_option linter.unusedSimpArgs false
set_option linter.unusedVariables false
namespace Go.Proofs.YtgpkpopbajkklaaGreatDoor
open Go Go.RowKit
namespace TxiT
theorem Tagg_59 : aggOf Tryz.prog 59 = some 3 := by kernel_rfl
theorem Tagg_69 : aggOf Tryz.prog 69 = some 3 := by kernel_rfl
theorem Tcall_95 : callable Tryz.prog 95 = true := by kernel_rfl
theorem Tfo_59_0 : fieldOff Tryz.prog 59 0 = some 0 := by kernel_rfl
theorem Tfo_69_0 : fieldOff Tryz.prog 69 0 = some 0 := by kernel_rfl
theorem Tfo_69_1 : fieldOff Tryz.prog 69 1 = some 1 := by kernel_rfl
theorem Tfo_69_2 : fieldOff Tryz.prog 69 2 = some 2 := by kernel_rfl
theorem Tfo_91_2 : fieldOff Tryz.prog 91 2 = some 2 := by kernel_rfl
theorem Tfo_91_3 : fieldOff Tryz.prog 91 3 = some 3 := by kernel_rfl
theorem Tfo_91_4 : fieldOff Tryz.prog 91 4 = some 4 := by kernel_rfl
theorem Tone_3 : oneOf Tryz.prog 3 = true := by kernel_rfl
theorem Tone_55 : oneOf Tryz.prog 55 = true := by kernel_rfl
theorem Tone_9 : oneOf Tryz.prog 9 = true := by kernel_rfl
theorem Tsize_3 : (Tryz.prog.info? 3).map (·.size) = some 1 := by kernel_rfl
theorem Tsize_59 : (Tryz.prog.info? 59).map (·.size) = some 3 := by kernel_rfl
theorem Tsize_69 : (Tryz.prog.info? 69).map (·.size) = some 3 := by kernel_rfl
theorem Tsl_22 : sliceOf Tryz.prog 22 = some (69, 3, 24, [.int .i64 0, .int .i64 0, .int .i64 0]) := by kernel_rfl
theorem Tsl_55 : sliceOf Tryz.prog 55 = some (59, 3, 48, [sv ([]), .int .i64 0, .slice none 0 0]) := by kernel_rfl
theorem Tsl_75 : sliceOf Tryz.prog 75 = some (3, 1, 8, [.int .i64 0]) := by kernel_rfl
theorem Tzero_59 : zeroOf Tryz.prog 59 = some [sv ([]), .int .i64 0, .slice none 0 0] := by kernel_rfl
theorem Tzero_69 : zeroOf Tryz.prog 69 = some [.int .i64 0, .int .i64 0, .int .i64 0] := by kernel_rfl
end TxiT
open TxiT
/-- A gate: kind, qubits. -/
abbrev G3 := Int × Int × Int
def g3 (g : G3) : List Int := [g.1, g.2.1, g.2.2]
def fl (L : List G3) : List Int := L.flatMap g3
def gx (L : List G3) (k : Nat) : G3 := L.getD k (0, 0, 0)
theorem g3_len (g : G3) : (g3 g).length = 3 := rfl
theorem fl_len : ∀ L : List G3, (fl L).length = L.length * 3
  | [] => rfl
  | g :: L => by
    have := fl_len L
    simp only [fl, List.flatMap_cons, List.length_append, List.length_cons, g3_len] at this ⊢; omega
theorem fl_append (L M : List G3) : fl (L ++ M) = fl L ++ fl M := by simp [fl]
theorem fl_one (g : G3) : fl [g] = [g.1, g.2.1, g.2.2] := by simp [fl, g3]
theorem fl_ix : ∀ {L : List G3} {k : Nat}, k < L.length → ix (fl L) (k * 3) = (gx L k).1 ∧ ix (fl L) (k * 3 + 1) = (gx L k).2.1 ∧ ix (fl L) (k * 3 + 2) = (gx L k).2.2
  | g :: L, 0, _ => ⟨rfl, rfl, rfl⟩
  | g :: L, k + 1, h => by
    have ih := fl_ix (L := L) (k := k) (by simpa using h)
    have e : ∀ j, ix (fl (g :: L)) ((k + 1) * 3 + j) = ix (fl L) (k * 3 + j) := by
      intro j
      have e1 : fl (g :: L) = g3 g ++ fl L := rfl
      rw [e1, show (k + 1) * 3 + j = 3 + (k * 3 + j) by omega]
      simp only [ix, List.getD]
      rw [List.getElem?_append_right (by rw [g3_len]; omega), g3_len, Nat.add_sub_cancel_left]
    have e2 : gx (g :: L) (k + 1) = gx L k := by simp [gx, List.getD]
    rw [e2]
    exact ⟨(e 0).trans ih.1, (e 1).trans ih.2.1, (e 2).trans ih.2.2⟩
theorem fl_take (L : List G3) : ∀ m, (fl L).take (m * 3) = fl (L.take m) := by
  induction L with
  | nil => intro m; simp [fl]
  | cons g L ih =>
    intro m
    cases m with
    | zero => simp [fl]
    | succ m =>
      have e1 : fl (g :: L) = g3 g ++ fl L := rfl
      have e2 : fl ((g :: L).take (m + 1)) = g3 g ++ fl (L.take m) := rfl
      rw [e1, e2, ← ih, show (m + 1) * 3 = 3 + m * 3 by omega, List.take_append, g3_len, List.take_of_length_le (by rw [g3_len]; omega)]
      congr 2; omega
theorem gx_mem {L : List G3} {k : Nat} (h : k < L.length) : gx L k ∈ L := by
  have : gx L k = L[k] := by simp [gx, List.getD, h]
  rw [this]; exact List.getElem_mem h
theorem take_gx {L : List G3} {k : Nat} (h : k < L.length) : L.take (k + 1) = L.take k ++ [gx L k] := by
  rw [← List.take_append_getElem h]; simp [gx, List.getD, h]
/-- A gate on other qubits. -/
def mapG (ts : List Int) (g : G3) : G3 := (g.1, if g.1 = 12 then g.2.1 else ix ts g.2.1.toNat, if 9 ≤ g.1 ∧ g.1 ≤ 11 then ix ts g.2.2.toNat else g.2.2)
/-- The gates' qubits have places. -/
def MapOk (m : Nat) (L : List G3) : Prop := ∀ g ∈ L, (g.1 ≠ 12 → 0 ≤ g.2.1 ∧ g.2.1 < (m : Int)) ∧ ((9 ≤ g.1 ∧ g.1 ≤ 11) → 0 ≤ g.2.2 ∧ g.2.2 < (m : Int))
/-- Cut to one gate more than there may be. -/
def trim (L : List G3) : List G3 := L.take 401
theorem trim_take {L : List G3} {n q : Nat} (hn : L.length = n) (hq : min n 401 = q) : L.take q = trim L := by
  subst hq; subst hn
  rw [trim, Nat.min_comm]
  exact List.take_eq_take_iff.2 (by simp)
/-- A definition: its name, its qubits, its gates. -/
structure Df where
  nm : Bs
  n : Int
  gs : List G3
abbrev DV := Df × Value
def dle (p : DV) : List Value := [sv p.1.nm, .int .i64 p.1.n, p.2]
def dls (L : List DV) : List Value := L.flatMap dle
def dgr (L : List DV) : List (Value × Nat × List Value) := L.map fun p => (p.2, p.1.gs.length, ints (fl p.1.gs))
def dx (L : List DV) (k : Nat) : DV := L.getD k (⟨[], 0, []⟩, undef)
theorem dle_len (p : DV) : (dle p).length = 3 := rfl
@[simp] theorem dls_length (L : List DV) : (dls L).length = L.length * 3 := flat_len dle_len L
theorem dls_preF {L : List DV} {k : Nat} {d : Df} {v : Value} (hk : k < L.length) (hx : (dx L k).1 = d) (hv : (dx L k).2 = v) : Pre (dls L) (k * 3) [sv d.nm, .int .i64 d.n, v] := by
  subst hx; subst hv; exact flat_pre dle_len (⟨[], 0, []⟩, undef) hk 3 0 (by decide)
def DQ (w : World) (L : List DV) : Prop := ∀ k, k < L.length → Sl w (dx L k).2 3 (dx L k).1.gs.length (ints (fl (dx L k).1.gs))
theorem dx_mem {L : List DV} {k : Nat} (hk : k < L.length) : dx L k ∈ L := by
  have : dx L k = L[k] := by simp [dx, List.getD, hk]
  rw [this]; exact List.getElem_mem hk
theorem St.dq {M : Nat → Prop} {w0 w : World} {H : List Res} {e : TypeId} {L : List DV} (hs : St M w0 w H) (hm : Res.grp e 3 (dgr L) ∈ H) : DQ w L :=
  fun k hk => hs.slGrpG hm (p := ((dx L k).2, (dx L k).1.gs.length, ints (fl (dx L k).1.gs))) (List.mem_map.2 ⟨_, dx_mem hk, rfl⟩)
theorem Weak.dgrSnoc {H : List Res} {e : TypeId} {d : Df} {v : Value} {L : List DV} : Weak (.own v e 3 d.gs.length (ints (fl d.gs)) :: .grp e 3 (dgr L) :: H) (.grp e 3 (dgr (L ++ [(d, v)])) :: H) :=
  Weak.grpSnocG (g := fun p : DV => (p.2, p.1.gs.length, ints (fl p.1.gs))) rfl
/-- The first definition of a name among the first ones: its number, or -1. -/
def fdI (L : List DV) (known : Nat) (nm : Bs) : Int := findI (fun i => (dx L i).1.nm == nm) known
/-- A fault is noted: the least code counts, and of one code the first line. -/
def tellP (c l : Int) (p : Int × Int) : Int × Int := if p.1 = 0 ∨ c < p.1 then (c, l) else p

set_option maxHeartbeats 4000000 in
set_option maxRecDepth 20000 in
theorem mapped_spec {va vt : Value} {n m : Nat} {L : List G3} {ts : List Int} {w : World} (ha : Sl w va 3 n (ints (fl L))) (ht : Sl w vt 1 m (ints ts)) (hm : MapOk m L) (hn16 : n ≤ 16777216) : Calls Tryz.prog 122 #[va, vt] w (Post No w fun v H => H = [.own v 69 3 L.length (ints (fl (L.map (mapG ts))))]) := by
 have hxl := ha.len
 have hn := ha.le
 obtain ⟨A, c, rfl, _, _⟩ := ha.form0
 have hLn : L.length = n := by have := fl_len L; omega
 have htl := ht.len
 obtain ⟨At, ct, rfl, _, _⟩ := ht.form0
 refine enter (n := 39) (args := [.slice A n c, .slice At m ct]) Tryz.func122 rfl rfl (St.empty _ _) ?_
 refine .sr ?_
 refine .m ?_
 refine .dsr ?_
 refine .step rfl (.buildSlice (us := []) Tsl_22 (by decide) (by decide) rfl rfl fun b1 => ?_)
 refine .m ?_
 refine .done ?_
 refine .seq ?_
 refine .sr ?_
 refine .m ?_
 refine .u (.int .i64 (((n : Nat) : Int))) (.len Tsl_22 rfl) ?_
 refine .m ?_
 refine .done ?_
 refine .block ?_
 refine Run.loop (ι := Nat × Value) [5, 7, 11, 12, 13, 14, 15, 16, 17, 18, 19, 20, 21, 22, 23, 24, 25, 26, 27, 28, 29, 30, 31, 32, 33, 34, 35, 36, 37] (fun ⟨k, vo⟩ => [(5, vo), (11, .int .i64 (((k : Nat) : Int)))]) (fun ⟨k, vo⟩ => [.own vo 69 3 k (ints (fl ((L.take k).map (mapG ts))))]) (fun ⟨k, vo⟩ => k ≤ n) (fun ⟨k, vo⟩ => n - k) (0, .slice (some ⟨b1, 0, none⟩) 0 0) ?_ ?_ ?_ ?_
 ·exact Nat.zero_le _
 ·exact ⟨rfl, rfl, trivial⟩
 ·exact (Some'.weak (.takeEq (by first | rfl | simp [fl, ints]) (.nil _)))
 rintro ⟨k, vo⟩ fr hinv
 show Run _ _ (over _ _ [(5, vo), (11, .int .i64 (((k : Nat) : Int)))] fr) [.own vo 69 3 k (ints (fl ((L.take k).map (mapG ts))))]
 try dsimp only at hinv
 refine .sr ?_
 refine .w (.bool (decide ((((k : Nat) : Int)) < (((n : Nat) : Int))))) ?_
 refine .done ?_
 refine .seq ?_
 refine .cond (b := decide ((((k : Nat) : Int)) < (((n : Nat) : Int)))) rfl (fun h12 => ?_) (fun h12 => ?_)
 ·have p12 := h12; try simp only [bs] at p12
  have hltk : k < n := by omega
  have hfx := fl_ix (L := L) (k := k) (by omega)
  obtain ⟨⟨g, a, e⟩, hgx⟩ : ∃ q, gx L k = q := ⟨_, rfl⟩
  rw [hgx] at hfx
  have hgm := hm (gx L k) (gx_mem (by omega))
  rw [hgx] at hgm
  simp only at hfx hgm
  obtain ⟨b, o, rfl⟩ := ha.opn (by omega)
  refine .skip ?_
  refine .seq ?_
  refine .block ?_
  refine .sr ?_
  refine .u (.pointer (some ⟨b, o + k * 3, none⟩)) (.ix k Tsl_22) ?_
  refine .u (.agg #[.int .i64 g, .int .i64 a, .int .i64 e]) (.loadN (cs := [.int .i64 g, .int .i64 a, .int .i64 e]) Tagg_69 rfl (Cells.arg (k := k * 3) ha rfl (by omega) (by have h := pre3 (xs := fl L) (o := k * 3) (by omega); rw [hfx.1, hfx.2.1, hfx.2.2] at h; exact h))) ?_
  refine .step rfl (.alloc (zs := [.int .i64 0, .int .i64 0, .int .i64 0]) Tzero_69 fun b2 => ?_)
  refine .step rfl (.storeAll (us := [.int .i64 g, .int .i64 a, .int .i64 e]) Tsize_69 rfl rfl rfl (.here _) rfl ?_)
  refine .done ?_
  refine .seq ?_
  refine .sr ?_
  refine .fa Tfo_69_0 ?_
  refine .u (.int .i64 g) (.load1 Tone_3 rfl (.b (.head _))) ?_
  refine .w (.bool (g != 12)) ?_
  refine .done ?_
  refine .cond (b := g != 12) rfl (fun h17 => ?_) (fun h17 => ?_)
  ·have p17 := h17; try simp only [bs] at p17
   have ha1 := hgm.1 p17
   have haR : (0 : Int) ≤ a := ha1.1
   obtain ⟨bt, ot, rfl⟩ := ht.opn (by omega)
   refine .region ?_
   refine .m ?_
   refine .fa Tfo_69_1 ?_
   refine .u (.int .i64 a) (.load1 Tone_3 rfl (.b (.head _))) ?_
   refine .u (.pointer (some ⟨bt, ot + a.toNat, none⟩)) (.ix (a.toNat) Tsl_75) ?_
   refine .u (.int .i64 (ix ts (a.toNat))) (.load1 Tone_3 rfl (Cells.arg (k := a.toNat) ht rfl (by omega) (pre1 (by omega)))) ?_
   refine .fa Tfo_69_1 ?_
   refine .step rfl (.store (us := [.int .i64 (ix ts (a.toNat))]) Tsize_3 rfl rfl rfl (.here _) (by simp only [List.length_cons, List.length_nil]; omega) ?_)
   show Run _ _ _ [.blk b2 69 [.int .i64 g, .int .i64 (ix ts (a.toNat)), .int .i64 e], .own vo 69 3 k (ints (fl ((L.take k).map (mapG ts))))]
   refine .done ?_
   refine .seq ?_
   refine .sr ?_
   refine .fa Tfo_69_0 ?_
   refine .u (.int .i64 g) (.load1 Tone_3 rfl (.b (.head _))) ?_
   refine .c (.bool (decide (9 ≤ g ∧ g ≤ 11))) [.int .i64 g] Tcall_95 (fun w hs => isTwo_spec _ w) ?_
   refine .done ?_
   refine .cond (b := decide (9 ≤ g ∧ g ≤ 11)) rfl (fun h26 => ?_) (fun h26 => ?_)
   ·have p26 := h26; try simp only [bs] at p26
    have hb1 := hgm.2 p26
    refine .region ?_
    refine .m ?_
    refine .fa Tfo_69_2 ?_
    refine .u (.int .i64 e) (.load1 Tone_3 rfl (.b (.head _))) ?_
    refine .u (.pointer (some ⟨bt, ot + e.toNat, none⟩)) (.ix (e.toNat) Tsl_75) ?_
    refine .u (.int .i64 (ix ts (e.toNat))) (.load1 Tone_3 rfl (Cells.arg (k := e.toNat) ht rfl (by omega) (pre1 (by omega)))) ?_
    refine .fa Tfo_69_2 ?_
    refine .step rfl (.store (us := [.int .i64 (ix ts (e.toNat))]) Tsize_3 rfl rfl rfl (.here _) (by simp only [List.length_cons, List.length_nil]; omega) ?_)
    show Run _ _ _ [.blk b2 69 [.int .i64 g, .int .i64 (ix ts (a.toNat)), .int .i64 (ix ts (e.toNat))], .own vo 69 3 k (ints (fl ((L.take k).map (mapG ts))))]
    refine .dr ?_
    refine .w vo ?_
    refine .u (.agg #[.int .i64 g, .int .i64 (ix ts (a.toNat)), .int .i64 (ix ts (e.toNat))]) (.loadN (cs := [.int .i64 g, .int .i64 (ix ts (a.toNat)), .int .i64 (ix ts (e.toNat))]) Tagg_69 rfl (Cells.blk (.head _) ⟨rfl, rfl, rfl, trivial⟩)) ?_
    refine .step rfl (.buildSlice (us := [.int .i64 g, .int .i64 (ix ts (a.toNat)), .int .i64 (ix ts (e.toNat))]) Tsl_22 (by decide) (by decide) ⟨rfl, [.int .i64 g, .int .i64 (ix ts (a.toNat)), .int .i64 (ix ts (e.toNat))], _, rfl, rfl, rfl, rfl⟩ rfl fun b3 => ?_)
    refine .step rfl (.append (H1 := [.own (.slice (some ⟨b3, 0, none⟩) 1 1) 69 3 1 ([.int .i64 g, .int .i64 (ix ts (a.toNat)), .int .i64 (ix ts (e.toNat))]), .blk b2 69 [.int .i64 g, .int .i64 (ix ts (a.toNat)), .int .i64 (ix ts (e.toNat))]]) (H2 := []) (v := vo) (u := .slice (some ⟨b3, 0, none⟩) 1 1) (n := k) (m := 1) (xs := ints (fl ((L.take k).map (mapG ts)))) (ys := [.int .i64 g, .int .i64 (ix ts (a.toNat)), .int .i64 (ix ts (e.toNat))]) Tsl_22 (by decide) rfl rfl rfl rfl (fun w hs => hs.slOwn (.head _)) (by simp [Value.oneCell']) (by omega) (by simp only [maxLen]; omega) fun av1 hnav1 => ?_)
    refine Run.weak (H' := [.own (.slice (some ⟨b3, 0, none⟩) 1 1) 69 3 1 ([.int .i64 g, .int .i64 (ix ts (a.toNat)), .int .i64 (ix ts (e.toNat))]), .blk b2 69 [.int .i64 g, .int .i64 (ix ts (a.toNat)), .int .i64 (ix ts (e.toNat))], .own av1 69 3 (k + 1) (ints (fl ((L.take (k + 1)).map (mapG ts))))]) (Some'.weak (.take (.take (.takeEq (by rw [take_gx (by omega), hgx, List.map_append, fl_append, ints_append, List.map_cons, List.map_nil, fl_one]; simp [mapG, ints, *]) (.nil _))))) ?_ ⟨_, _, rfl, fun _ => nofun, fun _ => nofun⟩
    refine .w av1 ?_
    refine .done ?_
    refine .blockEnd ?_
    refine .region ?_
    refine .u (.int .i64 ((((k : Nat) : Int)) + 1)) (.add rfl rfl rfl (by omega) (by omega)) ?_
    refine .m ?_
    refine .done ?_
    refine .goal ⟨(by repeat (first | exact Same.refl _ _ | refine Same.put rfl ?_ | refine Same.over rfl rfl ?_)), (k + 1, av1), ?_, ?_, ?_, ?_⟩
    ·show k + 1 ≤ n; omega
    ·show n - (k + 1) < n - k; omega
    ·exact ⟨(by first | rfl | (congr 1; omega) | simp), (by first | rfl | (congr 1; omega) | simp), trivial⟩
    ·exact (Some'.weak (.skip (.skip (.takeEq (by first | rfl | simp [fl, ints]) (.nil _)))))
   have p26 := h26; try simp only [bs] at p26
   refine .skip ?_
   refine .region ?_
   refine .w vo ?_
   refine .u (.agg #[.int .i64 g, .int .i64 (ix ts (a.toNat)), .int .i64 e]) (.loadN (cs := [.int .i64 g, .int .i64 (ix ts (a.toNat)), .int .i64 e]) Tagg_69 rfl (Cells.blk (.head _) ⟨rfl, rfl, rfl, trivial⟩)) ?_
   refine .step rfl (.buildSlice (us := [.int .i64 g, .int .i64 (ix ts (a.toNat)), .int .i64 e]) Tsl_22 (by decide) (by decide) ⟨rfl, [.int .i64 g, .int .i64 (ix ts (a.toNat)), .int .i64 e], _, rfl, rfl, rfl, rfl⟩ rfl fun b4 => ?_)
   refine .step rfl (.append (H1 := [.own (.slice (some ⟨b4, 0, none⟩) 1 1) 69 3 1 ([.int .i64 g, .int .i64 (ix ts (a.toNat)), .int .i64 e]), .blk b2 69 [.int .i64 g, .int .i64 (ix ts (a.toNat)), .int .i64 e]]) (H2 := []) (v := vo) (u := .slice (some ⟨b4, 0, none⟩) 1 1) (n := k) (m := 1) (xs := ints (fl ((L.take k).map (mapG ts)))) (ys := [.int .i64 g, .int .i64 (ix ts (a.toNat)), .int .i64 e]) Tsl_22 (by decide) rfl rfl rfl rfl (fun w hs => hs.slOwn (.head _)) (by simp [Value.oneCell']) (by omega) (by simp only [maxLen]; omega) fun av2 hnav2 => ?_)
   refine Run.weak (H' := [.own (.slice (some ⟨b4, 0, none⟩) 1 1) 69 3 1 ([.int .i64 g, .int .i64 (ix ts (a.toNat)), .int .i64 e]), .blk b2 69 [.int .i64 g, .int .i64 (ix ts (a.toNat)), .int .i64 e], .own av2 69 3 (k + 1) (ints (fl ((L.take (k + 1)).map (mapG ts))))]) (Some'.weak (.take (.take (.takeEq (by rw [take_gx (by omega), hgx, List.map_append, fl_append, ints_append, List.map_cons, List.map_nil, fl_one]; simp [mapG, ints, *]) (.nil _))))) ?_ ⟨_, _, rfl, fun _ => nofun, fun _ => nofun⟩
   refine .w av2 ?_
   refine .done ?_
   refine .blockEnd ?_
   refine .region ?_
   refine .u (.int .i64 ((((k : Nat) : Int)) + 1)) (.add rfl rfl rfl (by omega) (by omega)) ?_
   refine .m ?_
   refine .done ?_
   refine .goal ⟨(by repeat (first | exact Same.refl _ _ | refine Same.put rfl ?_ | refine Same.over rfl rfl ?_)), (k + 1, av2), ?_, ?_, ?_, ?_⟩
   ·show k + 1 ≤ n; omega
   ·show n - (k + 1) < n - k; omega
   ·exact ⟨(by first | rfl | (congr 1; omega) | simp), (by first | rfl | (congr 1; omega) | simp), trivial⟩
   ·exact (Some'.weak (.skip (.skip (.takeEq (by first | rfl | simp [fl, ints]) (.nil _)))))
  have p17 := h17; try simp only [bs] at p17
  refine .skip ?_
  refine .seq ?_
  refine .sr ?_
  refine .fa Tfo_69_0 ?_
  refine .u (.int .i64 g) (.load1 Tone_3 rfl (.b (.head _))) ?_
  refine .c (.bool (decide (9 ≤ g ∧ g ≤ 11))) [.int .i64 g] Tcall_95 (fun w hs => isTwo_spec _ w) ?_
  refine .done ?_
  refine .cond (b := decide (9 ≤ g ∧ g ≤ 11)) rfl (fun h26 => ?_) (fun h26 => ?_)
  ·have p26 := h26; try simp only [bs] at p26
   exact absurd p26 (by omega) --DONE
  have p26 := h26; try simp only [bs] at p26
  refine .skip ?_
  refine .region ?_
  refine .w vo ?_
  refine .u (.agg #[.int .i64 g, .int .i64 a, .int .i64 e]) (.loadN (cs := [.int .i64 g, .int .i64 a, .int .i64 e]) Tagg_69 rfl (Cells.blk (.head _) ⟨rfl, rfl, rfl, trivial⟩)) ?_
  refine .step rfl (.buildSlice (us := [.int .i64 g, .int .i64 a, .int .i64 e]) Tsl_22 (by decide) (by decide) ⟨rfl, [.int .i64 g, .int .i64 a, .int .i64 e], _, rfl, rfl, rfl, rfl⟩ rfl fun b5 => ?_)
  refine .step rfl (.append (H1 := [.own (.slice (some ⟨b5, 0, none⟩) 1 1) 69 3 1 ([.int .i64 g, .int .i64 a, .int .i64 e]), .blk b2 69 [.int .i64 g, .int .i64 a, .int .i64 e]]) (H2 := []) (v := vo) (u := .slice (some ⟨b5, 0, none⟩) 1 1) (n := k) (m := 1) (xs := ints (fl ((L.take k).map (mapG ts)))) (ys := [.int .i64 g, .int .i64 a, .int .i64 e]) Tsl_22 (by decide) rfl rfl rfl rfl (fun w hs => hs.slOwn (.head _)) (by simp [Value.oneCell']) (by omega) (by simp only [maxLen]; omega) fun av3 hnav3 => ?_)
  refine Run.weak (H' := [.own (.slice (some ⟨b5, 0, none⟩) 1 1) 69 3 1 ([.int .i64 g, .int .i64 a, .int .i64 e]), .blk b2 69 [.int .i64 g, .int .i64 a, .int .i64 e], .own av3 69 3 (k + 1) (ints (fl ((L.take (k + 1)).map (mapG ts))))]) (Some'.weak (.take (.take (.takeEq (by rw [take_gx (by omega), hgx, List.map_append, fl_append, ints_append, List.map_cons, List.map_nil, fl_one]; simp [mapG, ints, *]) (.nil _))))) ?_ ⟨_, _, rfl, fun _ => nofun, fun _ => nofun⟩
  refine .w av3 ?_
  refine .done ?_
  refine .blockEnd ?_
  refine .region ?_
  refine .u (.int .i64 ((((k : Nat) : Int)) + 1)) (.add rfl rfl rfl (by omega) (by omega)) ?_
  refine .m ?_
  refine .done ?_
  refine .goal ⟨(by repeat (first | exact Same.refl _ _ | refine Same.put rfl ?_ | refine Same.over rfl rfl ?_)), (k + 1, av3), ?_, ?_, ?_, ?_⟩
  ·show k + 1 ≤ n; omega
  ·show n - (k + 1) < n - k; omega
  ·exact ⟨(by first | rfl | (congr 1; omega) | simp), (by first | rfl | (congr 1; omega) | simp), trivial⟩
  ·exact (Some'.weak (.skip (.skip (.takeEq (by first | rfl | simp [fl, ints]) (.nil _)))))
 have p12 := h12; try simp only [bs] at p12
 have hkn : k = n := by omega
 have htk : L.take k = L := by rw [hkn, ← hLn, List.take_length]
 refine .exit rfl ?_
 refine .sr ?_
 refine .w vo ?_
 refine .w vo ?_
 refine .done ?_
 refine .ret ?_
 refine ⟨vo, [.own vo 69 3 (L.length) (ints (fl (L.map (mapG ts))))], Out.one rfl rfl, (Some'.weak (.takeEq (by rw [htk, hkn, hLn]) (.nil _))), ?_⟩
 rfl

set_option maxHeartbeats 1000000 in
set_option maxRecDepth 20000 in
theorem tooMany_spec {va : Value} {n : Nat} {L : List G3} {w : World} (hn : L.length = n) (h : (Res.own va 69 3 n (ints (fl L))).holds w) : Calls Tryz.prog 110 #[va] w (Post (Of [.own va 69 3 n (ints (fl L))]) w fun v H => H = [.own v 69 3 (trim L).length (ints (fl (trim L)))]) := by
 obtain ⟨q, hq⟩ : ∃ q, min n 401 = q := ⟨_, rfl⟩
 have htr : (trim L).length = q := by rw [trim, List.length_take]; omega
 have hne : ((q : Nat) : Int) = min ((n : Nat) : Int) 401 := by omega
 refine enter (n := 8) (args := [va]) Tryz.func110 rfl rfl (St.start1 h) ?_
 refine .sr ?_
 refine .m ?_
 refine .dsr ?_
 refine .w va ?_
 refine .w va ?_
 refine Run.formOwn (.head _) (fun A_va1 c_va1 hv hcapc_va1 hmaxc_va1 => ?_) (fun _ _ _ => ⟨nofun, nofun, nofun⟩)
 subst hv
 refine .u (.int .i64 (((n : Nat) : Int))) (.len Tsl_22 rfl) ?_
 refine .u (.int .i64 (min (((n : Nat) : Int)) 401)) (.min rfl rfl) ?_
 refine .u (.slice A_va1 q c_va1) (.sliceHN (h := q) Tsl_22 rfl rfl hne.symm (by omega)) ?_
 refine Run.weak (H' := [.own (.slice A_va1 q c_va1) 69 3 q (ints (fl (trim L)))]) ((Weak.ownTake (m := q) (by omega)).trans (Some'.weak (.takeEq (by rw [ints_take', fl_take, trim_take hn hq]) (.nil _)))) ?_ ⟨_, _, rfl, fun _ => nofun, fun _ => nofun⟩
 refine .m ?_
 refine .done ?_
 refine .ret ?_
 refine ⟨.slice A_va1 q c_va1, [.own (.slice A_va1 q c_va1) 69 3 ((trim L).length) (ints (fl (trim L)))], Out.one rfl rfl, (Some'.weak (.takeEq (by rw [htr]) (.nil _))), ?_⟩
 rfl

set_option maxHeartbeats 1000000 in
set_option maxRecDepth 20000 in
theorem tell_spec {r : Nat} {vl vd : Value} {a1 c1 l1 cd ln : Int} {w : World} (h : (Res.blk r 91 [vl, .int .i64 a1, vd, .int .i64 c1, .int .i64 l1]).holds w) : Calls Tryz.prog 59 #[.pointer (some ⟨r, 0, none⟩), .int .i64 cd, .int .i64 ln] w (Post (Of [.blk r 91 [vl, .int .i64 a1, vd, .int .i64 c1, .int .i64 l1]]) w fun v H => v = .tuple #[] ∧ H = [.blk r 91 [vl, .int .i64 a1, vd, .int .i64 (tellP cd ln (c1, l1)).1, .int .i64 (tellP cd ln (c1, l1)).2]]) := by
 refine enter (n := 27) (args := [.pointer (some ⟨r, 0, none⟩), .int .i64 cd, .int .i64 ln]) Tryz.func59 rfl rfl (St.start1 h) ?_
 refine .sr ?_
 refine .m ?_
 refine .u (.pointer (some ⟨r, 0, none⟩)) (.nilCheck rfl) ?_
 refine .fa Tfo_91_3 ?_
 refine .u (.int .i64 c1) (.load1 Tone_3 rfl (.b (.head _))) ?_
 refine .w (.bool (c1 == 0)) ?_
 rcases Bool.eq_false_or_eq_true (c1 == 0) with h11 | h11
 ·refine .mb h11 ?_
  have p11 := h11; try simp only [bs] at p11
  iterate 6 refine .pass rfl ?_
  refine .w (.bool true) ?_
  refine .done ?_
  refine .cond (b := true) rfl (fun _ => ?_) (fun h => nomatch h)
  have htp : tellP cd ln (c1, l1) = (cd, ln) := if_pos (by first | exact .inl p11 | exact .inr p18)
  refine .region ?_
  iterate 4 refine .m ?_
  refine .u (.pointer (some ⟨r, 0, none⟩)) (.nilCheck rfl) ?_
  refine .fa Tfo_91_3 ?_
  refine .step rfl (.store (us := [.int .i64 cd]) Tsize_3 rfl rfl rfl (.here _) (by simp only [List.length_cons, List.length_nil]; omega) ?_)
  show Run _ _ _ [.blk r 91 [vl, .int .i64 a1, vd, .int .i64 cd, .int .i64 l1]]
  refine .u (.pointer (some ⟨r, 0, none⟩)) (.nilCheck rfl) ?_
  refine .fa Tfo_91_4 ?_
  refine .step rfl (.store (us := [.int .i64 ln]) Tsize_3 rfl rfl rfl (.here _) (by simp only [List.length_cons, List.length_nil]; omega) ?_)
  show Run _ _ _ [.blk r 91 [vl, .int .i64 a1, vd, .int .i64 cd, .int .i64 ln]]
  refine .done ?_
  refine .fin ?_
  refine ⟨.tuple #[], [.blk r 91 [vl, .int .i64 a1, vd, .int .i64 ((tellP cd ln (c1, l1)).1), .int .i64 ((tellP cd ln (c1, l1)).2)]], Out.none rfl, (Some'.weak (.takeEq (by rw [htp]) (.nil _))), ?_⟩
  exact ⟨rfl, rfl⟩
 refine .mb h11 ?_
 have p11 := h11; try simp only [bs] at p11
 iterate 2 refine .m ?_
 refine .u (.pointer (some ⟨r, 0, none⟩)) (.nilCheck rfl) ?_
 refine .fa Tfo_91_3 ?_
 refine .u (.int .i64 c1) (.load1 Tone_3 rfl (.b (.head _))) ?_
 refine .w (.bool (decide (cd < c1))) ?_
 refine .w (.bool (decide (cd < c1))) ?_
 refine .done ?_
 refine .cond (b := decide (cd < c1)) rfl (fun h18 => ?_) (fun h18 => ?_)
 ·have p18 := h18; try simp only [bs] at p18
  have htp : tellP cd ln (c1, l1) = (cd, ln) := if_pos (by first | exact .inl p11 | exact .inr p18)
  refine .region ?_
  iterate 4 refine .m ?_
  refine .u (.pointer (some ⟨r, 0, none⟩)) (.nilCheck rfl) ?_
  refine .fa Tfo_91_3 ?_
  refine .step rfl (.store (us := [.int .i64 cd]) Tsize_3 rfl rfl rfl (.here _) (by simp only [List.length_cons, List.length_nil]; omega) ?_)
  show Run _ _ _ [.blk r 91 [vl, .int .i64 a1, vd, .int .i64 cd, .int .i64 l1]]
  refine .u (.pointer (some ⟨r, 0, none⟩)) (.nilCheck rfl) ?_
  refine .fa Tfo_91_4 ?_
  refine .step rfl (.store (us := [.int .i64 ln]) Tsize_3 rfl rfl rfl (.here _) (by simp only [List.length_cons, List.length_nil]; omega) ?_)
  show Run _ _ _ [.blk r 91 [vl, .int .i64 a1, vd, .int .i64 cd, .int .i64 ln]]
  refine .done ?_
  refine .fin ?_
  refine ⟨.tuple #[], [.blk r 91 [vl, .int .i64 a1, vd, .int .i64 ((tellP cd ln (c1, l1)).1), .int .i64 ((tellP cd ln (c1, l1)).2)]], Out.none rfl, (Some'.weak (.takeEq (by rw [htp]) (.nil _))), ?_⟩
  exact ⟨rfl, rfl⟩
 have p18 := h18; try simp only [bs] at p18
 have htp : tellP cd ln (c1, l1) = (c1, l1) := if_neg (by rintro (h | h) <;> simp_all <;> omega)
 refine .skip ?_
 refine .fin ?_
 refine ⟨.tuple #[], [.blk r 91 [vl, .int .i64 a1, vd, .int .i64 ((tellP cd ln (c1, l1)).1), .int .i64 ((tellP cd ln (c1, l1)).2)]], Out.none rfl, (Some'.weak (.takeEq (by rw [htp]) (.nil _))), ?_⟩
 exact ⟨rfl, rfl⟩

set_option maxHeartbeats 4000000 in
set_option maxRecDepth 20000 in
theorem find_spec {r : Nat} {vl vd : Value} {a1 c1 l1 : Int} {n known : Nat} {nm : Bs} {D : List DV} {w : World} (hr : Sl w (.slice (some ⟨r, 0, none⟩) 1 1) 5 1 [vl, .int .i64 a1, vd, .int .i64 c1, .int .i64 l1]) (ha : Sl w vd 3 n (dls D)) (hD : DQ w D) (hk : known ≤ n) : Calls Tryz.prog 90 #[.pointer (some ⟨r, 0, none⟩), sv nm, .int .i64 ((known : Nat) : Int)] w (Post No w fun v H => ∃ s i A m c, v = .tuple #[.agg #[sv s, .int .i64 i, .slice A m c], .bool (decide (0 ≤ fdI D known nm))] ∧ H = [] ∧ (0 ≤ fdI D known nm → s = (dx D (fdI D known nm).toNat).1.nm ∧ i = (dx D (fdI D known nm).toNat).1.n ∧ m = (dx D (fdI D known nm).toNat).1.gs.length ∧ .slice A m c = (dx D (fdI D known nm).toNat).2)) := by
 have hDn : D.length = n := by have := ha.1; simp at this; omega
 obtain ⟨A, c, rfl, hnc, _⟩ := ha.form0
 have hn := ha.le
 refine enter (n := 28) (args := [.pointer (some ⟨r, 0, none⟩), sv nm, .int .i64 (((known : Nat) : Int))]) Tryz.func90 rfl rfl (St.empty _ _) ?_
 refine .sr ?_
 refine .step rfl (.alloc (zs := [sv ([]), .int .i64 0, .slice none 0 0]) Tzero_59 fun b1 => ?_)
 refine .m ?_
 refine .done ?_
 refine .seq ?_
 refine .sr ?_
 refine .m ?_
 refine .u (.pointer (some ⟨r, 0, none⟩)) (.nilCheck rfl) ?_
 refine .fa Tfo_91_2 ?_
 refine .u (.slice A n c) (.load1 Tone_55 rfl (Cells.env (k := 2) hr rfl (by decide) ⟨rfl, trivial⟩)) ?_
 refine .m ?_
 refine .u (.slice A known c) (.sliceHN (h := known) Tsl_55 rfl rfl rfl (by omega)) ?_
 refine .u (.int .i64 (((known : Nat) : Int))) (.len Tsl_55 rfl) ?_
 refine .m ?_
 refine .done ?_
 refine .block ?_
 refine Run.loop (ι := Nat) [7, 9, 17, 18, 19, 20, 21, 22, 23, 24, 25, 26] (fun k => [(17, .int .i64 (((k : Nat) : Int)))]) (fun k => [.blk b1 59 [sv ([]), .int .i64 0, .slice none 0 0]]) (fun k => k ≤ known ∧ ∀ i, i < k → ((dx D i).1.nm == nm) = false) (fun k => known - k) 0 ?_ ?_ ?_ ?_
 ·exact ⟨Nat.zero_le _, fun i hi => by omega⟩
 ·exact ⟨rfl, trivial⟩
 ·exact (Some'.weak (.take (.nil _)))
 rintro k fr hinv
 show Run _ _ (over _ _ [(17, .int .i64 (((k : Nat) : Int)))] fr) [.blk b1 59 [sv ([]), .int .i64 0, .slice none 0 0]]
 try dsimp only at hinv
 refine .sr ?_
 refine .w (.bool (decide ((((k : Nat) : Int)) < (((known : Nat) : Int))))) ?_
 refine .done ?_
 refine .seq ?_
 refine .cond (b := decide ((((k : Nat) : Int)) < (((known : Nat) : Int)))) rfl (fun h18 => ?_) (fun h18 => ?_)
 ·have p18 := h18; try simp only [bs] at p18
  have hltk : k < known := by omega
  obtain ⟨d, hx⟩ : ∃ d, (dx D k).1 = d := ⟨_, rfl⟩
  obtain ⟨Ag, cg, hq, _, _⟩ := (hD k (by omega)).form0
  rw [hx] at hq
  obtain ⟨b, o, rfl⟩ := ha.opn (by omega)
  refine .skip ?_
  refine .seq ?_
  refine .block ?_
  refine .sr ?_
  refine .u (.pointer (some ⟨b, o + k * 3, none⟩)) (.ix k Tsl_55) ?_
  refine .u (.agg #[sv (d.nm), .int .i64 (d.n), .slice Ag (d.gs.length) cg]) (.loadN (cs := [sv (d.nm), .int .i64 (d.n), .slice Ag (d.gs.length) cg]) Tagg_59 rfl (Cells.arg (k := k * 3) ha rfl (by omega) (dls_preF (k := k) (by omega) hx hq))) ?_
  refine .step rfl (.alloc (zs := [sv ([]), .int .i64 0, .slice none 0 0]) Tzero_59 fun b2 => ?_)
  refine .step rfl (.storeAll (us := [sv (d.nm), .int .i64 (d.n), .slice Ag (d.gs.length) cg]) Tsize_59 rfl rfl rfl (.here _) rfl ?_)
  refine .dsr ?_
  refine .fa Tfo_59_0 ?_
  refine .u (sv (d.nm)) (.load1 Tone_9 rfl (.b (.head _))) ?_
  refine .w (sv nm) ?_
  refine .u (.bool ((d.nm) == nm)) (.eqS rfl rfl) ?_
  refine .done ?_
  refine .cond (b := (d.nm) == nm) rfl (fun h24 => ?_) (fun h24 => ?_)
  ·have p24 := h24; try simp only [bs] at p24
   refine .seq ?_
   have hfd : fdI D known nm = ((k : Nat) : Int) := findI_hit hinv.2 (by rw [hx]; exact h24) hltk
   refine .region ?_
   refine .u (.agg #[sv (d.nm), .int .i64 (d.n), .slice Ag (d.gs.length) cg]) (.loadN (cs := [sv (d.nm), .int .i64 (d.n), .slice Ag (d.gs.length) cg]) Tagg_59 rfl (Cells.blk (.head _) ⟨rfl, rfl, rfl, trivial⟩)) ?_
   refine .step rfl (.storeAll (us := [sv (d.nm), .int .i64 (d.n), .slice Ag (d.gs.length) cg]) Tsize_59 rfl rfl rfl (.there _ (.here _)) rfl ?_)
   refine .m ?_
   refine .done ?_
   refine .ret ?_
   refine ⟨.tuple #[.agg #[sv (d.nm), .int .i64 (d.n), .slice Ag (d.gs.length) cg], .bool true], [], Out.cell2 rfl Tagg_59 rfl (Cells.blk (.tail _ (.head _)) ⟨rfl, rfl, rfl, trivial⟩) rfl, (Some'.weak (.nil _)), ?_⟩
   first | exact ⟨_, _, _, _, _, by rw [hfd]; rfl, rfl, by rw [hfd]; intro h; omega⟩ | exact ⟨_, _, _, _, _, by rw [hfd, show decide ((0 : Int) ≤ ((k : Nat) : Int)) = true from decide_eq_true (by omega)], rfl, by rw [hfd, Int.toNat_natCast, hx]; intro _; exact ⟨rfl, rfl, rfl, hq.symm⟩⟩
  have p24 := h24; try simp only [bs] at p24
  refine .skip ?_
  refine .blockEnd ?_
  have hgood : ((dx D k).1.nm == nm) = false := by rw [hx]; exact h24
  refine .region ?_
  refine .u (.int .i64 ((((k : Nat) : Int)) + 1)) (.add rfl rfl rfl (by omega) (by omega)) ?_
  refine .m ?_
  refine .done ?_
  refine .goal ⟨(by repeat (first | exact Same.refl _ _ | refine Same.put rfl ?_ | refine Same.over rfl rfl ?_)), k + 1, ?_, ?_, ?_, ?_⟩
  ·refine ⟨by omega, ?_⟩
   intro i hi
   rcases Nat.lt_succ_iff_lt_or_eq.1 hi with h | h
   ·exact hinv.2 i h
   ·rw [h]; exact hgood
  ·omega
  ·exact ⟨(by first | rfl | (congr 1; omega) | simp), trivial⟩
  ·exact (Some'.weak (.skip (.take (.nil _))))
 have p18 := h18; try simp only [bs] at p18
 have hkn : k = known := by omega
 have hfd : fdI D known nm = -1 := by rw [← hkn]; exact findI_none hinv.2
 refine .exit rfl ?_
 refine .sr ?_
 refine .u (.agg #[sv ([]), .int .i64 0, .slice none 0 0]) (.build (cs := [sv ([]), .int .i64 0, .slice none 0 0]) (by kernel_rfl)) ?_
 refine .step rfl (.storeAll (us := [sv ([]), .int .i64 0, .slice none 0 0]) Tsize_59 rfl rfl rfl (.here _) rfl ?_)
 refine .m ?_
 refine .done ?_
 refine .ret ?_
 refine ⟨.tuple #[.agg #[sv ([]), .int .i64 0, .slice none 0 0], .bool false], [], Out.cell2 rfl Tagg_59 rfl (Cells.blk (.head _) ⟨rfl, rfl, rfl, trivial⟩) rfl, (Some'.weak (.nil _)), ?_⟩
 first | exact ⟨_, _, _, _, _, by rw [hfd]; rfl, rfl, by rw [hfd]; intro h; omega⟩ | exact ⟨_, _, _, _, _, by rw [hfd, show decide ((0 : Int) ≤ ((k : Nat) : Int)) = true from decide_eq_true (by omega)], rfl, by rw [hfd, Int.toNat_natCast, hx]; intro _; exact ⟨rfl, rfl, rfl, hq.symm⟩⟩

end Go.Proofs.YtgpkpopbajkklaaGreatDoor
/- Plain laws: distances in a graph. -/
set_option linter.unusedSimpArgs false
set_option linter.unusedVariables false
namespace Go.Proofs.YtgpkpopbajkklaaGreatDoor
open Go Go.RowKit
/-- How many numbers below n have the property. -/
def cntP (p : Nat → Bool) : Nat → Nat
  | 0 => 0
  | n + 1 => cntP p n + (if p n then 1 else 0)
theorem cntP_le (p : Nat → Bool) : ∀ n, cntP p n ≤ n
  | 0 => Nat.le_refl _
  | n + 1 => by have := cntP_le p n; simp only [cntP]; split <;> omega
/-- The distances of all nodes from node s: 0 at s; each other one that is reached has a neighbour one step nearer; neighbours of reached nodes are reached, at most one step further; -1 elsewhere. -/
structure IsDist (A : Nat → Nat → Bool) (N s : Nat) (o : List Int) : Prop where
  len : o.length = N
  src : ix o s = 0
  low : ∀ v, v < N → -1 ≤ ix o v
  par : ∀ v, v < N → 0 ≤ ix o v → v = s ∨ ∃ u, u < N ∧ A u v = true ∧ 0 ≤ ix o u ∧ ix o v = ix o u + 1
  rel : ∀ u, u < N → ∀ v, v < N → 0 ≤ ix o u → A u v = true → 0 ≤ ix o v ∧ ix o v ≤ ix o u + 1
theorem IsDist.key {A : Nat → Nat → Bool} {N s : Nat} {o o' : List Int} (h : IsDist A N s o) (h' : IsDist A N s o') : ∀ (d : Nat) (v : Nat), v < N → ix o v = d → 0 ≤ ix o' v ∧ ix o' v ≤ d := by
  intro d
  induction d with
  | zero =>
    intro v hv e
    rcases h.par v hv (by omega) with rfl | ⟨u, hu, ha, h0, h1⟩
    · have := h'.src; omega
    · omega
  | succ d ih =>
    intro v hv e
    rcases h.par v hv (by omega) with rfl | ⟨u, hu, ha, h0, h1⟩
    · have := h'.src; omega
    · have h2 := ih u hu (by omega)
      have h3 := h'.rel u hu v hv h2.1 ha
      omega
/-- In round d, behind all pairs (u, v) with u below i, or u = i and v below k. -/
structure InRound (A : Nat → Nat → Bool) (N d i k : Nat) (o0 o : List Int) : Prop where
  len : o.length = N
  old : ∀ v, v < N → 0 ≤ ix o0 v → ix o v = ix o0 v
  new : ∀ v, v < N → ix o0 v < 0 → (ix o v = ix o0 v ∨ (ix o v = d + 1 ∧ ∃ u, u < N ∧ ix o0 u = d ∧ A u v = true))
  done : ∀ u, u < i → u < N → ∀ v, v < N → ix o0 u = d → A u v = true → 0 ≤ ix o v
  part : ∀ v, v < k → v < N → ix o0 i = d → A i v = true → 0 ≤ ix o v
theorem InRound.next {A : Nat → Nat → Bool} {N d i : Nat} {o0 o : List Int} (h : InRound A N d i N o0 o) : InRound A N d (i + 1) 0 o0 o :=
  ⟨h.len, h.old, h.new, fun u hu huN v hv h0 ha => by
    by_cases e : u = i
    · subst e; exact h.part v hv hv h0 ha
    · exact h.done u (by omega) huN v hv h0 ha, fun _ h => by omega⟩
/-! ### The program: a queue -/
/-- The queue q behind the nodes before at and the neighbours before position k of ns of the node at at. -/
structure InQ (A : Nat → Nat → Bool) (N s : Nat) (q : List Int) (at_ : Nat) (o : List Int) : Prop where
  slt : s < N
  len : o.length = N
  src : ix o s = 0
  low : ∀ v, v < N → -1 ≤ ix o v
  node : ∀ i, i < q.length → 0 ≤ ix q i ∧ ix q i < N
  val : ∀ i, i < q.length → 0 ≤ ix o (ix q i).toNat
  mem : ∀ v, v < N → 0 ≤ ix o v → ∃ i, i < q.length ∧ ix q i = v
  par : ∀ v, v < N → 0 ≤ ix o v → v = s ∨ ∃ u, u < N ∧ A u v = true ∧ 0 ≤ ix o u ∧ ix o v = ix o u + 1
  cnt : q.length = cntP (fun v => decide (0 ≤ ix o v)) N
  mono : ∀ i j, i ≤ j → j < q.length → ix o (ix q i).toNat ≤ ix o (ix q j).toNat
  last : at_ < q.length → ∀ i, i < q.length → ix o (ix q i).toNat ≤ ix o (ix q at_).toNat + 1
  rel : ∀ i, i < at_ → i < q.length → ∀ v, v < N → A (ix q i).toNat v = true → 0 ≤ ix o v ∧ ix o v ≤ ix o (ix q i).toNat + 1
theorem InQ.size {A : Nat → Nat → Bool} {N s : Nat} {q : List Int} {at_ : Nat} {o : List Int} (h : InQ A N s q at_ o) : q.length ≤ N := by rw [h.cnt]; exact cntP_le _ _
theorem ix_append_left {xs ys : List Int} {i : Nat} (h : i < xs.length) : ix (xs ++ ys) i = ix xs i := by simp only [ix, List.getD, List.getElem?_append_left h]
theorem ix_append_one {xs : List Int} {a : Int} : ix (xs ++ [a]) xs.length = a := by simp [ix, List.getD]
/-- All neighbours of the node at at are met. -/
theorem InQ.next {A : Nat → Nat → Bool} {N s : Nat} {q : List Int} {at_ : Nat} {o : List Int} (h : InQ A N s q at_ o) (hat : at_ < q.length) (hall : ∀ v, v < N → A (ix q at_).toNat v = true → 0 ≤ ix o v) : InQ A N s q (at_ + 1) o :=
  ⟨h.slt, h.len, h.src, h.low, h.node, h.val, h.mem, h.par, h.cnt, h.mono, fun h2 i hi => by
    have h3 := h.last hat i hi
    have h4 := h.mono at_ (at_ + 1) (by omega) h2
    omega, fun i hi1 hi v hv hA => by
    by_cases e : i = at_
    · subst e
      have h1 := hall v hv hA
      obtain ⟨j, hj, e2⟩ := h.mem v hv h1
      have h3 := h.last hat j hj
      rw [e2, Int.toNat_natCast] at h3
      exact ⟨h1, h3⟩
    · exact h.rel i (by omega) hi v hv hA⟩

end Go.Proofs.YtgpkpopbajkklaaGreatDoor
/- Walks: distances in a coupling graph. -/
set_option linter.unusedSimpArgs false
set_option linter.unusedVariables false
namespace Go.Proofs.YtgpkpopbajkklaaGreatDoor
open Go Go.RowKit
/-- Two nodes are connected, by their numbers. -/
def adjN (xs : List Int) (n : Nat) (a b : Nat) : Bool := adj xs n a b
theorem filterL_mem {p : Nat → Bool} : ∀ {N v : Nat}, v < N → p v = true → ∃ i, i < (filterL p N).length ∧ ix (filterL p N) i = v
  | 0, v, h, _ => by omega
  | N + 1, v, h, hp => by
    simp only [filterL]
    by_cases e : v < N
    · obtain ⟨i, h1, h2⟩ := filterL_mem e hp
      exact ⟨i, by simp only [List.length_append]; omega, by rw [ix_append_left h1]; exact h2⟩
    · have e2 : v = N := by omega
      subst e2
      rw [hp]
      exact ⟨(filterL p v).length, by simp, by simp only [if_true]; exact ix_append_one⟩
theorem nb_mem {M : Nat} {xs : List Int} {n : Nat} {u : Int} {v : Nat} (hv : v < M) (ha : adj xs n u v = true) : ∃ i, i < (nbL (M : Int) xs n u).length ∧ ix (nbL (M : Int) xs n u) i = v := filterL_mem (by simpa using hv) ha
theorem InRound.same {A : Nat → Nat → Bool} {N d i k : Nat} {o0 o : List Int} (h : InRound A N d i k o0 o) {u : Nat} (hu : u < N) : ix o u = d ↔ ix o0 u = d := by
  by_cases e : 0 ≤ ix o0 u
  · rw [h.old u hu e]
  · rcases h.new u hu (by omega) with h1 | ⟨h1, _⟩
    · rw [h1]
    · rw [h1]; omega


end Go.Proofs.YtgpkpopbajkklaaGreatDoor
/- Walks: shortest paths in a coupling graph. -/
set_option linter.unusedSimpArgs false
set_option linter.unusedVariables false
namespace Go.Proofs.YtgpkpopbajkklaaGreatDoor
open Go Go.RowKit
/-- The neighbours that are one step nearer; the first of them. -/
def nxtP (M : Nat) (xs : List Int) (n : Nat) (o : List Int) (a : Int) (i : Nat) : Bool := decide (ix o (ix (nbL (M : Int) xs n a) i).toNat = ix o a.toNat - 1)
/-- A node at a positive distance has a neighbour that is one step nearer. -/
theorem nearer {M : Nat} {xs : List Int} {n : Nat} {o : List Int} {s : Nat} (hd : IsDist (adjN xs n) M s o) {a : Int} (h0 : 0 ≤ a) (hM : a < M) (hx : 0 ≤ ix o a.toNat) (hne : a ≠ (s : Int)) :
    0 < ix o a.toNat ∧ ∃ i, i < (nbL (M : Int) xs n a).length ∧ nxtP M xs n o a i = true := by
  rcases hd.par a.toNat (by omega) hx with e | ⟨u, hu, hA, h1, h2⟩
  · exfalso; omega
  · refine ⟨by omega, ?_⟩
    have hA' : adj xs n a (u : Int) = true := by
      rw [adjN, Int.toNat_of_nonneg h0] at hA
      rw [adj_comm]; exact hA
    obtain ⟨i, hi, e⟩ := nb_mem hu hA'
    refine ⟨i, hi, ?_⟩
    rw [nxtP, e, Int.toNat_natCast, decide_eq_true_eq]
    omega
end Go.Proofs.YtgpkpopbajkklaaGreatDoor
/- Walks: a routing does what can be done. -/
set_option linter.unusedSimpArgs false
set_option linter.unusedVariables false
namespace Go.Proofs.YtgpkpopbajkklaaGreatDoor
open Go Go.RowKit
/-- A slice that lies apart from the blocks that may turn. -/
structure Ap (H0 : List Res) (w : World) (v : Value) (size n : Nat) (xs : List Value) : Prop where
  sl : Sl w v size n xs
  off : 0 < n → ∀ k, v.ownBlock = some k → ¬ Of H0 k
theorem Ap.go {H0 H : List Res} {w0 w : World} {v : Value} {size n : Nat} {xs : List Value} (h : Ap H0 w0 v size n xs) (hs : St (Of H0) w0 w H) : Sl w v size n xs := hs.slOff h.sl h.off
theorem Sl.lt {w : World} {v : Value} {size n : Nat} {xs : List Value} (h : Sl w v size n xs) (h0 : 0 < n) {k : Nat} (hk : v.ownBlock = some k) : k < w.heap.size := by
  obtain ⟨_, A, c, rfl, _, _, h4⟩ := h
  obtain ⟨b, o, rfl, hb, _⟩ := h4 h0
  simp only [Value.ownBlock, Option.some.injEq] at hk; subst hk; exact hb
theorem Ap.own {M : Nat → Prop} {H0 R : List Res} {w0 w : World} {v : Value} {e : TypeId} {size n : Nat} {xs : List Value} (hm : Res.own v e size n xs ∈ R) (hs : St M w0 w (H0 ++ R)) : Ap H0 w v size n xs :=
  ⟨hs.slOwn (List.mem_append_right _ hm), fun _ k hk ⟨r, hr, hrk⟩ => (List.pairwise_append.1 hs.disj).2.2 r hr _ hm k hrk hk⟩
theorem Cells.ap {E : Env} {H H0 : List Res} {b o n c size : Nat} {xs ys : List Value} {k : Nat} (h : Ap H0 E.w0 (.slice (some ⟨b, o, none⟩) n c) size n xs) (hM : E.M = Of H0) (hn : 0 < n) (hp : Pre xs k ys) : Cells E H b (o + k) ys := by
  intro w hs
  have hs' : St (Of H0) E.w0 w H := by rw [← hM]; exact hs
  obtain ⟨_, A, c', he, _, _, h4⟩ := h.go hs'
  injection he with e1 _ _
  obtain ⟨b', o', hA, _, hr⟩ := h4 hn
  rw [hA] at e1
  injection e1 with e1
  injection e1 with e2 e3
  subst e2; subst e3
  intro j v hv
  have := hr (k + j) v (hp.get j v hv)
  rw [← Nat.add_assoc] at this; exact this
end Go.Proofs.YtgpkpopbajkklaaGreatDoor
