/- Walks: the program reads a circuit text. -/
import Derived.Test.YtgpkpopbajkklaaGreatDoorV7
import Derived.Test.YtgpkpopbajkklaaGreatDoorProg
set_option linter.unusedSimpArgs false
set_option linter.unusedVariables false
namespace Go.Proofs.YtgpkpopbajkklaaGreatDoor
open Go Go.RowKit
namespace TxmT
theorem Tagg_24 : aggOf Tryz.prog 24 = some 2 := by kernel_rfl
theorem Tagg_59 : aggOf Tryz.prog 59 = some 3 := by kernel_rfl
theorem Tcall_55 : callable Tryz.prog 55 = true := by kernel_rfl
theorem Tcall_56 : callable Tryz.prog 56 = true := by kernel_rfl
theorem Tcall_57 : callable Tryz.prog 57 = true := by kernel_rfl
theorem Tcall_58 : callable Tryz.prog 58 = true := by kernel_rfl
theorem Tcall_59 : callable Tryz.prog 59 = true := by kernel_rfl
theorem Tfo_59_2 : fieldOff Tryz.prog 59 2 = some 2 := by kernel_rfl
theorem Tfo_91_2 : fieldOff Tryz.prog 91 2 = some 2 := by kernel_rfl
theorem Tfo_91_3 : fieldOff Tryz.prog 91 3 = some 3 := by kernel_rfl
theorem Tfo_91_4 : fieldOff Tryz.prog 91 4 = some 4 := by kernel_rfl
theorem Tfo_95_3 : fieldOff Tryz.prog 95 3 = some 3 := by kernel_rfl
theorem Tone_22 : oneOf Tryz.prog 22 = true := by kernel_rfl
theorem Tone_3 : oneOf Tryz.prog 3 = true := by kernel_rfl
theorem Tone_55 : oneOf Tryz.prog 55 = true := by kernel_rfl
theorem Tsize_24 : (Tryz.prog.info? 24).map (·.size) = some 2 := by kernel_rfl
theorem Tsize_59 : (Tryz.prog.info? 59).map (·.size) = some 3 := by kernel_rfl
theorem Tsl_22 : sliceOf Tryz.prog 22 = some (69, 3, 24, [.int .i64 0, .int .i64 0, .int .i64 0]) := by kernel_rfl
theorem Tsl_55 : sliceOf Tryz.prog 55 = some (59, 3, 48, [sv ([]), .int .i64 0, .slice none 0 0]) := by kernel_rfl
theorem Tsl_85 : sliceOf Tryz.prog 85 = some (95, 5, 72, [sv ([]), .int .i64 0, sv ([]), .int .i64 0, .slice none 0 0]) := by kernel_rfl
theorem Tstr_9 : strT Tryz.prog 9 = true := by kernel_rfl
theorem Tzero_24 : zeroOf Tryz.prog 24 = some [.int .i64 0, .slice none 0 0] := by kernel_rfl
theorem Tzero_59 : zeroOf Tryz.prog 59 = some [sv ([]), .int .i64 0, .slice none 0 0] := by kernel_rfl
end TxmT
open TxmT
theorem nums_pos (L : List Bs) : ∀ i, i < (nums L).length → 0 ≤ ix (nums L) i := by
  unfold nums
  split
  · rename_i h
    intro i hi
    rw [List.length_map] at hi
    have h1 := allI_iff.1 h i hi
    have e : ix (L.map num2) i = num2 (stx L i) := by simp [ix, stx, List.getD, List.getElem?_eq_getElem hi]
    rw [e]; simpa using h1
  · intro i hi; simp at hi
theorem nums_length {L : List Bs} (h : allNum L = true) : (nums L).length = L.length := by rw [nums, if_pos h, List.length_map]
theorem within_b {x lo hi : Int} (h : within x lo hi = true) : lo ≤ x ∧ x ≤ hi := by simpa [within] using h
theorem LiOk.of {x : Li} (h : x = .cl ∨ (∃ n, x = .qb n ∧ 1 ≤ n ∧ n ≤ 5) ∨ (∃ n, x = .rep n ∧ n ≤ 99) ∨ (∃ s n, x = .df s n ∧ 1 ≤ n ∧ n ≤ 5) ∨ (∃ s q, x = .call s q ∧ 1 ≤ q.length ∧ ∀ i, i < q.length → 0 ≤ ix q i) ∨ (∃ k q, x = .gate k q ∧ ∀ i, i < q.length → 0 ≤ ix q i)) : LiOk x := by
  rcases h with rfl | ⟨n, rfl, h⟩ | ⟨n, rfl, h⟩ | ⟨s, n, rfl, h⟩ | ⟨s, q, rfl, h, h'⟩ | ⟨k, q, rfl, h⟩ <;> refine ⟨?_, ?_, ?_, ?_, ?_⟩ <;> first | assumption | (intro h9; simp [Li.word, wQ, wR, wD, wC, wE, wG] at h9; done) | exact fun _ => h | (simp only [Li.num]; omega) | (intro i hi; simp only [Li.qs, List.length_nil] at hi; omega)
theorem lineW_ok {W : List Bs} {x : Li} (h : lineW W = some x) : LiOk x := by
  refine LiOk.of ?_
  unfold lineW at h
  split at h
  · split at h
    · rename_i h1; injection h with h; exact .inr (.inl ⟨_, h.symm, within_b h1.2⟩)
    · cases h
  · split at h
    · split at h
      · rename_i h1; injection h with h; exact .inr (.inr (.inl ⟨_, h.symm, (within_b h1.2.2).2⟩))
      · cases h
    · split at h
      · split at h
        · rename_i h1; injection h with h; exact .inr (.inr (.inr (.inl ⟨_, _, h.symm, within_b h1.2.2.2⟩)))
        · cases h
      · split at h
        · split at h
          · rename_i h1; injection h with h
            exact .inr (.inr (.inr (.inr (.inl ⟨_, _, h.symm, by rw [nums_length h1.2.2, List.length_drop]; omega, nums_pos _⟩))))
          · cases h
        · split at h
          · split at h
            · injection h with h; exact .inl h.symm
            · cases h
          · unfold gateW at h
            split at h
            · injection h with h; exact .inr (.inr (.inr (.inr (.inr ⟨_, _, h.symm, nums_pos _⟩))))
            · cases h
theorem lnAt_some {i : Nat} {l : Bs} {x : Li} (h : lnAt i l = some x) : lineB l = some x ∧ (x.word == wQ) = (i == 0) := by
  unfold lnAt at h
  split at h
  · split at h
    · rename_i h1 h2; injection h with h; subst h; exact ⟨h1, h2⟩
    · cases h
  · cases h
theorem flt_good {P : List Bs} (h : fltL P = 0) {i : Nat} (hi : i < P.length) : ∃ x, lnAt i (stx P i) = some x := by
  have h1 : anyI (badAt P) P.length = false := by
    cases h2 : anyI (badAt P) P.length with
    | false => rfl
    | true => have := findI_nonneg.2 h2; unfold fltL at h; omega
  cases h3 : lnAt i (stx P i) with
  | some x => exact ⟨x, rfl⟩
  | none =>
    have : anyI (badAt P) P.length = true := anyI_true hi (by rw [badAt, h3]; rfl)
    rw [this] at h1; cases h1
theorem lns_at {P : List Bs} {i k : Nat} {x : Li} (hi : i < k) (h : lnAt i (stx P i) = some x) : liAt (lns P k) i = x := by
  simp [liAt, lns, List.getD, hi, h]
theorem lns_calls {P : List Bs} (h : fltL P = 0) : CallsOk (lns P P.length) := by
  intro k hk
  rw [lns_length] at hk
  obtain ⟨x, hx⟩ := flt_good h hk
  rw [lns_at hk hx]
  exact lineW_ok (lnAt_some hx).1
theorem lns_q {P : List Bs} (h : fltL P = 0) (hP : 0 < P.length) : (liAt (lns P P.length) 0).word = wQ := by
  obtain ⟨x, hx⟩ := flt_good h hP
  rw [lns_at hP hx]
  have := (lnAt_some hx).2
  exact eq_of_beq (this.trans rfl)
theorem flt_ge (P : List Bs) : 0 ≤ fltL P := by
  have := (findI_lt (p := badAt P) (n := P.length)).1
  unfold fltL; omega
/-- Too many gates tell of a fault. -/
def szP : List Df → Int × Int → Int × Int
  | [], p => p
  | d :: r, p => szP r (if 400 < d.gs.length then tellP 6 0 p else p)
/-- The lines of a text, and what the program makes of them. -/
def lnsP (s : Bs) : List Li := lns (piecesP s) (piecesP s).length
def allD (X : List Li) : List Df := (runL X).1 ++ [⟨[], 0, (runL X).2.1⟩]
def rtC (s : Bs) : Int × Int :=
  if s = [] ∨ 8000 < s.length ∨ [10].isSuffixOf s = false then (1, 0)
  else if 0 < fltL (piecesP s) then (2, fltL (piecesP s))
  else if 0 < fbL (lnsP s) then (3, fbL (lnsP s))
  else szP (allD (lnsP s)) (runL (lnsP s)).2.2
/-- What the program reads: code and line, qubits, gates, definitions. -/
def rt (s : Bs) : (Int × Int) × Int × List G3 × List Df :=
  if (rtC s).1 = 0 then ((0, 0), (liAt (lnsP s) 0).num, (runL (lnsP s)).2.1, (runL (lnsP s)).1) else (rtC s, 0, [], [])
theorem rtC1 {s : Bs} (h : s = [] ∨ 8000 < s.length ∨ [10].isSuffixOf s = false) : rt s = ((1, 0), 0, [], []) := by
  have e : rtC s = (1, 0) := by rw [rtC, if_pos h]
  rw [rt, e, if_neg (by decide)]
theorem rtC2 {s : Bs} (h : ¬ (s = [] ∨ 8000 < s.length ∨ [10].isSuffixOf s = false)) (h2 : 0 < fltL (piecesP s)) : rt s = ((2, fltL (piecesP s)), 0, [], []) := by
  have e : rtC s = (2, fltL (piecesP s)) := by rw [rtC, if_neg h, if_pos h2]
  rw [rt, e, if_neg (by simp)]
theorem rtC3 {s : Bs} (h : ¬ (s = [] ∨ 8000 < s.length ∨ [10].isSuffixOf s = false)) (h2 : ¬ 0 < fltL (piecesP s)) (h3 : 0 < fbL (lnsP s)) : rt s = ((3, fbL (lnsP s)), 0, [], []) := by
  have e : rtC s = (3, fbL (lnsP s)) := by rw [rtC, if_neg h, if_neg h2, if_pos h3]
  rw [rt, e, if_neg (by simp)]
theorem rtC4 {s : Bs} (h : ¬ (s = [] ∨ 8000 < s.length ∨ [10].isSuffixOf s = false)) (h2 : ¬ 0 < fltL (piecesP s)) (h3 : ¬ 0 < fbL (lnsP s)) {p q : Int} (hp : szP (allD (lnsP s)) (runL (lnsP s)).2.2 = (p, q)) :
    rt s = if p = 0 then ((0, 0), (liAt (lnsP s) 0).num, (runL (lnsP s)).2.1, (runL (lnsP s)).1) else ((p, q), 0, [], []) := by
  have e : rtC s = (p, q) := by rw [rtC, if_neg h, if_neg h2, if_neg h3, hp]
  rw [rt, e]
theorem LAp.grp {M : Nat → Prop} {H0 R : List Res} {w0 w : World} {e : TypeId} {L : List LV} (hm : Res.grp e 1 (tgr L) ∈ R) (hs : St M w0 w (H0 ++ R)) : LAp H0 w L := by
  intro k hk
  have hp : ((tx L k).2, (tx L k).1.qs.length, ints (tx L k).1.qs) ∈ tgr L := List.mem_map.2 ⟨_, tx_mem hk, rfl⟩
  obtain ⟨A, B, hAB⟩ := List.append_of_mem hp
  obtain ⟨R1, R2, rfl⟩ := List.append_of_mem hm
  rw [hAB] at hs
  have h1 : St M w0 w (Res.grp e 1 (A ++ ((tx L k).2, (tx L k).1.qs.length, ints (tx L k).1.qs) :: B) :: (H0 ++ (R1 ++ R2))) := by
    have h := hs.perm (H' := Res.grp e 1 (A ++ ((tx L k).2, (tx L k).1.qs.length, ints (tx L k).1.qs) :: B) :: (H0 ++ (R1 ++ R2))) (by rw [← List.append_assoc, ← List.append_assoc]; exact List.perm_middle)
    exact h
  have h2 := Weak.grpTakeG _ _ _ h1
  have h3 : St M w0 w (H0 ++ (Res.own (tx L k).2 e 1 (tx L k).1.qs.length (ints (tx L k).1.qs) :: Res.grp e 1 (A ++ B) :: (R1 ++ R2))) := by
    have h := h2.perm (H' := H0 ++ (Res.own (tx L k).2 e 1 (tx L k).1.qs.length (ints (tx L k).1.qs) :: Res.grp e 1 (A ++ B) :: (R1 ++ R2))) (by
      refine List.Perm.trans ?_ List.perm_middle.symm
      exact List.Perm.cons _ List.perm_middle.symm)
    exact h
  exact Ap.own (.head _) h3
theorem drop_dv {E : List DV} {k : Nat} (hk : k < E.length) : (E.map (·.1)).drop k = (dx E k).1 :: (E.map (·.1)).drop (k + 1) := by
  rw [List.drop_eq_getElem_cons (by simpa using hk)]
  simp [dx, List.getD, hk]
theorem DQ.formed {w : World} {E : List DV} (h : DQ w E) : ∀ k, k < E.length → ∃ A c, (dx E k).2 = .slice A (dx E k).1.gs.length c := fun k hk => by
  obtain ⟨A, c, h1, _, _⟩ := (h k hk).form0
  exact ⟨A, c, h1⟩
theorem dls_app (E F : List DV) : dls (E ++ F) = dls E ++ dls F := by simp [dls]
theorem dls_take (E : List DV) (x : DV) : (dls (E ++ [x])).take (E.length * 3) = dls E := by rw [dls_app, List.take_left' (dls_length E)]

theorem rn_len {xs : List Li} : ∀ (f a : Nat) (p : Int × Int) (D : List Df), (rn xs f a p D).1.length ≤ D.length + (xs.length - a)
  | 0, a, p, D => by rw [rn]; show D.length ≤ _; omega
  | f + 1, a, p, D => by
    rw [rn]
    split
    · rename_i hc
      have h1 := bkc_le xs D D.length (liAt xs a).num (a + 1) (twiceP D (liAt xs a).nm a p) []
      refine Nat.le_trans (rn_len f _ _ _) ?_
      rw [List.length_append, List.length_singleton]; omega
    · show D.length ≤ _; omega
theorem runL_len (X : List Li) : (runL X).1.length ≤ X.length := by
  have h := rn_len (xs := X) (X.length - 1 + 1) 1 (0, 0) []
  rw [List.length_nil] at h
  show (rn X (X.length - 1 + 1) 1 (0, 0) []).1.length ≤ X.length
  omega
theorem dgr_last {H : List Res} {e : TypeId} {E F : List DV} {d : Df} {v : Value} (hF : E ++ [dv d v] = F) : Weak (.grp e 3 (dgr F) :: H) (.own v e 3 d.gs.length (ints (fl d.gs)) :: .grp e 3 (dgr E) :: H) := by
  subst hF
  have e1 : dgr (E ++ [dv d v]) = dgr E ++ (v, d.gs.length, ints (fl d.gs)) :: [] := by simp [dgr]
  rw [e1]
  have := Weak.grpTakeG (H := H) (e := e) (size := 3) (p := (v, d.gs.length, ints (fl d.gs))) (A := dgr E) (B := [])
  rw [List.append_nil] at this
  exact this

set_option maxHeartbeats 16000000 in
set_option maxRecDepth 20000 in
theorem readText_spec {s : Bs} {w : World} (hg : Gl w) (hl : s.length ≤ 9223372036854775807) : Calls Tryz.prog 30 #[sv s] w (Post No w fun v H => ∃ vg vd D, D.map (·.1) = (rt s).2.2.2 ∧ v = .tuple #[.agg #[.int .i64 (rt s).2.1, vg], vd, .int .i64 (rt s).1.1, .int .i64 (rt s).1.2] ∧ H = [.own vg 69 3 (rt s).2.2.1.length (ints (fl (rt s).2.2.1)), .own vd 59 3 D.length (dls D), .grp 69 3 (dgr D)]) := by
 obtain ⟨X, hX⟩ : ∃ X, lnsP s = X := ⟨_, rfl⟩
 refine enter (n := 90) (args := [sv s]) Tryz.func30 rfl rfl (St.empty _ _) ?_
 refine .sr ?_
 refine .step rfl (.alloc (zs := [.int .i64 0, .slice none 0 0]) Tzero_24 fun b1 => ?_)
 iterate 3 refine .m ?_
 refine .done ?_
 refine .seq ?_
 refine .sr ?_
 refine .w (sv s) ?_
 refine .u (.bool (s == ([]))) (.eqS rfl rfl) ?_
 rcases Bool.eq_false_or_eq_true (s == ([])) with h15 | h15
 ·refine .mb h15 ?_
  have p15 := h15; try simp only [bs] at p15
  iterate 3 refine .pass rfl ?_
  refine .w (.bool true) ?_
  refine .m ?_
  iterate 3 refine .pass rfl ?_
  refine .w (.bool true) ?_
  refine .done ?_
  refine .cond (b := true) rfl (fun _ => ?_) (fun h => nomatch h)
  refine .seq ?_
  refine Run.weak (H' := [.grp 69 3 (dgr []), .blk b1 24 [.int .i64 0, .slice none 0 0]]) (Weak.grpNil _ _) ?_ ⟨_, _, rfl, fun _ => nofun, fun _ => nofun⟩
  refine .region ?_
  refine .u (.agg #[.int .i64 0, .slice none 0 0]) (.build (cs := [.int .i64 0, .slice none 0 0]) (by kernel_rfl)) ?_
  refine .step rfl (.storeAll (us := [.int .i64 0, .slice none 0 0]) Tsize_24 rfl rfl rfl (.there _ (.here _)) rfl ?_)
  iterate 3 refine .m ?_
  refine .done ?_
  refine .ret ?_
  refine ⟨.tuple #[.agg #[.int .i64 0, .slice none 0 0], .slice none 0 0, .int .i64 1, .int .i64 0], [.own (.slice none 0 0) 69 3 (([] : List G3).length) (ints (fl ([] : List G3))), .own (.slice none 0 0) 59 3 (([] : List DV).length) (dls ([] : List DV)), .grp 69 3 (dgr [])], Out.cell4 rfl Tagg_24 rfl (Cells.blk (.tail _ (.head _)) ⟨rfl, rfl, trivial⟩) rfl rfl rfl, ((Weak.nilOwn 59 3).trans ((Weak.nilOwn 69 3).trans (Some'.weak (.takeEq (by first | rfl | simp [dls, fl, ints]) (.takeEq (by first | rfl | simp [dls, fl, ints]) (.take (.nil _))))))), ?_⟩
  rw [rtC1 (by first | exact .inl p15 | exact .inr (.inl (by omega)))]; exact ⟨_, _, [], rfl, rfl, rfl⟩
 refine .mb h15 ?_
 have p15 := h15; try simp only [bs] at p15
 refine .w (sv s) ?_
 refine .u (.int .i64 (((s.length : Nat) : Int))) (.lenS Tstr_9 rfl) ?_
 refine .w (.bool (decide ((((s.length : Nat) : Int)) > 8000))) ?_
 refine .w (.bool (decide ((((s.length : Nat) : Int)) > 8000))) ?_
 rcases Bool.eq_false_or_eq_true (decide ((((s.length : Nat) : Int)) > 8000)) with h20 | h20
 ·refine .mb h20 ?_
  have p20 := h20; try simp only [bs] at p20
  iterate 3 refine .pass rfl ?_
  refine .w (.bool true) ?_
  refine .done ?_
  refine .cond (b := true) rfl (fun _ => ?_) (fun h => nomatch h)
  refine .seq ?_
  refine Run.weak (H' := [.grp 69 3 (dgr []), .blk b1 24 [.int .i64 0, .slice none 0 0]]) (Weak.grpNil _ _) ?_ ⟨_, _, rfl, fun _ => nofun, fun _ => nofun⟩
  refine .region ?_
  refine .u (.agg #[.int .i64 0, .slice none 0 0]) (.build (cs := [.int .i64 0, .slice none 0 0]) (by kernel_rfl)) ?_
  refine .step rfl (.storeAll (us := [.int .i64 0, .slice none 0 0]) Tsize_24 rfl rfl rfl (.there _ (.here _)) rfl ?_)
  iterate 3 refine .m ?_
  refine .done ?_
  refine .ret ?_
  refine ⟨.tuple #[.agg #[.int .i64 0, .slice none 0 0], .slice none 0 0, .int .i64 1, .int .i64 0], [.own (.slice none 0 0) 69 3 (([] : List G3).length) (ints (fl ([] : List G3))), .own (.slice none 0 0) 59 3 (([] : List DV).length) (dls ([] : List DV)), .grp 69 3 (dgr [])], Out.cell4 rfl Tagg_24 rfl (Cells.blk (.tail _ (.head _)) ⟨rfl, rfl, trivial⟩) rfl rfl rfl, ((Weak.nilOwn 59 3).trans ((Weak.nilOwn 69 3).trans (Some'.weak (.takeEq (by first | rfl | simp [dls, fl, ints]) (.takeEq (by first | rfl | simp [dls, fl, ints]) (.take (.nil _))))))), ?_⟩
  rw [rtC1 (by first | exact .inl p15 | exact .inr (.inl (by omega)))]; exact ⟨_, _, [], rfl, rfl, rfl⟩
 refine .mb h20 ?_
 have p20 := h20; try simp only [bs] at p20
 refine .w (sv s) ?_
 refine .c (.bool ([10].isSuffixOf s)) [sv s, sv ([10])] Tcall_55 (fun w hs => HasSuffix_spec hl) ?_
 refine .w (.bool (!([10].isSuffixOf s))) ?_
 refine .w (.bool (!([10].isSuffixOf s))) ?_
 refine .done ?_
 refine .cond (b := !([10].isSuffixOf s)) rfl (fun h24 => ?_) (fun h24 => ?_)
 ·have p24 := h24; try simp only [bs] at p24
  refine .seq ?_
  refine Run.weak (H' := [.grp 69 3 (dgr []), .blk b1 24 [.int .i64 0, .slice none 0 0]]) (Weak.grpNil _ _) ?_ ⟨_, _, rfl, fun _ => nofun, fun _ => nofun⟩
  refine .region ?_
  refine .u (.agg #[.int .i64 0, .slice none 0 0]) (.build (cs := [.int .i64 0, .slice none 0 0]) (by kernel_rfl)) ?_
  refine .step rfl (.storeAll (us := [.int .i64 0, .slice none 0 0]) Tsize_24 rfl rfl rfl (.there _ (.here _)) rfl ?_)
  iterate 3 refine .m ?_
  refine .done ?_
  refine .ret ?_
  refine ⟨.tuple #[.agg #[.int .i64 0, .slice none 0 0], .slice none 0 0, .int .i64 1, .int .i64 0], [.own (.slice none 0 0) 69 3 (([] : List G3).length) (ints (fl ([] : List G3))), .own (.slice none 0 0) 59 3 (([] : List DV).length) (dls ([] : List DV)), .grp 69 3 (dgr [])], Out.cell4 rfl Tagg_24 rfl (Cells.blk (.tail _ (.head _)) ⟨rfl, rfl, trivial⟩) rfl rfl rfl, ((Weak.nilOwn 59 3).trans ((Weak.nilOwn 69 3).trans (Some'.weak (.takeEq (by first | rfl | simp [dls, fl, ints]) (.takeEq (by first | rfl | simp [dls, fl, ints]) (.take (.nil _))))))), ?_⟩
  rw [rtC1 (by first | exact .inl p15 | exact .inr (.inl (by omega)) | exact .inr (.inr (by simpa using p24)))]; exact ⟨_, _, [], rfl, rfl, rfl⟩
 have p24 := h24; try simp only [bs] at p24
 refine .skip ?_
 refine .seq ?_
 have hgo : ¬ (s = [] ∨ 8000 < s.length ∨ [10].isSuffixOf s = false) := by simp_all <;> omega
 have hl8 : s.length ≤ 8000 := by omega
 refine .region ?_
 refine .w (sv s) ?_
 refine .step rfl (.c [sv s] Tcall_56 (fun w hs => readLines_spec (hg.go hs) hl8) ?_)
 rintro _ _ ⟨vl, L, rfl, rfl, hLl⟩
 show Run _ _ (putF _ _ _ (.tuple #[vl, .int .i64 (fltL (piecesP s))])) [.own vl 95 5 (L.length) (tls L), .grp 3 1 (tgr L), .blk b1 24 [.int .i64 0, .slice none 0 0]]
 refine .w (.tuple #[vl, .int .i64 (fltL (piecesP s))]) ?_
 refine .w vl ?_
 refine .w (.int .i64 (fltL (piecesP s))) ?_
 refine .w vl ?_
 refine .m ?_
 refine .done ?_
 refine .seq ?_
 refine .sr ?_
 refine .m ?_
 refine .w (.bool (decide ((fltL (piecesP s)) > 0))) ?_
 refine .done ?_
 refine .cond (b := decide ((fltL (piecesP s)) > 0)) rfl (fun h32 => ?_) (fun h32 => ?_)
 ·have p32 := h32; try simp only [bs] at p32
  refine .seq ?_
  refine Run.weak (H' := [.grp 69 3 (dgr []), .own vl 95 5 (L.length) (tls L), .grp 3 1 (tgr L), .blk b1 24 [.int .i64 0, .slice none 0 0]]) (Weak.grpNil _ _) ?_ ⟨_, _, rfl, fun _ => nofun, fun _ => nofun⟩
  refine .region ?_
  refine .u (.agg #[.int .i64 0, .slice none 0 0]) (.build (cs := [.int .i64 0, .slice none 0 0]) (by kernel_rfl)) ?_
  refine .m ?_
  refine .step rfl (.storeAll (us := [.int .i64 0, .slice none 0 0]) Tsize_24 rfl rfl rfl (.there _ (.there _ (.there _ (.here _)))) rfl ?_)
  iterate 3 refine .m ?_
  refine .done ?_
  refine .ret ?_
  refine ⟨.tuple #[.agg #[.int .i64 0, .slice none 0 0], .slice none 0 0, .int .i64 2, .int .i64 (fltL (piecesP s))], [.own (.slice none 0 0) 69 3 (([] : List G3).length) (ints (fl ([] : List G3))), .own (.slice none 0 0) 59 3 (([] : List DV).length) (dls ([] : List DV)), .grp 69 3 (dgr [])], Out.cell4 rfl Tagg_24 rfl (Cells.blk (.tail _ (.tail _ (.tail _ (.head _)))) ⟨rfl, rfl, trivial⟩) rfl rfl rfl, ((Weak.nilOwn 59 3).trans ((Weak.nilOwn 69 3).trans (Some'.weak (.takeEq (by first | rfl | simp [dls, fl, ints]) (.takeEq (by first | rfl | simp [dls, fl, ints]) (.take (.nil _))))))), ?_⟩
  rw [rtC2 hgo (by omega)]; exact ⟨_, _, [], rfl, rfl, rfl⟩
 have p32 := h32; try simp only [bs] at p32
 have hf0 : fltL (piecesP s) = 0 := by have := flt_ge (piecesP s); omega
 have hLX : L.map (·.1) = X := by rw [hLl hf0, ← hX]; rfl
 have hcX : CallsOk X := by rw [← hX]; exact lns_calls hf0
 have hP1 : 0 < (piecesP s).length := List.length_pos_iff.2 (splitC_ne _ _)
 have hq0 : (liAt X 0).word = wQ := by rw [← hX]; exact lns_q hf0 hP1
 have hLP : L.length = (piecesP s).length := by rw [← List.length_map (f := (·.1)), hLl hf0, lns_length]
 have hN1 : 1 ≤ L.length := by omega
 have hPm : (piecesP s).length ≤ 8001 := by have := splitC_length 10 (Lib.trimSuffix s [10]); have := trim_le s [10]; unfold piecesP; omega
 refine .skip ?_
 refine .seq ?_
 refine .sr ?_
 refine .w vl ?_
 refine .c (.int .i64 (fbL X)) [vl] Tcall_57 (fun w hs => (by have h := faultyBlock_spec (hs.slOwn (.head _)) (hs.lq (.tail _ (.head _))) hN1 (by omega); rw [hLX] at h; exact h)) ?_
 refine .m ?_
 refine .dsr ?_
 refine .m ?_
 refine .w (.bool (decide ((fbL X) > 0))) ?_
 refine .done ?_
 refine .cond (b := decide ((fbL X) > 0)) rfl (fun h38 => ?_) (fun h38 => ?_)
 ·have p38 := h38; try simp only [bs] at p38
  refine .seq ?_
  refine Run.weak (H' := [.grp 69 3 (dgr []), .own vl 95 5 (L.length) (tls L), .grp 3 1 (tgr L), .blk b1 24 [.int .i64 0, .slice none 0 0]]) (Weak.grpNil _ _) ?_ ⟨_, _, rfl, fun _ => nofun, fun _ => nofun⟩
  refine .region ?_
  refine .u (.agg #[.int .i64 0, .slice none 0 0]) (.build (cs := [.int .i64 0, .slice none 0 0]) (by kernel_rfl)) ?_
  refine .m ?_
  refine .step rfl (.storeAll (us := [.int .i64 0, .slice none 0 0]) Tsize_24 rfl rfl rfl (.there _ (.there _ (.there _ (.here _)))) rfl ?_)
  iterate 3 refine .m ?_
  refine .done ?_
  refine .ret ?_
  refine ⟨.tuple #[.agg #[.int .i64 0, .slice none 0 0], .slice none 0 0, .int .i64 3, .int .i64 (fbL X)], [.own (.slice none 0 0) 69 3 (([] : List G3).length) (ints (fl ([] : List G3))), .own (.slice none 0 0) 59 3 (([] : List DV).length) (dls ([] : List DV)), .grp 69 3 (dgr [])], Out.cell4 rfl Tagg_24 rfl (Cells.blk (.tail _ (.tail _ (.tail _ (.head _)))) ⟨rfl, rfl, trivial⟩) rfl rfl rfl, ((Weak.nilOwn 59 3).trans ((Weak.nilOwn 69 3).trans (Some'.weak (.takeEq (by first | rfl | simp [dls, fl, ints]) (.takeEq (by first | rfl | simp [dls, fl, ints]) (.take (.nil _))))))), ?_⟩
  rw [rtC3 hgo (by omega) (by rw [hX]; omega), hX]; exact ⟨_, _, [], rfl, rfl, rfl⟩
 have p38 := h38; try simp only [bs] at p38
 refine .skip ?_
 refine .sr ?_
 refine .w vl ?_
 refine Run.formOwn (.head _) (fun A_vl1 c_vl1 hv hcapc_vl1 hmaxc_vl1 => ?_) (fun _ _ _ => ⟨nofun, nofun, nofun⟩)
 subst hv
 refine .u (.agg #[.slice A_vl1 (L.length) c_vl1, .int .i64 0, .slice none 0 0, .int .i64 0, .int .i64 0]) (.build (cs := [.slice A_vl1 (L.length) c_vl1, .int .i64 0, .slice none 0 0, .int .i64 0, .int .i64 0]) (by kernel_rfl)) ?_
 refine .step rfl (.box (us := [.slice A_vl1 (L.length) c_vl1, .int .i64 0, .slice none 0 0, .int .i64 0, .int .i64 0]) rfl fun b2 => ?_)
 refine .m ?_
 refine .dsr ?_
 refine .m ?_
 refine .step rfl (.callM (H1 := [.blk b2 91 [.slice A_vl1 (L.length) c_vl1, .int .i64 0, .slice none 0 0, .int .i64 0, .int .i64 0]]) (H2 := [.own (.slice A_vl1 (L.length) c_vl1) 95 5 (L.length) (tls L), .grp 3 1 (tgr L), .blk b1 24 [.int .i64 0, .slice none 0 0]]) (vs := [.pointer (some ⟨b2, 0, none⟩)]) (caps := []) Tcall_58 rfl rfl (Weak.refl _) (fun w hs => (by have h := run_spec (L := L) (N := L.length) (by omega) (by omega) (Ap.own (.head _) hs) (LAp.grp (.tail _ (List.Mem.head _)) hs) (by rw [hLX]; exact hcX) (by rw [hLX]; exact hq0) (hs.holds _ (.head _)); rw [hLX] at h; exact h)) ?_)
 rintro vg _ ⟨vd, E, ra, hE, rfl⟩
 show Run _ _ (putF _ _ _ vg) [.own vg 69 3 ((runL X).2.1.length) (ints (fl (runL X).2.1)), .blk b2 91 [.slice A_vl1 (L.length) c_vl1, .int .i64 ra, vd, .int .i64 ((runL X).2.2.1), .int .i64 ((runL X).2.2.2)], .own vd 59 3 (E.length) (dls E), .grp 69 3 (dgr E), .own (.slice A_vl1 (L.length) c_vl1) 95 5 (L.length) (tls L), .grp 3 1 (tgr L), .blk b1 24 [.int .i64 0, .slice none 0 0]]
 refine .w vg ?_
 refine .done ?_
 refine .seq ?_
 refine .seq ?_
 refine Run.formOwn (.head _) (fun A_vg1 c_vg1 hv hcapc_vg1 hmaxc_vg1 => ?_) (fun _ _ _ => ⟨nofun, nofun, nofun⟩)
 subst hv
 obtain ⟨F, hF⟩ : ∃ F, E ++ [dv ⟨[], 0, (runL X).2.1⟩ (.slice A_vg1 ((runL X).2.1.length) c_vg1)] = F := ⟨_, rfl⟩
 refine Run.weak (H' := [.grp 69 3 (dgr (E ++ [dv ⟨[], 0, (runL X).2.1⟩ (.slice A_vg1 ((runL X).2.1.length) c_vg1)])), .blk b2 91 [.slice A_vl1 (L.length) c_vl1, .int .i64 ra, vd, .int .i64 ((runL X).2.2.1), .int .i64 ((runL X).2.2.2)], .own vd 59 3 (E.length) (dls E), .own (.slice A_vl1 (L.length) c_vl1) 95 5 (L.length) (tls L), .grp 3 1 (tgr L), .blk b1 24 [.int .i64 0, .slice none 0 0]]) ((Weak.selF [0, 2]).trans (Weak.dgrSnoc (d := ⟨[], 0, (runL X).2.1⟩))) ?_ ⟨_, _, rfl, fun _ => nofun, fun _ => nofun⟩
 refine Run.weak (H' := [.grp 69 3 (dgr F), .blk b2 91 [.slice A_vl1 (L.length) c_vl1, .int .i64 ra, vd, .int .i64 ((runL X).2.2.1), .int .i64 ((runL X).2.2.2)], .own vd 59 3 (E.length) (dls E), .own (.slice A_vl1 (L.length) c_vl1) 95 5 (L.length) (tls L), .grp 3 1 (tgr L), .blk b1 24 [.int .i64 0, .slice none 0 0]]) (Some'.weak (.takeEq (by rw [hF]) (.take (.take (.take (.take (.take (.nil _)))))))) ?_ ⟨_, _, rfl, fun _ => nofun, fun _ => nofun⟩
 have hFl : F.length = E.length + 1 := by rw [← hF]; simp
 have hEN : E.length ≤ L.length := by have := runL_len X; rw [← hE, List.length_map, ← hLX, List.length_map] at this; exact this
 have hFm : F.map (·.1) = allD X := by rw [← hF, List.map_append, hE]; rfl
 refine Run.know _ (fun w hs => (hs.dq (.head _)).formed) (fun hform => ?_) (fun _ _ _ => ⟨nofun, nofun, nofun⟩)
 refine .region ?_
 refine .m ?_
 refine .u (.pointer (some ⟨b2, 0, none⟩)) (.nilCheck rfl) ?_
 refine .fa Tfo_91_2 ?_
 refine .u vd (.load1 Tone_55 rfl (.b (.tail _ (.head _)))) ?_
 refine .m ?_
 refine .u (.agg #[sv ([]), .int .i64 0, .slice A_vg1 ((runL X).2.1.length) c_vg1]) (.build (cs := [sv ([]), .int .i64 0, .slice A_vg1 ((runL X).2.1.length) c_vg1]) (by kernel_rfl)) ?_
 refine .step rfl (.buildSlice (us := [sv ([]), .int .i64 0, .slice A_vg1 ((runL X).2.1.length) c_vg1]) Tsl_55 (by decide) (by decide) ⟨rfl, [sv ([]), .int .i64 0, .slice A_vg1 ((runL X).2.1.length) c_vg1], _, rfl, rfl, rfl, rfl⟩ rfl fun b3 => ?_)
 refine .step rfl (.appendKeep (H1 := [.own (.slice (some ⟨b3, 0, none⟩) 1 1) 59 3 1 ([sv ([]), .int .i64 0, .slice A_vg1 ((runL X).2.1.length) c_vg1]), .grp 69 3 (dgr F), .blk b2 91 [.slice A_vl1 (L.length) c_vl1, .int .i64 ra, vd, .int .i64 ((runL X).2.2.1), .int .i64 ((runL X).2.2.2)]]) (H2 := [.own (.slice A_vl1 (L.length) c_vl1) 95 5 (L.length) (tls L), .grp 3 1 (tgr L), .blk b1 24 [.int .i64 0, .slice none 0 0]]) (v := vd) (u := .slice (some ⟨b3, 0, none⟩) 1 1) (n := E.length) (m := 1) (xs := dls E) (ys := [sv ([]), .int .i64 0, .slice A_vg1 ((runL X).2.1.length) c_vg1]) Tsl_55 (by decide) rfl rfl rfl rfl (fun w hs => hs.slOwn (.head _)) (by decide) (by simp [Value.oneCell']) (by omega) (by simp only [maxLen]; omega) ?_ ?_)
 ·intro g1 cap1 hg1
  subst hg1
  refine Run.weak (H' := [.own (.slice (some ⟨b3, 0, none⟩) 1 1) 59 3 1 ([sv ([]), .int .i64 0, .slice A_vg1 ((runL X).2.1.length) c_vg1]), .grp 69 3 (dgr F), .blk b2 91 [.slice A_vl1 (L.length) c_vl1, .int .i64 ra, .slice (some ⟨g1, 0, none⟩) (E.length) cap1, .int .i64 ((runL X).2.2.1), .int .i64 ((runL X).2.2.2)], .own (.slice (some ⟨g1, 0, none⟩) (E.length + 1) cap1) 59 3 (E.length + 1) (dls F), .own (.slice A_vl1 (L.length) c_vl1) 95 5 (L.length) (tls L), .grp 3 1 (tgr L), .blk b1 24 [.int .i64 0, .slice none 0 0]]) (Some'.weak (.take (.take (.take (.takeEq (by rw [← hF]; simp [dls, dle]) (.take (.take (.take (.nil _))))))))) ?_ ⟨_, _, rfl, fun _ => nofun, fun _ => nofun⟩
  refine .u (.int .i64 (((E.length + 1 : Nat) : Int))) (.len Tsl_55 rfl) ?_
  refine .m ?_
  refine .done ?_
  refine .block ?_
  refine Run.loop (ι := Nat × Int × Int) [12, 55, 56, 57, 58, 59, 60, 61, 62, 63, 64, 65] (fun ⟨k, p, q⟩ => [(55, .int .i64 (((k : Nat) : Int)))]) (fun ⟨k, p, q⟩ => [.own (.slice (some ⟨b3, 0, none⟩) 1 1) 59 3 1 ([sv ([]), .int .i64 0, .slice A_vg1 ((runL X).2.1.length) c_vg1]), .grp 69 3 (dgr F), .blk b2 91 [.slice A_vl1 (L.length) c_vl1, .int .i64 ra, .slice (some ⟨g1, 0, none⟩) (E.length) cap1, .int .i64 p, .int .i64 q], .own (.slice (some ⟨g1, 0, none⟩) (E.length + 1) cap1) 59 3 (E.length + 1) (dls F), .own (.slice A_vl1 (L.length) c_vl1) 95 5 (L.length) (tls L), .grp 3 1 (tgr L), .blk b1 24 [.int .i64 0, .slice none 0 0]]) (fun ⟨k, p, q⟩ => k ≤ F.length ∧ szP ((F.map (·.1)).drop k) (p, q) = szP (F.map (·.1)) (runL X).2.2) (fun ⟨k, p, q⟩ => F.length - k) (0, (runL X).2.2.1, (runL X).2.2.2) ?_ ?_ ?_ ?_
  ·exact ⟨Nat.zero_le _, rfl⟩
  ·exact ⟨rfl, trivial⟩
  ·exact ((Weak.refl _).trans (Some'.weak (.take (.take (.takeEq (by first | rfl | simp) (.take (.take (.take (.take (.nil _))))))))))
  rintro ⟨k, p, q⟩ fr hinv
  show Run _ _ (over _ _ [(55, .int .i64 (((k : Nat) : Int)))] fr) [.own (.slice (some ⟨b3, 0, none⟩) 1 1) 59 3 1 ([sv ([]), .int .i64 0, .slice A_vg1 ((runL X).2.1.length) c_vg1]), .grp 69 3 (dgr F), .blk b2 91 [.slice A_vl1 (L.length) c_vl1, .int .i64 ra, .slice (some ⟨g1, 0, none⟩) (E.length) cap1, .int .i64 p, .int .i64 q], .own (.slice (some ⟨g1, 0, none⟩) (E.length + 1) cap1) 59 3 (E.length + 1) (dls F), .own (.slice A_vl1 (L.length) c_vl1) 95 5 (L.length) (tls L), .grp 3 1 (tgr L), .blk b1 24 [.int .i64 0, .slice none 0 0]]
  try dsimp only at hinv
  refine .sr ?_
  refine .w (.bool (decide ((((k : Nat) : Int)) < (((E.length + 1 : Nat) : Int))))) ?_
  refine .done ?_
  refine .seq ?_
  refine .cond (b := decide ((((k : Nat) : Int)) < (((E.length + 1 : Nat) : Int)))) rfl (fun h56 => ?_) (fun h56 => ?_)
  ·have p56 := h56; try simp only [bs] at p56
   have hltk : k < F.length := by omega
   obtain ⟨hk, hsz⟩ := hinv
   obtain ⟨d, hx⟩ : ∃ d, (dx F k).1 = d := ⟨_, rfl⟩
   obtain ⟨Ag, cg, hq⟩ := hform k hltk
   rw [hx] at hq
   rw [drop_dv hltk, hx, szP] at hsz
   refine .skip ?_
   refine .seq ?_
   refine .block ?_
   refine .sr ?_
   refine .u (.pointer (some ⟨g1, k * 3, none⟩)) (.ix k Tsl_55) ?_
   refine .u (.agg #[sv (d.nm), .int .i64 (d.n), .slice Ag (d.gs.length) cg]) (.loadN (cs := [sv (d.nm), .int .i64 (d.n), .slice Ag (d.gs.length) cg]) Tagg_59 rfl (Cells.own0 (.tail _ (.tail _ (.tail _ (.head _)))) (dls_preF (k := k) (by omega) hx hq))) ?_
   refine .step rfl (.alloc (zs := [sv ([]), .int .i64 0, .slice none 0 0]) Tzero_59 fun b4 => ?_)
   refine .step rfl (.storeAll (us := [sv (d.nm), .int .i64 (d.n), .slice Ag (d.gs.length) cg]) Tsize_59 rfl rfl rfl (.here _) rfl ?_)
   refine .dsr ?_
   refine .fa Tfo_59_2 ?_
   refine .u (.slice Ag (d.gs.length) cg) (.load1 Tone_22 rfl (.b (.head _))) ?_
   refine .u (.int .i64 (((d.gs.length : Nat) : Int))) (.len Tsl_22 rfl) ?_
   refine .w (.bool (decide ((((d.gs.length : Nat) : Int)) > 400))) ?_
   refine .done ?_
   refine .cond (b := decide ((((d.gs.length : Nat) : Int)) > 400)) rfl (fun h62 => ?_) (fun h62 => ?_)
   ·have p62 := h62; try simp only [bs] at p62
    rw [if_pos (by omega)] at hsz
    refine .region ?_
    refine .m ?_
    refine .step rfl (.callM (H1 := [.blk b2 91 [.slice A_vl1 (L.length) c_vl1, .int .i64 ra, .slice (some ⟨g1, 0, none⟩) (E.length) cap1, .int .i64 p, .int .i64 q]]) (H2 := [.blk b4 59 [sv (d.nm), .int .i64 (d.n), .slice Ag (d.gs.length) cg], .own (.slice (some ⟨b3, 0, none⟩) 1 1) 59 3 1 ([sv ([]), .int .i64 0, .slice A_vg1 ((runL X).2.1.length) c_vg1]), .grp 69 3 (dgr F), .own (.slice (some ⟨g1, 0, none⟩) (E.length + 1) cap1) 59 3 (E.length + 1) (dls F), .own (.slice A_vl1 (L.length) c_vl1) 95 5 (L.length) (tls L), .grp 3 1 (tgr L), .blk b1 24 [.int .i64 0, .slice none 0 0]]) (vs := [.pointer (some ⟨b2, 0, none⟩), .int .i64 6, .int .i64 0]) (caps := []) Tcall_59 rfl rfl (Weak.selF [3]) (fun w hs => tell_spec (hs.holds _ (.head _))) ?_)
    rintro _ _ ⟨rfl, rfl⟩
    show Run _ _ (putF _ _ _ (.tuple #[])) [.blk b2 91 [.slice A_vl1 (L.length) c_vl1, .int .i64 ra, .slice (some ⟨g1, 0, none⟩) (E.length) cap1, .int .i64 ((tellP 6 (0) (p, q)).1), .int .i64 ((tellP 6 (0) (p, q)).2)], .blk b4 59 [sv (d.nm), .int .i64 (d.n), .slice Ag (d.gs.length) cg], .own (.slice (some ⟨b3, 0, none⟩) 1 1) 59 3 1 ([sv ([]), .int .i64 0, .slice A_vg1 ((runL X).2.1.length) c_vg1]), .grp 69 3 (dgr F), .own (.slice (some ⟨g1, 0, none⟩) (E.length + 1) cap1) 59 3 (E.length + 1) (dls F), .own (.slice A_vl1 (L.length) c_vl1) 95 5 (L.length) (tls L), .grp 3 1 (tgr L), .blk b1 24 [.int .i64 0, .slice none 0 0]]
    refine .done ?_
    refine .blockEnd ?_
    refine .region ?_
    refine .u (.int .i64 ((((k : Nat) : Int)) + 1)) (.add rfl rfl rfl (by omega) (by omega)) ?_
    refine .m ?_
    refine .done ?_
    refine .goal ⟨(by repeat (first | exact Same.refl _ _ | refine Same.put rfl ?_ | refine Same.over rfl rfl ?_)), (k + 1, (tellP 6 (0) (p, q)).1, (tellP 6 (0) (p, q)).2), ?_, ?_, ?_, ?_⟩
    ·exact ⟨by omega, hsz⟩
    ·show F.length - (k + 1) < F.length - k; omega
    ·exact ⟨(by first | rfl | (congr 1; omega) | simp), trivial⟩
    ·exact ((Weak.selF [2, 2, 0, 1, 1, 1, 1]).trans (Some'.weak (.takeEq (by first | rfl | simp) (.takeEq (by first | rfl | simp) (.takeEq (by first | rfl | simp) (.takeEq (by first | rfl | simp) (.takeEq (by first | rfl | simp) (.takeEq (by first | rfl | simp) (.take (.nil _))))))))))
   have p62 := h62; try simp only [bs] at p62
   rw [if_neg (by omega)] at hsz
   refine .skip ?_
   refine .blockEnd ?_
   refine .region ?_
   refine .u (.int .i64 ((((k : Nat) : Int)) + 1)) (.add rfl rfl rfl (by omega) (by omega)) ?_
   refine .m ?_
   refine .done ?_
   refine .goal ⟨(by repeat (first | exact Same.refl _ _ | refine Same.put rfl ?_ | refine Same.over rfl rfl ?_)), (k + 1, p, q), ?_, ?_, ?_, ?_⟩
   ·exact ⟨by omega, hsz⟩
   ·show F.length - (k + 1) < F.length - k; omega
   ·exact ⟨(by first | rfl | (congr 1; omega) | simp), trivial⟩
   ·exact ((Weak.selF [1, 1, 1, 1, 1, 1, 1]).trans (Some'.weak (.takeEq (by first | rfl | simp) (.takeEq (by first | rfl | simp) (.take (.takeEq (by first | rfl | simp) (.takeEq (by first | rfl | simp) (.takeEq (by first | rfl | simp) (.take (.nil _))))))))))
  have p56 := h56; try simp only [bs] at p56
  obtain ⟨hk, hsz⟩ := hinv
  have hkF : k = F.length := by omega
  rw [hkF, ← List.length_map (f := (·.1)), List.drop_length, szP, hFm] at hsz
  refine .exit rfl ?_
  refine .seq ?_
  refine .seq ?_
  refine Run.weak (H' := [.own (.slice (some ⟨g1, 0, none⟩) (E.length + 1) cap1) 59 3 (E.length + 1) (dls F), .own (.slice (some ⟨b3, 0, none⟩) 1 1) 59 3 1 ([sv ([]), .int .i64 0, .slice A_vg1 ((runL X).2.1.length) c_vg1]), .grp 69 3 (dgr F), .blk b2 91 [.slice A_vl1 (L.length) c_vl1, .int .i64 ra, .slice (some ⟨g1, 0, none⟩) (E.length) cap1, .int .i64 p, .int .i64 q], .own (.slice A_vl1 (L.length) c_vl1) 95 5 (L.length) (tls L), .grp 3 1 (tgr L), .blk b1 24 [.int .i64 0, .slice none 0 0]]) (Weak.selF [3]) ?_ ⟨_, _, rfl, fun _ => nofun, fun _ => nofun⟩
  refine Run.weak (H' := [.own (.slice (some ⟨g1, 0, none⟩) (E.length) cap1) 59 3 (E.length) (dls E), .own (.slice (some ⟨b3, 0, none⟩) 1 1) 59 3 1 ([sv ([]), .int .i64 0, .slice A_vg1 ((runL X).2.1.length) c_vg1]), .grp 69 3 (dgr F), .blk b2 91 [.slice A_vl1 (L.length) c_vl1, .int .i64 ra, .slice (some ⟨g1, 0, none⟩) (E.length) cap1, .int .i64 p, .int .i64 q], .own (.slice A_vl1 (L.length) c_vl1) 95 5 (L.length) (tls L), .grp 3 1 (tgr L), .blk b1 24 [.int .i64 0, .slice none 0 0]]) ((Weak.ownTake (m := E.length) (by omega)).trans (Some'.weak (.takeEq (by rw [← hF]; exact congrArg _ (dls_take _ _)) (.take (.take (.take (.take (.take (.take (.nil _)))))))))) ?_ ⟨_, _, rfl, fun _ => nofun, fun _ => nofun⟩
  refine Run.weak (H' := [.own (.slice A_vg1 ((runL X).2.1.length) c_vg1) 69 3 ((runL X).2.1.length) (ints (fl (runL X).2.1)), .grp 69 3 (dgr E), .own (.slice (some ⟨g1, 0, none⟩) (E.length) cap1) 59 3 (E.length) (dls E), .own (.slice (some ⟨b3, 0, none⟩) 1 1) 59 3 1 ([sv ([]), .int .i64 0, .slice A_vg1 ((runL X).2.1.length) c_vg1]), .blk b2 91 [.slice A_vl1 (L.length) c_vl1, .int .i64 ra, .slice (some ⟨g1, 0, none⟩) (E.length) cap1, .int .i64 p, .int .i64 q], .own (.slice A_vl1 (L.length) c_vl1) 95 5 (L.length) (tls L), .grp 3 1 (tgr L), .blk b1 24 [.int .i64 0, .slice none 0 0]]) ((Weak.selF [2]).trans (dgr_last hF)) ?_ ⟨_, _, rfl, fun _ => nofun, fun _ => nofun⟩
  refine .region ?_
  refine .m ?_
  refine .u (.pointer (some ⟨b2, 0, none⟩)) (.nilCheck rfl) ?_
  refine .fa Tfo_91_3 ?_
  refine .u (.int .i64 p) (.load1 Tone_3 rfl (.b (.tail _ (.tail _ (.tail _ (.tail _ (.head _))))))) ?_
  refine .w (.bool (p != 0)) ?_
  refine .done ?_
  refine .cond (b := p != 0) rfl (fun h70 => ?_) (fun h70 => ?_)
  ·have p70 := h70; try simp only [bs] at p70
   refine .seq ?_
   refine .held (by kernel_rfl) ?_
   refine DW.t 0 rfl (Weak.refl _) (.agg #[.int .i64 0, .slice none 0 0]) (.build (cs := [.int .i64 0, .slice none 0 0]) (by kernel_rfl)) ?_
   refine DW.m 1 rfl (Weak.refl _) ?_
   refine DW.t 2 rfl (Weak.refl _) (.pointer (some ⟨b2, 0, none⟩)) (.nilCheck rfl) ?_
   refine DW.t 3 rfl (Weak.refl _) (.pointer (some ⟨b2, 3, none⟩)) (.fieldAddr Tfo_91_3 rfl rfl) ?_
   refine DW.t 4 rfl (Weak.refl _) (.int .i64 p) (.load1 Tone_3 rfl (.b (.tail _ (.tail _ (.tail _ (.tail _ (.head _))))))) ?_
   refine DW.m 5 rfl (Weak.refl _) ?_
   refine DW.t 6 rfl (Weak.refl _) (.pointer (some ⟨b2, 0, none⟩)) (.nilCheck rfl) ?_
   refine DW.t 7 rfl (Weak.refl _) (.pointer (some ⟨b2, 4, none⟩)) (.fieldAddr Tfo_91_4 rfl rfl) ?_
   refine DW.t 8 rfl (Weak.refl _) (.int .i64 q) (.load1 Tone_3 rfl (.b (.tail _ (.tail _ (.tail _ (.tail _ (.head _))))))) ?_
   refine DW.step (i := 9) (by kernel_rfl) rfl rfl (OpStep.storeAll (us := [.int .i64 0, .slice none 0 0]) Tsize_24 rfl rfl rfl (.there _ (.there _ (.there _ (.there _ (.there _ (.there _ (.there _ (.here _)))))))) rfl ?_)
   refine ⟨(Some'.weak (.take (.take (.take (.take (.take (.take (.take (.take (.nil _)))))))))), ?_⟩
   refine DW.m 10 rfl (Weak.refl _) ?_
   refine DW.m 11 rfl (Weak.refl _) ?_
   refine DW.m 12 rfl (Weak.refl _) ?_
   refine DW.done (by kernel_rfl) ?_
   refine Run.weak (H' := [.grp 69 3 (dgr []), .own (.slice A_vg1 ((runL X).2.1.length) c_vg1) 69 3 ((runL X).2.1.length) (ints (fl (runL X).2.1)), .grp 69 3 (dgr E), .own (.slice (some ⟨g1, 0, none⟩) (E.length) cap1) 59 3 (E.length) (dls E), .own (.slice (some ⟨b3, 0, none⟩) 1 1) 59 3 1 ([sv ([]), .int .i64 0, .slice A_vg1 ((runL X).2.1.length) c_vg1]), .blk b2 91 [.slice A_vl1 (L.length) c_vl1, .int .i64 ra, .slice (some ⟨g1, 0, none⟩) (E.length) cap1, .int .i64 p, .int .i64 q], .own (.slice A_vl1 (L.length) c_vl1) 95 5 (L.length) (tls L), .grp 3 1 (tgr L), .blk b1 24 [.int .i64 0, .slice none 0 0]]) (Weak.grpNil _ _) ?_ ⟨_, _, rfl, fun _ => nofun, fun _ => nofun⟩
   refine .ret ?_
   refine ⟨.tuple #[.agg #[.int .i64 0, .slice none 0 0], .slice none 0 0, .int .i64 p, .int .i64 q], [.own (.slice none 0 0) 69 3 (([] : List G3).length) (ints (fl ([] : List G3))), .own (.slice none 0 0) 59 3 (([] : List DV).length) (dls ([] : List DV)), .grp 69 3 (dgr [])], Out.cell4 rfl Tagg_24 rfl (Cells.blk (.tail _ (.tail _ (.tail _ (.tail _ (.tail _ (.tail _ (.tail _ (.tail _ (.head _))))))))) ⟨rfl, rfl, trivial⟩) rfl rfl rfl, ((Weak.nilOwn 59 3).trans ((Weak.nilOwn 69 3).trans (Some'.weak (.takeEq (by first | rfl | simp [dls, fl, ints]) (.takeEq (by first | rfl | simp [dls, fl, ints]) (.take (.nil _))))))), ?_⟩
   rw [rtC4 (p := p) (q := q) hgo (by omega) (by rw [hX]; omega) (by rw [hX]; exact hsz.symm), if_neg (by omega)]; exact ⟨_, _, [], rfl, rfl, rfl⟩
  have p70 := h70; try simp only [bs] at p70
  refine .skip ?_
  refine .seq ?_
  refine Run.openOwn (.tail _ (.tail _ (.tail _ (.tail _ (.tail _ (.head _)))))) (by omega) (fun gl cll hvgl hcapgl _ => ?_) (fun _ _ _ => ⟨nofun, nofun, nofun⟩)
  injection hvgl with hAgl _ hcgl; subst hAgl; subst hcgl
  refine .heldB (base := [.blk b2 91 [.slice (some ⟨gl, 0, none⟩) (L.length) c_vl1, .int .i64 ra, .slice (some ⟨g1, 0, none⟩) (E.length) cap1, .int .i64 p, .int .i64 q], .own (.slice (some ⟨gl, 0, none⟩) (L.length) c_vl1) 95 5 (L.length) (tls L)]) (by kernel_rfl) ?_
  refine DW.m 0 rfl (Some'.weak (.skip (.skip (.skip (.skip (.take (.take (.nil _)))))))) ?_
  refine DW.t 1 rfl (Some'.weak (.skip (.skip (.skip (.skip (.take (.take (.nil _)))))))) (.pointer (some ⟨gl, 0, none⟩)) (.ix 0 Tsl_85) ?_
  refine DW.t 2 rfl (Some'.weak (.skip (.skip (.skip (.skip (.take (.take (.nil _)))))))) (.pointer (some ⟨gl, 3, none⟩)) (.fieldAddr Tfo_95_3 rfl rfl) ?_
  refine DW.t 3 rfl (Some'.weak (.skip (.skip (.skip (.skip (.take (.take (.nil _)))))))) (.int .i64 ((liAt X 0).num)) (.load1 Tone_3 rfl (Cells.own0 (.tail _ (.head _)) (tls_num (k := 0) (by omega) (by rw [tx_li, hLX])))) ?_
  refine DW.m 4 rfl (Some'.weak (.skip (.skip (.skip (.skip (.take (.take (.nil _)))))))) ?_
  refine DW.t 5 rfl (Some'.weak (.skip (.skip (.skip (.skip (.take (.take (.nil _)))))))) (.agg #[.int .i64 ((liAt X 0).num), .slice A_vg1 ((runL X).2.1.length) c_vg1]) (.build (cs := [.int .i64 ((liAt X 0).num), .slice A_vg1 ((runL X).2.1.length) c_vg1]) (by kernel_rfl)) ?_
  refine DW.m 6 rfl (Some'.weak (.skip (.skip (.skip (.skip (.take (.take (.nil _)))))))) ?_
  refine DW.t 7 rfl (Some'.weak (.skip (.skip (.skip (.skip (.take (.take (.nil _)))))))) (.pointer (some ⟨b2, 0, none⟩)) (.nilCheck rfl) ?_
  refine DW.t 8 rfl (Some'.weak (.skip (.skip (.skip (.skip (.take (.take (.nil _)))))))) (.pointer (some ⟨b2, 2, none⟩)) (.fieldAddr Tfo_91_2 rfl rfl) ?_
  refine DW.t 9 rfl (Some'.weak (.skip (.skip (.skip (.skip (.take (.take (.nil _)))))))) (.slice (some ⟨g1, 0, none⟩) (E.length) cap1) (.load1 Tone_55 rfl (.b (.head _))) ?_
  refine DW.step (i := 10) (by kernel_rfl) rfl rfl (OpStep.storeAll (us := [.int .i64 ((liAt X 0).num), .slice A_vg1 ((runL X).2.1.length) c_vg1]) Tsize_24 rfl rfl rfl (.there _ (.there _ (.there _ (.there _ (.there _ (.there _ (.there _ (.here _)))))))) rfl ?_)
  refine ⟨(Some'.weak (.skip (.skip (.skip (.skip (.take (.take (.nil _)))))))), ?_⟩
  refine DW.m 11 rfl (Some'.weak (.skip (.skip (.skip (.skip (.take (.take (.nil _)))))))) ?_
  refine DW.m 12 rfl (Some'.weak (.skip (.skip (.skip (.skip (.take (.take (.nil _)))))))) ?_
  refine DW.m 13 rfl (Some'.weak (.skip (.skip (.skip (.skip (.take (.take (.nil _)))))))) ?_
  refine DW.done (by kernel_rfl) ?_
  refine .ret ?_
  refine ⟨.tuple #[.agg #[.int .i64 ((liAt X 0).num), .slice A_vg1 ((runL X).2.1.length) c_vg1], .slice (some ⟨g1, 0, none⟩) (E.length) cap1, .int .i64 0, .int .i64 0], [.own (.slice A_vg1 ((runL X).2.1.length) c_vg1) 69 3 ((runL X).2.1.length) (ints (fl (runL X).2.1)), .own (.slice (some ⟨g1, 0, none⟩) (E.length) cap1) 59 3 (E.length) (dls E), .grp 69 3 (dgr E)], Out.cell4 rfl Tagg_24 rfl (Cells.blk (.tail _ (.tail _ (.tail _ (.tail _ (.tail _ (.tail _ (.tail _ (.head _)))))))) ⟨rfl, rfl, trivial⟩) rfl rfl rfl, ((Weak.selF [0, 1, 0]).trans (Some'.weak (.take (.take (.take (.nil _)))))), ?_⟩
  rw [rtC4 (p := p) (q := q) hgo (by omega) (by rw [hX]; omega) (by rw [hX]; exact hsz.symm), if_pos (by omega), hX]; exact ⟨_, _, E, hE, rfl, rfl⟩
 ·intro av1
  refine Run.weak (H' := [.own av1 59 3 (E.length + 1) (dls F), .own (.slice (some ⟨b3, 0, none⟩) 1 1) 59 3 1 ([sv ([]), .int .i64 0, .slice A_vg1 ((runL X).2.1.length) c_vg1]), .grp 69 3 (dgr F), .blk b2 91 [.slice A_vl1 (L.length) c_vl1, .int .i64 ra, vd, .int .i64 ((runL X).2.2.1), .int .i64 ((runL X).2.2.2)], .own vd 59 3 (E.length) (dls E), .own (.slice A_vl1 (L.length) c_vl1) 95 5 (L.length) (tls L), .grp 3 1 (tgr L), .blk b1 24 [.int .i64 0, .slice none 0 0]]) (Some'.weak (.takeEq (by rw [← hF]; simp [dls, dle]) (.take (.take (.take (.take (.take (.take (.take (.nil _)))))))))) ?_ ⟨_, _, rfl, fun _ => nofun, fun _ => nofun⟩
  refine Run.formOwn (.head _) (fun A_av11 c_av11 hv hcapc_av11 hmaxc_av11 => ?_) (fun _ _ _ => ⟨nofun, nofun, nofun⟩)
  subst hv
  refine .u (.int .i64 (((E.length + 1 : Nat) : Int))) (.len Tsl_55 rfl) ?_
  refine .m ?_
  refine .done ?_
  refine Run.openOwn (.head _) (by omega) (fun gb cb hvgb hcapgb _ => ?_) (fun _ _ _ => ⟨nofun, nofun, nofun⟩)
  injection hvgb with hAgb _ hcgb; subst hAgb; subst hcgb
  refine .block ?_
  refine Run.loop (ι := Nat × Int × Int) [12, 55, 56, 57, 58, 59, 60, 61, 62, 63, 64, 65] (fun ⟨k, p, q⟩ => [(55, .int .i64 (((k : Nat) : Int)))]) (fun ⟨k, p, q⟩ => [.own (.slice (some ⟨gb, 0, none⟩) (E.length + 1) c_av11) 59 3 (E.length + 1) (dls F), .own (.slice (some ⟨b3, 0, none⟩) 1 1) 59 3 1 ([sv ([]), .int .i64 0, .slice A_vg1 ((runL X).2.1.length) c_vg1]), .grp 69 3 (dgr F), .blk b2 91 [.slice A_vl1 (L.length) c_vl1, .int .i64 ra, vd, .int .i64 p, .int .i64 q], .own vd 59 3 (E.length) (dls E), .own (.slice A_vl1 (L.length) c_vl1) 95 5 (L.length) (tls L), .grp 3 1 (tgr L), .blk b1 24 [.int .i64 0, .slice none 0 0]]) (fun ⟨k, p, q⟩ => k ≤ F.length ∧ szP ((F.map (·.1)).drop k) (p, q) = szP (F.map (·.1)) (runL X).2.2) (fun ⟨k, p, q⟩ => F.length - k) (0, (runL X).2.2.1, (runL X).2.2.2) ?_ ?_ ?_ ?_
  ·exact ⟨Nat.zero_le _, rfl⟩
  ·exact ⟨rfl, trivial⟩
  ·exact ((Weak.refl _).trans (Some'.weak (.take (.take (.take (.takeEq (by first | rfl | simp) (.take (.take (.take (.take (.nil _)))))))))))
  rintro ⟨k, p, q⟩ fr hinv
  show Run _ _ (over _ _ [(55, .int .i64 (((k : Nat) : Int)))] fr) [.own (.slice (some ⟨gb, 0, none⟩) (E.length + 1) c_av11) 59 3 (E.length + 1) (dls F), .own (.slice (some ⟨b3, 0, none⟩) 1 1) 59 3 1 ([sv ([]), .int .i64 0, .slice A_vg1 ((runL X).2.1.length) c_vg1]), .grp 69 3 (dgr F), .blk b2 91 [.slice A_vl1 (L.length) c_vl1, .int .i64 ra, vd, .int .i64 p, .int .i64 q], .own vd 59 3 (E.length) (dls E), .own (.slice A_vl1 (L.length) c_vl1) 95 5 (L.length) (tls L), .grp 3 1 (tgr L), .blk b1 24 [.int .i64 0, .slice none 0 0]]
  try dsimp only at hinv
  refine .sr ?_
  refine .w (.bool (decide ((((k : Nat) : Int)) < (((E.length + 1 : Nat) : Int))))) ?_
  refine .done ?_
  refine .seq ?_
  refine .cond (b := decide ((((k : Nat) : Int)) < (((E.length + 1 : Nat) : Int)))) rfl (fun h56 => ?_) (fun h56 => ?_)
  ·have p56 := h56; try simp only [bs] at p56
   have hltk : k < F.length := by omega
   obtain ⟨hk, hsz⟩ := hinv
   obtain ⟨d, hx⟩ : ∃ d, (dx F k).1 = d := ⟨_, rfl⟩
   obtain ⟨Ag, cg, hq⟩ := hform k hltk
   rw [hx] at hq
   rw [drop_dv hltk, hx, szP] at hsz
   refine .skip ?_
   refine .seq ?_
   refine .block ?_
   refine .sr ?_
   refine .u (.pointer (some ⟨gb, k * 3, none⟩)) (.ix k Tsl_55) ?_
   refine .u (.agg #[sv (d.nm), .int .i64 (d.n), .slice Ag (d.gs.length) cg]) (.loadN (cs := [sv (d.nm), .int .i64 (d.n), .slice Ag (d.gs.length) cg]) Tagg_59 rfl (Cells.own0 (.head _) (dls_preF (k := k) (by omega) hx hq))) ?_
   refine .step rfl (.alloc (zs := [sv ([]), .int .i64 0, .slice none 0 0]) Tzero_59 fun b5 => ?_)
   refine .step rfl (.storeAll (us := [sv (d.nm), .int .i64 (d.n), .slice Ag (d.gs.length) cg]) Tsize_59 rfl rfl rfl (.here _) rfl ?_)
   refine .dsr ?_
   refine .fa Tfo_59_2 ?_
   refine .u (.slice Ag (d.gs.length) cg) (.load1 Tone_22 rfl (.b (.head _))) ?_
   refine .u (.int .i64 (((d.gs.length : Nat) : Int))) (.len Tsl_22 rfl) ?_
   refine .w (.bool (decide ((((d.gs.length : Nat) : Int)) > 400))) ?_
   refine .done ?_
   refine .cond (b := decide ((((d.gs.length : Nat) : Int)) > 400)) rfl (fun h62 => ?_) (fun h62 => ?_)
   ·have p62 := h62; try simp only [bs] at p62
    rw [if_pos (by omega)] at hsz
    refine .region ?_
    refine .m ?_
    refine .step rfl (.callM (H1 := [.blk b2 91 [.slice A_vl1 (L.length) c_vl1, .int .i64 ra, vd, .int .i64 p, .int .i64 q]]) (H2 := [.blk b5 59 [sv (d.nm), .int .i64 (d.n), .slice Ag (d.gs.length) cg], .own (.slice (some ⟨gb, 0, none⟩) (E.length + 1) c_av11) 59 3 (E.length + 1) (dls F), .own (.slice (some ⟨b3, 0, none⟩) 1 1) 59 3 1 ([sv ([]), .int .i64 0, .slice A_vg1 ((runL X).2.1.length) c_vg1]), .grp 69 3 (dgr F), .own vd 59 3 (E.length) (dls E), .own (.slice A_vl1 (L.length) c_vl1) 95 5 (L.length) (tls L), .grp 3 1 (tgr L), .blk b1 24 [.int .i64 0, .slice none 0 0]]) (vs := [.pointer (some ⟨b2, 0, none⟩), .int .i64 6, .int .i64 0]) (caps := []) Tcall_59 rfl rfl (Weak.selF [4]) (fun w hs => tell_spec (hs.holds _ (.head _))) ?_)
    rintro _ _ ⟨rfl, rfl⟩
    show Run _ _ (putF _ _ _ (.tuple #[])) [.blk b2 91 [.slice A_vl1 (L.length) c_vl1, .int .i64 ra, vd, .int .i64 ((tellP 6 (0) (p, q)).1), .int .i64 ((tellP 6 (0) (p, q)).2)], .blk b5 59 [sv (d.nm), .int .i64 (d.n), .slice Ag (d.gs.length) cg], .own (.slice (some ⟨gb, 0, none⟩) (E.length + 1) c_av11) 59 3 (E.length + 1) (dls F), .own (.slice (some ⟨b3, 0, none⟩) 1 1) 59 3 1 ([sv ([]), .int .i64 0, .slice A_vg1 ((runL X).2.1.length) c_vg1]), .grp 69 3 (dgr F), .own vd 59 3 (E.length) (dls E), .own (.slice A_vl1 (L.length) c_vl1) 95 5 (L.length) (tls L), .grp 3 1 (tgr L), .blk b1 24 [.int .i64 0, .slice none 0 0]]
    refine .done ?_
    refine .blockEnd ?_
    refine .region ?_
    refine .u (.int .i64 ((((k : Nat) : Int)) + 1)) (.add rfl rfl rfl (by omega) (by omega)) ?_
    refine .m ?_
    refine .done ?_
    refine .goal ⟨(by repeat (first | exact Same.refl _ _ | refine Same.put rfl ?_ | refine Same.over rfl rfl ?_)), (k + 1, (tellP 6 (0) (p, q)).1, (tellP 6 (0) (p, q)).2), ?_, ?_, ?_, ?_⟩
    ·exact ⟨by omega, hsz⟩
    ·show F.length - (k + 1) < F.length - k; omega
    ·exact ⟨(by first | rfl | (congr 1; omega) | simp), trivial⟩
    ·exact ((Weak.selF [2, 2, 2, 0, 1, 1, 1, 1]).trans (Some'.weak (.takeEq (by first | rfl | simp) (.takeEq (by first | rfl | simp) (.takeEq (by first | rfl | simp) (.takeEq (by first | rfl | simp) (.takeEq (by first | rfl | simp) (.takeEq (by first | rfl | simp) (.takeEq (by first | rfl | simp) (.take (.nil _)))))))))))
   have p62 := h62; try simp only [bs] at p62
   rw [if_neg (by omega)] at hsz
   refine .skip ?_
   refine .blockEnd ?_
   refine .region ?_
   refine .u (.int .i64 ((((k : Nat) : Int)) + 1)) (.add rfl rfl rfl (by omega) (by omega)) ?_
   refine .m ?_
   refine .done ?_
   refine .goal ⟨(by repeat (first | exact Same.refl _ _ | refine Same.put rfl ?_ | refine Same.over rfl rfl ?_)), (k + 1, p, q), ?_, ?_, ?_, ?_⟩
   ·exact ⟨by omega, hsz⟩
   ·show F.length - (k + 1) < F.length - k; omega
   ·exact ⟨(by first | rfl | (congr 1; omega) | simp), trivial⟩
   ·exact ((Weak.selF [1, 1, 1, 1, 1, 1, 1, 1]).trans (Some'.weak (.takeEq (by first | rfl | simp) (.takeEq (by first | rfl | simp) (.takeEq (by first | rfl | simp) (.take (.takeEq (by first | rfl | simp) (.takeEq (by first | rfl | simp) (.takeEq (by first | rfl | simp) (.take (.nil _)))))))))))
  have p56 := h56; try simp only [bs] at p56
  obtain ⟨hk, hsz⟩ := hinv
  have hkF : k = F.length := by omega
  rw [hkF, ← List.length_map (f := (·.1)), List.drop_length, szP, hFm] at hsz
  refine .exit rfl ?_
  refine .seq ?_
  refine .seq ?_
  refine Run.weak (H' := [.own (.slice A_vg1 ((runL X).2.1.length) c_vg1) 69 3 ((runL X).2.1.length) (ints (fl (runL X).2.1)), .grp 69 3 (dgr E), .own (.slice (some ⟨gb, 0, none⟩) (E.length + 1) c_av11) 59 3 (E.length + 1) (dls F), .own (.slice (some ⟨b3, 0, none⟩) 1 1) 59 3 1 ([sv ([]), .int .i64 0, .slice A_vg1 ((runL X).2.1.length) c_vg1]), .blk b2 91 [.slice A_vl1 (L.length) c_vl1, .int .i64 ra, vd, .int .i64 p, .int .i64 q], .own vd 59 3 (E.length) (dls E), .own (.slice A_vl1 (L.length) c_vl1) 95 5 (L.length) (tls L), .grp 3 1 (tgr L), .blk b1 24 [.int .i64 0, .slice none 0 0]]) ((Weak.selF [2]).trans (dgr_last hF)) ?_ ⟨_, _, rfl, fun _ => nofun, fun _ => nofun⟩
  refine .region ?_
  refine .m ?_
  refine .u (.pointer (some ⟨b2, 0, none⟩)) (.nilCheck rfl) ?_
  refine .fa Tfo_91_3 ?_
  refine .u (.int .i64 p) (.load1 Tone_3 rfl (.b (.tail _ (.tail _ (.tail _ (.tail _ (.head _))))))) ?_
  refine .w (.bool (p != 0)) ?_
  refine .done ?_
  refine .cond (b := p != 0) rfl (fun h70 => ?_) (fun h70 => ?_)
  ·have p70 := h70; try simp only [bs] at p70
   refine .seq ?_
   refine .held (by kernel_rfl) ?_
   refine DW.t 0 rfl (Weak.refl _) (.agg #[.int .i64 0, .slice none 0 0]) (.build (cs := [.int .i64 0, .slice none 0 0]) (by kernel_rfl)) ?_
   refine DW.m 1 rfl (Weak.refl _) ?_
   refine DW.t 2 rfl (Weak.refl _) (.pointer (some ⟨b2, 0, none⟩)) (.nilCheck rfl) ?_
   refine DW.t 3 rfl (Weak.refl _) (.pointer (some ⟨b2, 3, none⟩)) (.fieldAddr Tfo_91_3 rfl rfl) ?_
   refine DW.t 4 rfl (Weak.refl _) (.int .i64 p) (.load1 Tone_3 rfl (.b (.tail _ (.tail _ (.tail _ (.tail _ (.head _))))))) ?_
   refine DW.m 5 rfl (Weak.refl _) ?_
   refine DW.t 6 rfl (Weak.refl _) (.pointer (some ⟨b2, 0, none⟩)) (.nilCheck rfl) ?_
   refine DW.t 7 rfl (Weak.refl _) (.pointer (some ⟨b2, 4, none⟩)) (.fieldAddr Tfo_91_4 rfl rfl) ?_
   refine DW.t 8 rfl (Weak.refl _) (.int .i64 q) (.load1 Tone_3 rfl (.b (.tail _ (.tail _ (.tail _ (.tail _ (.head _))))))) ?_
   refine DW.step (i := 9) (by kernel_rfl) rfl rfl (OpStep.storeAll (us := [.int .i64 0, .slice none 0 0]) Tsize_24 rfl rfl rfl (.there _ (.there _ (.there _ (.there _ (.there _ (.there _ (.there _ (.there _ (.here _))))))))) rfl ?_)
   refine ⟨(Some'.weak (.take (.take (.take (.take (.take (.take (.take (.take (.take (.nil _))))))))))), ?_⟩
   refine DW.m 10 rfl (Weak.refl _) ?_
   refine DW.m 11 rfl (Weak.refl _) ?_
   refine DW.m 12 rfl (Weak.refl _) ?_
   refine DW.done (by kernel_rfl) ?_
   refine Run.weak (H' := [.grp 69 3 (dgr []), .own (.slice A_vg1 ((runL X).2.1.length) c_vg1) 69 3 ((runL X).2.1.length) (ints (fl (runL X).2.1)), .grp 69 3 (dgr E), .own (.slice (some ⟨gb, 0, none⟩) (E.length + 1) c_av11) 59 3 (E.length + 1) (dls F), .own (.slice (some ⟨b3, 0, none⟩) 1 1) 59 3 1 ([sv ([]), .int .i64 0, .slice A_vg1 ((runL X).2.1.length) c_vg1]), .blk b2 91 [.slice A_vl1 (L.length) c_vl1, .int .i64 ra, vd, .int .i64 p, .int .i64 q], .own vd 59 3 (E.length) (dls E), .own (.slice A_vl1 (L.length) c_vl1) 95 5 (L.length) (tls L), .grp 3 1 (tgr L), .blk b1 24 [.int .i64 0, .slice none 0 0]]) (Weak.grpNil _ _) ?_ ⟨_, _, rfl, fun _ => nofun, fun _ => nofun⟩
   refine .ret ?_
   refine ⟨.tuple #[.agg #[.int .i64 0, .slice none 0 0], .slice none 0 0, .int .i64 p, .int .i64 q], [.own (.slice none 0 0) 69 3 (([] : List G3).length) (ints (fl ([] : List G3))), .own (.slice none 0 0) 59 3 (([] : List DV).length) (dls ([] : List DV)), .grp 69 3 (dgr [])], Out.cell4 rfl Tagg_24 rfl (Cells.blk (.tail _ (.tail _ (.tail _ (.tail _ (.tail _ (.tail _ (.tail _ (.tail _ (.tail _ (.head _)))))))))) ⟨rfl, rfl, trivial⟩) rfl rfl rfl, ((Weak.nilOwn 59 3).trans ((Weak.nilOwn 69 3).trans (Some'.weak (.takeEq (by first | rfl | simp [dls, fl, ints]) (.takeEq (by first | rfl | simp [dls, fl, ints]) (.take (.nil _))))))), ?_⟩
   rw [rtC4 (p := p) (q := q) hgo (by omega) (by rw [hX]; omega) (by rw [hX]; exact hsz.symm), if_neg (by omega)]; exact ⟨_, _, [], rfl, rfl, rfl⟩
  have p70 := h70; try simp only [bs] at p70
  refine .skip ?_
  refine .seq ?_
  refine Run.openOwn (.tail _ (.tail _ (.tail _ (.tail _ (.tail _ (.tail _ (.head _))))))) (by omega) (fun gl cll hvgl hcapgl _ => ?_) (fun _ _ _ => ⟨nofun, nofun, nofun⟩)
  injection hvgl with hAgl _ hcgl; subst hAgl; subst hcgl
  refine .heldB (base := [.blk b2 91 [.slice (some ⟨gl, 0, none⟩) (L.length) c_vl1, .int .i64 ra, vd, .int .i64 p, .int .i64 q], .own (.slice (some ⟨gl, 0, none⟩) (L.length) c_vl1) 95 5 (L.length) (tls L)]) (by kernel_rfl) ?_
  refine DW.m 0 rfl (Some'.weak (.skip (.skip (.skip (.skip (.take (.skip (.take (.nil _))))))))) ?_
  refine DW.t 1 rfl (Some'.weak (.skip (.skip (.skip (.skip (.take (.skip (.take (.nil _))))))))) (.pointer (some ⟨gl, 0, none⟩)) (.ix 0 Tsl_85) ?_
  refine DW.t 2 rfl (Some'.weak (.skip (.skip (.skip (.skip (.take (.skip (.take (.nil _))))))))) (.pointer (some ⟨gl, 3, none⟩)) (.fieldAddr Tfo_95_3 rfl rfl) ?_
  refine DW.t 3 rfl (Some'.weak (.skip (.skip (.skip (.skip (.take (.skip (.take (.nil _))))))))) (.int .i64 ((liAt X 0).num)) (.load1 Tone_3 rfl (Cells.own0 (.tail _ (.head _)) (tls_num (k := 0) (by omega) (by rw [tx_li, hLX])))) ?_
  refine DW.m 4 rfl (Some'.weak (.skip (.skip (.skip (.skip (.take (.skip (.take (.nil _))))))))) ?_
  refine DW.t 5 rfl (Some'.weak (.skip (.skip (.skip (.skip (.take (.skip (.take (.nil _))))))))) (.agg #[.int .i64 ((liAt X 0).num), .slice A_vg1 ((runL X).2.1.length) c_vg1]) (.build (cs := [.int .i64 ((liAt X 0).num), .slice A_vg1 ((runL X).2.1.length) c_vg1]) (by kernel_rfl)) ?_
  refine DW.m 6 rfl (Some'.weak (.skip (.skip (.skip (.skip (.take (.skip (.take (.nil _))))))))) ?_
  refine DW.t 7 rfl (Some'.weak (.skip (.skip (.skip (.skip (.take (.skip (.take (.nil _))))))))) (.pointer (some ⟨b2, 0, none⟩)) (.nilCheck rfl) ?_
  refine DW.t 8 rfl (Some'.weak (.skip (.skip (.skip (.skip (.take (.skip (.take (.nil _))))))))) (.pointer (some ⟨b2, 2, none⟩)) (.fieldAddr Tfo_91_2 rfl rfl) ?_
  refine DW.t 9 rfl (Some'.weak (.skip (.skip (.skip (.skip (.take (.skip (.take (.nil _))))))))) vd (.load1 Tone_55 rfl (.b (.head _))) ?_
  refine DW.step (i := 10) (by kernel_rfl) rfl rfl (OpStep.storeAll (us := [.int .i64 ((liAt X 0).num), .slice A_vg1 ((runL X).2.1.length) c_vg1]) Tsize_24 rfl rfl rfl (.there _ (.there _ (.there _ (.there _ (.there _ (.there _ (.there _ (.there _ (.here _))))))))) rfl ?_)
  refine ⟨(Some'.weak (.skip (.skip (.skip (.skip (.take (.skip (.take (.nil _))))))))), ?_⟩
  refine DW.t 11 rfl (Some'.weak (.skip (.skip (.skip (.skip (.take (.skip (.take (.nil _))))))))) vd (.pure rfl) ?_
  refine DW.m 12 rfl (Some'.weak (.skip (.skip (.skip (.skip (.take (.skip (.take (.nil _))))))))) ?_
  refine DW.m 13 rfl (Some'.weak (.skip (.skip (.skip (.skip (.take (.skip (.take (.nil _))))))))) ?_
  refine DW.done (by kernel_rfl) ?_
  refine .ret ?_
  refine ⟨.tuple #[.agg #[.int .i64 ((liAt X 0).num), .slice A_vg1 ((runL X).2.1.length) c_vg1], vd, .int .i64 0, .int .i64 0], [.own (.slice A_vg1 ((runL X).2.1.length) c_vg1) 69 3 ((runL X).2.1.length) (ints (fl (runL X).2.1)), .own vd 59 3 (E.length) (dls E), .grp 69 3 (dgr E)], Out.cell4 rfl Tagg_24 rfl (Cells.blk (.tail _ (.tail _ (.tail _ (.tail _ (.tail _ (.tail _ (.tail _ (.tail _ (.head _))))))))) ⟨rfl, rfl, trivial⟩) rfl rfl rfl, ((Weak.selF [0, 4, 0]).trans (Some'.weak (.take (.take (.take (.nil _)))))), ?_⟩
  rw [rtC4 (p := p) (q := q) hgo (by omega) (by rw [hX]; omega) (by rw [hX]; exact hsz.symm), if_pos (by omega), hX]; exact ⟨_, _, E, hE, rfl, rfl⟩

end Go.Proofs.YtgpkpopbajkklaaGreatDoor
/- Walks: what the program tells of a circuit text. -/
set_option linter.unusedSimpArgs false
set_option linter.unusedVariables false
namespace Go.Proofs.YtgpkpopbajkklaaGreatDoor
open Go Go.RowKit
namespace TxnT
theorem Tagg_24 : aggOf Tryz.prog 24 = some 2 := by kernel_rfl
theorem Tcall_30 : callable Tryz.prog 30 = true := by kernel_rfl
theorem Tsize_24 : (Tryz.prog.info? 24).map (·.size) = some 2 := by kernel_rfl
theorem Tzero_24 : zeroOf Tryz.prog 24 = some [.int .i64 0, .slice none 0 0] := by kernel_rfl
end TxnT
open TxnT
theorem beq_decide (a b : Int) : (a == b) = decide (a = b) := by by_cases h : a = b <;> simp [h]

set_option maxHeartbeats 1000000 in
set_option maxRecDepth 20000 in
theorem ParseCircuit_spec {s : Bs} {w : World} (hg : Gl w) (hl : s.length ≤ 9223372036854775807) : Calls Tryz.prog 18 #[sv s] w (Post No w fun v H => ∃ vg, v = .tuple #[.agg #[.int .i64 (rt s).2.1, vg], .bool (decide ((rt s).1.1 = 0))] ∧ H = [.own vg 69 3 (rt s).2.2.1.length (ints (fl (rt s).2.2.1))]) := by
 refine enter (n := 18) (args := [sv s]) Tryz.func18 rfl rfl (St.empty _ _) ?_
 refine .sr ?_
 refine .step rfl (.alloc (zs := [.int .i64 0, .slice none 0 0]) Tzero_24 fun b1 => ?_)
 refine .m ?_
 refine .dsr ?_
 refine .w (sv s) ?_
 refine .step rfl (.c [sv s] Tcall_30 (fun w hs => readText_spec (hg.go hs) hl) ?_)
 rintro _ _ ⟨vg, vd, D, hD, rfl, rfl⟩
 show Run _ _ (putF _ _ _ (.tuple #[.agg #[.int .i64 ((rt s).2.1), vg], vd, .int .i64 ((rt s).1.1), .int .i64 ((rt s).1.2)])) [.own vg 69 3 ((rt s).2.2.1.length) (ints (fl (rt s).2.2.1)), .own vd 59 3 (D.length) (dls D), .grp 69 3 (dgr D), .blk b1 24 [.int .i64 0, .slice none 0 0]]
 refine .w (.tuple #[.agg #[.int .i64 ((rt s).2.1), vg], vd, .int .i64 ((rt s).1.1), .int .i64 ((rt s).1.2)]) ?_
 refine .w (.agg #[.int .i64 ((rt s).2.1), vg]) ?_
 refine .w vd ?_
 refine .w (.int .i64 ((rt s).1.1)) ?_
 refine .w (.int .i64 ((rt s).1.2)) ?_
 refine .step rfl (.alloc (zs := [.int .i64 0, .slice none 0 0]) Tzero_24 fun b2 => ?_)
 refine Run.formOwn (.tail _ (.head _)) (fun A_vg1 c_vg1 hv hcapc_vg1 hmaxc_vg1 => ?_) (fun _ _ _ => ⟨nofun, nofun, nofun⟩)
 subst hv
 refine .step rfl (.storeAll (us := [.int .i64 ((rt s).2.1), .slice A_vg1 ((rt s).2.2.1.length) c_vg1]) Tsize_24 rfl rfl rfl (.here _) rfl ?_)
 refine .w vd ?_
 iterate 2 refine .m ?_
 refine .dsr ?_
 refine .u (.agg #[.int .i64 ((rt s).2.1), .slice A_vg1 ((rt s).2.2.1.length) c_vg1]) (.loadN (cs := [.int .i64 ((rt s).2.1), .slice A_vg1 ((rt s).2.2.1.length) c_vg1]) Tagg_24 rfl (Cells.blk (.head _) ⟨rfl, rfl, trivial⟩)) ?_
 refine .m ?_
 refine .w (.bool (((rt s).1.1) == 0)) ?_
 refine .step rfl (.storeAll (us := [.int .i64 ((rt s).2.1), .slice A_vg1 ((rt s).2.2.1.length) c_vg1]) Tsize_24 rfl rfl rfl (.there _ (.there _ (.there _ (.there _ (.here _))))) rfl ?_)
 refine .m ?_
 refine .done ?_
 refine .ret ?_
 refine ⟨.tuple #[.agg #[.int .i64 ((rt s).2.1), .slice A_vg1 ((rt s).2.2.1.length) c_vg1], .bool (((rt s).1.1) == 0)], [.own (.slice A_vg1 ((rt s).2.2.1.length) c_vg1) 69 3 ((rt s).2.2.1.length) (ints (fl (rt s).2.2.1))], Out.cell2 rfl Tagg_24 rfl (Cells.blk (.tail _ (.tail _ (.tail _ (.tail _ (.head _))))) ⟨rfl, rfl, trivial⟩) rfl, (Some'.weak (.skip (.take (.nil _)))), ?_⟩
 exact ⟨_, by simp only [beq_decide], rfl⟩

set_option maxHeartbeats 1000000 in
set_option maxRecDepth 20000 in
theorem CheckText_spec {s : Bs} {w : World} (hg : Gl w) (hl : s.length ≤ 9223372036854775807) : Calls Tryz.prog 21 #[sv s] w (Post No w fun v _ => v = .tuple #[.int .i64 (rt s).1.1, .int .i64 (rt s).1.2]) := by
 refine enter (n := 17) (args := [sv s]) Tryz.func21 rfl rfl (St.empty _ _) ?_
 refine .sr ?_
 iterate 2 refine .m ?_
 refine .dsr ?_
 refine .w (sv s) ?_
 refine .step rfl (.c [sv s] Tcall_30 (fun w hs => readText_spec (hg.go hs) hl) ?_)
 rintro _ _ ⟨vg, vd, D, hD, rfl, rfl⟩
 show Run _ _ (putF _ _ _ (.tuple #[.agg #[.int .i64 ((rt s).2.1), vg], vd, .int .i64 ((rt s).1.1), .int .i64 ((rt s).1.2)])) [.own vg 69 3 ((rt s).2.2.1.length) (ints (fl (rt s).2.2.1)), .own vd 59 3 (D.length) (dls D), .grp 69 3 (dgr D)]
 refine .w (.tuple #[.agg #[.int .i64 ((rt s).2.1), vg], vd, .int .i64 ((rt s).1.1), .int .i64 ((rt s).1.2)]) ?_
 refine .w (.agg #[.int .i64 ((rt s).2.1), vg]) ?_
 refine .w vd ?_
 refine .w (.int .i64 ((rt s).1.1)) ?_
 refine .w (.int .i64 ((rt s).1.2)) ?_
 refine .step rfl (.alloc (zs := [.int .i64 0, .slice none 0 0]) Tzero_24 fun b1 => ?_)
 refine Run.formOwn (.tail _ (.head _)) (fun A_vg1 c_vg1 hv hcapc_vg1 hmaxc_vg1 => ?_) (fun _ _ _ => ⟨nofun, nofun, nofun⟩)
 subst hv
 refine .step rfl (.storeAll (us := [.int .i64 ((rt s).2.1), .slice A_vg1 ((rt s).2.2.1.length) c_vg1]) Tsize_24 rfl rfl rfl (.here _) rfl ?_)
 refine .w vd ?_
 iterate 2 refine .m ?_
 refine .dsr ?_
 iterate 4 refine .m ?_
 refine .done ?_
 refine .ret ?_
 refine ⟨.tuple #[.int .i64 ((rt s).1.1), .int .i64 ((rt s).1.2)], [], Out.two rfl rfl rfl, (Some'.weak (.nil _)), ?_⟩
 rfl

end Go.Proofs.YtgpkpopbajkklaaGreatDoor
