/- Walks: the program goes through the lines of a block. -/
import Derived.Test.YtgpkpopbajkklaaGreatDoorK6
import Derived.Test.YtgpkpopbajkklaaGreatDoorProg
set_option linter.unusedSimpArgs false
set_option linter.unusedVariables false
namespace Go.Proofs.YtgpkpopbajkklaaGreatDoor
open Go Go.RowKit
namespace TxkT
theorem Tagg_95 : aggOf Tryz.prog 95 = some 5 := by kernel_rfl
theorem Tcall_108 : callable Tryz.prog 108 = true := by kernel_rfl
theorem Tcall_109 : callable Tryz.prog 109 = true := by kernel_rfl
theorem Tcall_110 : callable Tryz.prog 110 = true := by kernel_rfl
theorem Tcall_91 : callable Tryz.prog 91 = true := by kernel_rfl
theorem Tfo_91_0 : fieldOff Tryz.prog 91 0 = some 0 := by kernel_rfl
theorem Tfo_91_1 : fieldOff Tryz.prog 91 1 = some 1 := by kernel_rfl
theorem Tfo_95_0 : fieldOff Tryz.prog 95 0 = some 0 := by kernel_rfl
theorem Tfo_95_3 : fieldOff Tryz.prog 95 3 = some 3 := by kernel_rfl
theorem Tone_3 : oneOf Tryz.prog 3 = true := by kernel_rfl
theorem Tone_85 : oneOf Tryz.prog 85 = true := by kernel_rfl
theorem Tone_9 : oneOf Tryz.prog 9 = true := by kernel_rfl
theorem Tsize_3 : (Tryz.prog.info? 3).map (·.size) = some 1 := by kernel_rfl
theorem Tsize_95 : (Tryz.prog.info? 95).map (·.size) = some 5 := by kernel_rfl
theorem Tsl_22 : sliceOf Tryz.prog 22 = some (69, 3, 24, [.int .i64 0, .int .i64 0, .int .i64 0]) := by kernel_rfl
theorem Tsl_85 : sliceOf Tryz.prog 85 = some (95, 5, 72, [sv ([]), .int .i64 0, sv ([]), .int .i64 0, .slice none 0 0]) := by kernel_rfl
theorem Tzero_95 : zeroOf Tryz.prog 95 = some [sv ([]), .int .i64 0, sv ([]), .int .i64 0, .slice none 0 0] := by kernel_rfl
end TxkT
open TxkT
def liAt (xs : List Li) (k : Nat) : Li := xs.getD k .cl
theorem tx_li (L : List LV) (k : Nat) : (tx L k).1 = liAt (L.map (·.1)) k := by
  simp only [tx, liAt, List.getD, List.getElem?_map]
  cases L[k]? <;> rfl
/-- Gates repeated. -/
def repT (part : List G3) : Nat → List G3 → List G3
  | 0, out => out
  | m + 1, out => repT part m (trim (out ++ part))
/-- The lines of a block: gates, the line behind it, the fault. -/
def bk (xs : List Li) (D : List Df) (known : Nat) (n : Int) : Nat → Nat → Int × Int → List G3 → List G3 × Nat × (Int × Int)
  | 0, a, p, out => (out, a, p)
  | f + 1, a, p, out =>
    if a < xs.length then
      if (liAt xs a).word = wE then (out, a + 1, p)
      else if (liAt xs a).word = wG then bk xs D known n f (a + 1) (gateP n (liAt xs a).kind (liAt xs a).qs a p).2 (trim (out ++ (gateP n (liAt xs a).kind (liAt xs a).qs a p).1))
      else if (liAt xs a).word = wC then bk xs D known n f (a + 1) (callP n D known (liAt xs a).nm (liAt xs a).qs a p).2 (trim (out ++ (callP n D known (liAt xs a).nm (liAt xs a).qs a p).1))
      else if (liAt xs a).word = wR then bk xs D known n f (bk xs D known n f (a + 1) p []).2.1 (bk xs D known n f (a + 1) p []).2.2 (repT (bk xs D known n f (a + 1) p []).1 (liAt xs a).num.toNat out)
      else bk xs D known n f (a + 1) p (trim out)
    else (out, a, p)
theorem bk_fuel {xs : List Li} {D : List Df} {known : Nat} {n : Int} : ∀ (f a : Nat) (p : Int × Int) (out : List G3), xs.length - a + 1 ≤ f → a ≤ (bk xs D known n f a p out).2.1 ∧ ∀ f', f ≤ f' → bk xs D known n f' a p out = bk xs D known n f a p out
  | 0, a, p, out, h => by omega
  | f + 1, a, p, out, h => by
    by_cases ha : a < xs.length
    · have key : ∀ b p out, a + 1 ≤ b → b ≤ (bk xs D known n f b p out).2.1 ∧ ∀ f', f ≤ f' → bk xs D known n f' b p out = bk xs D known n f b p out := fun b p out hb => bk_fuel f b p out (by omega)
      constructor
      · rw [bk, if_pos ha]
        split
        · exact Nat.le_succ a
        · split
          · exact Nat.le_trans (Nat.le_succ a) (key _ _ _ (Nat.le_refl _)).1
          · split
            · exact Nat.le_trans (Nat.le_succ a) (key _ _ _ (Nat.le_refl _)).1
            · split
              · have h1 := (key (a + 1) p [] (Nat.le_refl _)).1
                exact Nat.le_trans (Nat.le_trans (Nat.le_succ a) h1) (key _ _ _ h1).1
              · exact Nat.le_trans (Nat.le_succ a) (key _ _ _ (Nat.le_refl _)).1
      · intro f' hf'
        obtain ⟨g, rfl⟩ : ∃ g, f' = g + 1 := ⟨f' - 1, by omega⟩
        have kg : ∀ b p out, a + 1 ≤ b → bk xs D known n g b p out = bk xs D known n f b p out := fun b p out hb => (key b p out hb).2 g (by omega)
        rw [bk, bk, if_pos ha, if_pos ha]
        have h1 := (key (a + 1) p [] (Nat.le_refl _)).1
        rw [kg _ _ _ (Nat.le_refl _), kg _ _ _ (Nat.le_refl _), kg _ p [] (Nat.le_refl _), kg _ _ _ h1, kg _ _ _ (Nat.le_refl _)]
    · constructor
      · rw [bk, if_neg ha]; exact Nat.le_refl _
      · intro f' hf'
        obtain ⟨g, rfl⟩ : ∃ g, f' = g + 1 := ⟨f' - 1, by omega⟩
        rw [bk, bk, if_neg ha, if_neg ha]
def bkc (xs : List Li) (D : List Df) (known : Nat) (n : Int) (a : Nat) (p : Int × Int) (out : List G3) : List G3 × Nat × (Int × Int) := bk xs D known n (xs.length - a + 1) a p out
theorem bkc_le (xs : List Li) (D : List Df) (known : Nat) (n : Int) (a : Nat) (p : Int × Int) (out : List G3) : a ≤ (bkc xs D known n a p out).2.1 := (bk_fuel _ a p out (Nat.le_refl _)).1
theorem bkc_end {xs : List Li} {D : List Df} {known : Nat} {n : Int} {a : Nat} {p : Int × Int} {out : List G3} (h : ¬ a < xs.length) : bkc xs D known n a p out = (out, a, p) := by rw [bkc, bk, if_neg h]
theorem bkc_eq {xs : List Li} {D : List Df} {known : Nat} {n : Int} {a : Nat} {p : Int × Int} {out : List G3} (h : a < xs.length) : bkc xs D known n a p out =
    if (liAt xs a).word = wE then (out, a + 1, p)
    else if (liAt xs a).word = wG then bkc xs D known n (a + 1) (gateP n (liAt xs a).kind (liAt xs a).qs a p).2 (trim (out ++ (gateP n (liAt xs a).kind (liAt xs a).qs a p).1))
    else if (liAt xs a).word = wC then bkc xs D known n (a + 1) (callP n D known (liAt xs a).nm (liAt xs a).qs a p).2 (trim (out ++ (callP n D known (liAt xs a).nm (liAt xs a).qs a p).1))
    else if (liAt xs a).word = wR then bkc xs D known n (bkc xs D known n (a + 1) p []).2.1 (bkc xs D known n (a + 1) p []).2.2 (repT (bkc xs D known n (a + 1) p []).1 (liAt xs a).num.toNat out)
    else bkc xs D known n (a + 1) p (trim out) := by
  have e : xs.length - a = xs.length - (a + 1) + 1 := by omega
  have key : ∀ b p out, a + 1 ≤ b → bk xs D known n (xs.length - a) b p out = bkc xs D known n b p out := fun b p out hb => (bk_fuel (xs.length - b + 1) b p out (Nat.le_refl _)).2 _ (by omega)
  have h1 : a + 1 ≤ (bkc xs D known n (a + 1) p []).2.1 := bkc_le ..
  rw [bkc, bk, if_pos h, key _ _ _ (Nat.le_refl _), key _ _ _ (Nat.le_refl _), key _ p [] (Nat.le_refl _), key _ _ _ h1, key _ _ _ (Nat.le_refl _)]
theorem bkc_ub {xs : List Li} {D : List Df} {known : Nat} {n : Int} : ∀ (d a : Nat) (p : Int × Int) (out : List G3), xs.length - a = d → a ≤ xs.length → (bkc xs D known n a p out).2.1 ≤ xs.length := by
  intro d
  induction d using Nat.strongRecOn with
  | _ d ih =>
    intro a p out hd ho
    by_cases h : a < xs.length
    · rw [bkc_eq h]
      have k : ∀ b p out, a < b → b ≤ xs.length → (bkc xs D known n b p out).2.1 ≤ xs.length := fun b p out hb ho => ih (xs.length - b) (by omega) b p out rfl ho
      split
      · exact h
      · split
        · exact k _ _ _ (Nat.lt_succ_self a) h
        · split
          · exact k _ _ _ (Nat.lt_succ_self a) h
          · split
            · exact k _ _ _ (bkc_le ..) (k _ _ _ (Nat.lt_succ_self a) h)
            · exact k _ _ _ (Nat.lt_succ_self a) h
    · rw [bkc_end h]; exact ho
theorem trim_len (L : List G3) : (trim L).length ≤ 401 := by rw [trim, List.length_take]; omega
theorem repT_len {part : List G3} : ∀ (m : Nat) (out : List G3), out.length ≤ 401 → (repT part m out).length ≤ 401
  | 0, _, h => h
  | m + 1, _, _ => repT_len m _ (trim_len _)
theorem bkc_len {xs : List Li} {D : List Df} {known : Nat} {n : Int} : ∀ (d a : Nat) (p : Int × Int) (out : List G3), xs.length - a = d → out.length ≤ 401 → (bkc xs D known n a p out).1.length ≤ 401 := by
  intro d
  induction d using Nat.strongRecOn with
  | _ d ih =>
    intro a p out hd ho
    by_cases h : a < xs.length
    · rw [bkc_eq h]
      have k : ∀ b p out, a < b → out.length ≤ 401 → (bkc xs D known n b p out).1.length ≤ 401 := fun b p out hb ho => ih (xs.length - b) (by omega) b p out rfl ho
      split
      · exact ho
      · split
        · exact k _ _ _ (Nat.lt_succ_self a) (trim_len _)
        · split
          · exact k _ _ _ (Nat.lt_succ_self a) (trim_len _)
          · split
            · exact k _ _ _ (bkc_le ..) (repT_len _ _ ho)
            · exact k _ _ _ (Nat.lt_succ_self a) (trim_len _)
    · rw [bkc_end h]; exact ho
theorem gateP_len (n k : Int) (q : List Int) (a : Int) (p : Int × Int) : (gateP n k q a p).1.length ≤ 1 := by unfold gateP; split <;> simp
theorem callP_len {n : Int} {D : List Df} {known : Nat} {nm : Bs} {q : List Int} {a : Int} {p : Int × Int} {m : Nat} (h : ∀ k, k < D.length → (dfx D k).gs.length ≤ m) (hk : known ≤ D.length) : (callP n D known nm q a p).1.length ≤ m := by
  unfold callP
  split
  · simp
  · split
    · simp
    · rename_i h1 _
      have := fdJ_lt (D := D) (known := known) (nm := nm)
      have h2 := h (fdJ D known nm).toNat (by omega)
      simpa using h2
theorem Ap.ap {H0 H1 R : List Res} {w0 w : World} {v : Value} {size n : Nat} {xs : List Value} (h : Ap H0 w0 v size n xs) (hs : St (Of H0) w0 w (H1 ++ R)) : Ap H1 w v size n xs :=
  ⟨h.go hs, fun hn k hk ⟨r, hr, hrk⟩ => h.off hn k hk (hs.fresh r (List.mem_append_left _ hr) k hrk (h.sl.lt hn hk))⟩
def LAp (H0 : List Res) (w : World) (L : List LV) : Prop := ∀ k, k < L.length → Ap H0 w (tx L k).2 1 (tx L k).1.qs.length (ints (tx L k).1.qs)
theorem LAp.ap {H0 H1 R : List Res} {w0 w : World} {L : List LV} (h : LAp H0 w0 L) (hs : St (Of H0) w0 w (H1 ++ R)) : LAp H1 w L := fun k hk => Ap.ap (h k hk) hs
theorem DAp.ap {H0 H1 R : List Res} {w0 w : World} {D : List DV} (h : DAp H0 w0 D) (hs : St (Of H0) w0 w (H1 ++ R)) : DAp H1 w D := fun k hk => Ap.ap (h k hk) hs
/-- What a text's lines are known to be. -/
structure LiOk (x : Li) : Prop where
  call : x.word = wC → 1 ≤ x.qs.length
  num : x.num ≤ 99
  df : x.word = wD → 1 ≤ x.num ∧ x.num ≤ 5
  qb : x.word = wQ → 1 ≤ x.num ∧ x.num ≤ 5
  pos : ∀ i, i < x.qs.length → 0 ≤ ix x.qs i
def CallsOk (xs : List Li) : Prop := ∀ k, k < xs.length → LiOk (liAt xs k)
def BlkStmt (d : Nat) : Prop := ∀ {r : Nat} {vl vd : Value} {a N dn known : Nat} {n c1 l1 : Int} {L : List LV} {D : List DV} {w : World}, N - a = d → (1 ≤ n ∧ n ≤ 5) → N ≤ 16777 → Ap [.blk r 91 [vl, .int .i64 ((a : Nat) : Int), vd, .int .i64 c1, .int .i64 l1]] w vl 5 N (tls L) → LAp [.blk r 91 [vl, .int .i64 ((a : Nat) : Int), vd, .int .i64 c1, .int .i64 l1]] w L → CallsOk (L.map (·.1)) →
  Ap [.blk r 91 [vl, .int .i64 ((a : Nat) : Int), vd, .int .i64 c1, .int .i64 l1]] w vd 3 dn (dls D) → DAp [.blk r 91 [vl, .int .i64 ((a : Nat) : Int), vd, .int .i64 c1, .int .i64 l1]] w D → DVal (D.map (·.1)) → (∀ k, k < D.length → (dx D k).1.gs.length ≤ 401) → known ≤ dn → a ≤ N →
  (Res.blk r 91 [vl, .int .i64 ((a : Nat) : Int), vd, .int .i64 c1, .int .i64 l1]).holds w →
  Calls Tryz.prog 91 #[.pointer (some ⟨r, 0, none⟩), .int .i64 n, .int .i64 ((known : Nat) : Int)] w (Post (Of [.blk r 91 [vl, .int .i64 ((a : Nat) : Int), vd, .int .i64 c1, .int .i64 l1]]) w fun v H => H = [.own v 69 3 (bkc (L.map (·.1)) (D.map (·.1)) known n a (c1, l1) []).1.length (ints (fl (bkc (L.map (·.1)) (D.map (·.1)) known n a (c1, l1) []).1)), .blk r 91 [vl, .int .i64 (((bkc (L.map (·.1)) (D.map (·.1)) known n a (c1, l1) []).2.1 : Nat) : Int), vd, .int .i64 (bkc (L.map (·.1)) (D.map (·.1)) known n a (c1, l1) []).2.2.1, .int .i64 (bkc (L.map (·.1)) (D.map (·.1)) known n a (c1, l1) []).2.2.2]])

set_option maxHeartbeats 16000000 in
set_option maxRecDepth 20000 in
theorem block_step (d : Nat) (ih : ∀ d', d' < d → BlkStmt d') {r : Nat} {vl vd : Value} {a N dn known : Nat} {n c1 l1 : Int} {L : List LV} {D : List DV} {w : World} (hd0 : N - a = d) (hn : 1 ≤ n ∧ n ≤ 5) (hN : N ≤ 16777) (hl : Ap [.blk r 91 [vl, .int .i64 ((a : Nat) : Int), vd, .int .i64 c1, .int .i64 l1]] w vl 5 N (tls L)) (hLq : LAp [.blk r 91 [vl, .int .i64 ((a : Nat) : Int), vd, .int .i64 c1, .int .i64 l1]] w L) (hcx : CallsOk (L.map (·.1))) (hd : Ap [.blk r 91 [vl, .int .i64 ((a : Nat) : Int), vd, .int .i64 c1, .int .i64 l1]] w vd 3 dn (dls D)) (hD : DAp [.blk r 91 [vl, .int .i64 ((a : Nat) : Int), vd, .int .i64 c1, .int .i64 l1]] w D) (hval : DVal (D.map (·.1))) (hD401 : ∀ k, k < D.length → (dx D k).1.gs.length ≤ 401) (hk : known ≤ dn) (haN : a ≤ N) (h : (Res.blk r 91 [vl, .int .i64 ((a : Nat) : Int), vd, .int .i64 c1, .int .i64 l1]).holds w) : Calls Tryz.prog 91 #[.pointer (some ⟨r, 0, none⟩), .int .i64 n, .int .i64 ((known : Nat) : Int)] w (Post (Of [.blk r 91 [vl, .int .i64 ((a : Nat) : Int), vd, .int .i64 c1, .int .i64 l1]]) w fun v H => H = [.own v 69 3 (bkc (L.map (·.1)) (D.map (·.1)) known n a (c1, l1) []).1.length (ints (fl (bkc (L.map (·.1)) (D.map (·.1)) known n a (c1, l1) []).1)), .blk r 91 [vl, .int .i64 (((bkc (L.map (·.1)) (D.map (·.1)) known n a (c1, l1) []).2.1 : Nat) : Int), vd, .int .i64 (bkc (L.map (·.1)) (D.map (·.1)) known n a (c1, l1) []).2.2.1, .int .i64 (bkc (L.map (·.1)) (D.map (·.1)) known n a (c1, l1) []).2.2.2]]) := by
 obtain ⟨X, hX⟩ : ∃ X, L.map (·.1) = X := ⟨_, rfl⟩
 obtain ⟨Y, hY⟩ : ∃ Y, D.map (·.1) = Y := ⟨_, rfl⟩
 obtain ⟨Z, hZ⟩ : ∃ Z, bkc X Y known n a (c1, l1) [] = Z := ⟨_, rfl⟩
 rw [hX, hY, hZ]
 have hLN : L.length = N := by have := hl.sl.1; simp at this; omega
 have hXN : X.length = N := by rw [← hX, List.length_map]; exact hLN
 have hDN : D.length = dn := by have := hd.sl.1; simp at this; omega
 have hD16 : ∀ k, k < D.length → (dx D k).1.gs.length ≤ 16777216 := fun k hk => by have := hD401 k hk; omega
 have hYl : ∀ k, k < Y.length → (dfx Y k).gs.length ≤ 401 := fun k hk => by rw [← hY, ← dx_df]; exact hD401 k (by rw [← hY, List.length_map] at hk; exact hk)
 have hkY : known ≤ Y.length := by rw [← hY, List.length_map]; omega
 obtain ⟨Al, cl, rfl, _, _⟩ := hl.sl.form0
 refine enter (n := 92) (args := [.pointer (some ⟨r, 0, none⟩), .int .i64 n, .int .i64 (((known : Nat) : Int))]) Tryz.func91 rfl rfl (St.start1 h) ?_
 refine Run.sr ?_
 refine Run.p (.slice none 0 0) rfl rfl ?_
 refine Run.dsr ?_
 refine Run.step rfl (OpStep.buildSlice (us := []) Tsl_22 (by decide) (by decide) rfl rfl fun b1 => ?_)
 refine Run.p (.slice (some ⟨b1, 0, none⟩) 0 0) rfl rfl ?_
 refine Run.done ?_
 refine Run.seq ?_
 refine Run.block ?_
 refine Run.loop (ι := Nat × Int × Int × List G3 × Value) ([6, 7, 8, 9, 11, 12, 13, 14, 15, 16, 17, 18, 19, 20, 21, 22, 23, 24, 25, 26, 27, 28, 29, 30, 31, 32, 33, 34, 35, 36, 37, 38, 39, 40, 41, 42, 43, 44, 45, 46, 47, 48, 49, 50, 51, 52, 53, 54, 55, 56] ++ [57, 58, 59, 60, 61, 62, 63, 64, 65, 66, 67, 68, 69, 70, 71, 72, 73, 74, 75, 76, 77, 78, 79, 80, 81, 82, 83, 84, 85, 86, 87, 88, 89, 90]) (fun ⟨b, p, q, out, vo⟩ => [(7, vo)]) (fun ⟨b, p, q, out, vo⟩ => [.own vo 69 3 (out.length) (ints (fl out)), .blk r 91 [.slice Al N cl, .int .i64 (((b : Nat) : Int)), vd, .int .i64 p, .int .i64 q]]) (fun ⟨b, p, q, out, vo⟩ => a ≤ b ∧ b ≤ N ∧ bkc X Y known n b (p, q) out = Z ∧ out.length ≤ 401) (fun ⟨b, p, q, out, vo⟩ => N - b) (a, c1, l1, [], .slice (some ⟨b1, 0, none⟩) 0 0) ?_ ?_ ?_ ?_
 ·exact ⟨Nat.le_refl _, haN, hZ, by simp⟩
 ·exact ⟨rfl, trivial⟩
 ·exact ((Weak.refl _).trans (Some'.weak (.takeEq (by first | rfl | simp) (.takeEq (by first | rfl | simp) (.nil _)))))
 ·rintro ⟨b, p, q, out, vo⟩ fr hinv
  show Run _ _ (over _ _ [(7, vo)] fr) [.own vo 69 3 (out.length) (ints (fl out)), .blk r 91 [.slice Al N cl, .int .i64 (((b : Nat) : Int)), vd, .int .i64 p, .int .i64 q]]
  try dsimp only at hinv
  refine Run.seq ?_
  refine Run.seq ?_
  refine Run.draws (by kernel_rfl) (by kernel_rfl) ?_
  refine Lex.q (v := .pointer (some ⟨r, 0, none⟩)) rfl (OpQ.y (OpY.pure rfl)) ?_
  refine Lex.q (v := .pointer (some ⟨r, 0, none⟩)) rfl (OpQ.y (OpY.nilCheck rfl)) ?_
  refine Lex.q (v := .pointer (some ⟨r, 1, none⟩)) rfl (OpQ.y (OpY.fieldAddr Tfo_91_1 rfl rfl)) ?_
  refine Lex.q (v := .int .i64 (((b : Nat) : Int))) rfl (OpQ.y (OpY.load1 Tone_3 rfl (Cells.blk (.tail _ (List.Mem.head _)) ⟨rfl, trivial⟩))) ?_
  refine Lex.q (v := .pointer (some ⟨r, 0, none⟩)) rfl (OpQ.y (OpY.pure rfl)) ?_
  refine Lex.q (v := .pointer (some ⟨r, 0, none⟩)) rfl (OpQ.y (OpY.nilCheck rfl)) ?_
  refine Lex.q (v := .pointer (some ⟨r, 0, none⟩)) rfl (OpQ.y (OpY.fieldAddr Tfo_91_0 rfl rfl)) ?_
  refine Lex.q (v := .slice Al N cl) rfl (OpQ.y (OpY.load1 Tone_85 rfl (Cells.blk (.tail _ (List.Mem.head _)) ⟨rfl, trivial⟩))) ?_
  refine Lex.q (v := .int .i64 (((N : Nat) : Int))) rfl (OpQ.y (OpY.len Tsl_85 rfl)) ?_
  refine Lex.q (v := .bool (decide ((((b : Nat) : Int)) < (((N : Nat) : Int))))) rfl (OpQ.y (OpY.pure rfl)) ?_
  refine Lex.done ?_
  refine Run.cond (b := decide ((((b : Nat) : Int)) < (((N : Nat) : Int)))) rfl (fun h20 => ?_) (fun h20 => ?_)
  ·have p20 := h20; try simp only [bs] at p20
   have hlt : b < N := by omega
   obtain ⟨hab, hbN, hgo, hlo⟩ := hinv
   rw [bkc_eq (by omega)] at hgo
   obtain ⟨x, hx⟩ : ∃ x, (tx L b).1 = x := ⟨_, rfl⟩
   have hxl : liAt X b = x := by rw [← hX, ← tx_li, hx]
   rw [hxl] at hgo
   obtain ⟨Aq, cq, hq, _, _⟩ := (hLq b (by omega)).sl.form0
   rw [hx] at hq
   have hqcx := hcx b (by simp; omega)
   rw [hX, hxl] at hqcx
   have hnum := hqcx.num
   have hqcx := hqcx.call
   obtain ⟨bl, ol, rfl⟩ := hl.sl.opn (by omega)
   refine Run.skip ?_
   refine Run.block ?_
   refine Run.seq ?_
   refine Run.held (by kernel_rfl) ?_
   refine DW.take (i := 0) (v := .pointer (some ⟨r, 0, none⟩)) rfl (by kernel_rfl) (by kernel_rfl) (by kernel_rfl) (fun _ _ _ h => h) (Weak.refl _) rfl (OpY.pure rfl) ?_
   refine DW.take (i := 1) (v := .pointer (some ⟨r, 0, none⟩)) rfl (by kernel_rfl) (by kernel_rfl) (by kernel_rfl) (fun _ _ _ h => h) (Weak.refl _) rfl (OpY.nilCheck rfl) ?_
   refine DW.take (i := 2) (v := .pointer (some ⟨r, 0, none⟩)) rfl (by kernel_rfl) (by kernel_rfl) (by kernel_rfl) (fun _ _ _ h => h) (Weak.refl _) rfl (OpY.fieldAddr Tfo_91_0 rfl rfl) ?_
   refine DW.take (i := 3) (v := .slice (some ⟨bl, ol, none⟩) N cl) rfl (by kernel_rfl) (by kernel_rfl) (by kernel_rfl) (fun _ _ _ h => h) (Weak.refl _) rfl (OpY.load1 Tone_85 rfl (Cells.blk (.tail _ (List.Mem.head _)) ⟨rfl, trivial⟩)) ?_
   refine DW.take (i := 4) (v := .pointer (some ⟨r, 0, none⟩)) rfl (by kernel_rfl) (by kernel_rfl) (by kernel_rfl) (fun _ _ _ h => h) (Weak.refl _) rfl (OpY.pure rfl) ?_
   refine DW.take (i := 5) (v := .pointer (some ⟨r, 0, none⟩)) rfl (by kernel_rfl) (by kernel_rfl) (by kernel_rfl) (fun _ _ _ h => h) (Weak.refl _) rfl (OpY.nilCheck rfl) ?_
   refine DW.take (i := 6) (v := .pointer (some ⟨r, 1, none⟩)) rfl (by kernel_rfl) (by kernel_rfl) (by kernel_rfl) (fun _ _ _ h => h) (Weak.refl _) rfl (OpY.fieldAddr Tfo_91_1 rfl rfl) ?_
   refine DW.take (i := 7) (v := .int .i64 (((b : Nat) : Int))) rfl (by kernel_rfl) (by kernel_rfl) (by kernel_rfl) (fun _ _ _ h => h) (Weak.refl _) rfl (OpY.load1 Tone_3 rfl (Cells.blk (.tail _ (List.Mem.head _)) ⟨rfl, trivial⟩)) ?_
   refine DW.take (i := 8) (v := .pointer (some ⟨bl, ol + b * 5, none⟩)) rfl (by kernel_rfl) (by kernel_rfl) (by kernel_rfl) (fun _ _ _ h => h) (Weak.refl _) rfl (OpY.index (kk := b) Tsl_85 rfl rfl (by omega) (by omega) (by first | rfl | omega)) ?_
   refine DW.take (i := 9) (v := .agg #[sv (x.word), .int .i64 (x.kind), sv (x.nm), .int .i64 (x.num), .slice Aq (x.qs.length) cq]) rfl (by kernel_rfl) (by kernel_rfl) (by kernel_rfl) (fun _ _ _ h => h) (Weak.refl _) rfl (OpY.loadN (cs := [sv (x.word), .int .i64 (x.kind), sv (x.nm), .int .i64 (x.num), .slice Aq (x.qs.length) cq]) Tagg_95 rfl (Cells.ap (k := b * 5) hl rfl (by omega) (tls_preF (k := b) (by omega) hx hq))) ?_
   refine DW.step (i := 10) (by kernel_rfl) rfl rfl (OpStep.alloc (zs := [sv ([]), .int .i64 0, sv ([]), .int .i64 0, .slice none 0 0]) Tzero_95 fun b2 => ?_)
   refine ⟨(Some'.weak (.skip (.take (.take (.nil _))))), ?_⟩
   refine DW.step (i := 11) (by kernel_rfl) rfl rfl (OpStep.storeAll (us := [sv (x.word), .int .i64 (x.kind), sv (x.nm), .int .i64 (x.num), .slice Aq (x.qs.length) cq]) Tsize_95 rfl rfl rfl (.here _) rfl ?_)
   refine ⟨(Some'.weak (.skip (.take (.take (.nil _))))), ?_⟩
   refine DW.done (by kernel_rfl) ?_
   refine Run.seq ?_
   refine Run.sr ?_
   refine Run.y (.pointer (some ⟨b2, 0, none⟩)) rfl (OpY.fieldAddr Tfo_95_0 rfl rfl) ?_
   refine Run.y (sv (x.word)) rfl (OpY.load1 Tone_9 rfl (Cells.blk (.head _) ⟨rfl, trivial⟩)) ?_
   refine Run.done ?_
   refine Run.block ?_
   refine Run.sr ?_
   refine Run.y (.bool ((x.word) == wE)) rfl (OpY.eqS rfl rfl) ?_
   refine Run.p (.bool ((x.word) == wE)) rfl rfl ?_
   refine Run.done ?_
   refine Run.cond (b := (x.word) == wE) rfl (fun h33 => ?_) (fun h33 => ?_)
   ·have p33 := h33; try simp only [bs] at p33
    rw [if_pos p33] at hgo
    refine Run.sr ?_
    refine Run.p (.pointer (some ⟨r, 0, none⟩)) rfl rfl ?_
    refine Run.y (.pointer (some ⟨r, 0, none⟩)) rfl (OpY.nilCheck rfl) ?_
    refine Run.y (.pointer (some ⟨r, 1, none⟩)) rfl (OpY.fieldAddr Tfo_91_1 rfl rfl) ?_
    refine Run.y (.int .i64 (((b : Nat) : Int))) rfl (OpY.load1 Tone_3 rfl (Cells.blk (.tail _ (.tail _ (List.Mem.head _))) ⟨rfl, trivial⟩)) ?_
    refine Run.y (.int .i64 ((((b : Nat) : Int)) + 1)) rfl (OpY.add rfl rfl rfl (by omega) (by omega)) ?_
    refine Run.y (.pointer (some ⟨r, 0, none⟩)) rfl (OpY.nilCheck rfl) ?_
    refine Run.y (.pointer (some ⟨r, 1, none⟩)) rfl (OpY.fieldAddr Tfo_91_1 rfl rfl) ?_
    refine Run.step rfl (OpStep.store (us := [.int .i64 ((((b : Nat) : Int)) + 1)]) Tsize_3 rfl rfl rfl (.there _ (.there _ (.here _))) (by simp only [List.length_cons, List.length_nil]; omega) ?_)
    show Run _ _ _ [.blk b2 95 [sv (x.word), .int .i64 (x.kind), sv (x.nm), .int .i64 (x.num), .slice Aq (x.qs.length) cq], .own vo 69 3 (out.length) (ints (fl out)), .blk r 91 [.slice (some ⟨bl, ol, none⟩) N cl, .int .i64 ((((b : Nat) : Int)) + 1), vd, .int .i64 p, .int .i64 q]]
    refine Run.dsr ?_
    refine Run.p (vo) rfl rfl ?_
    refine Run.p (vo) rfl rfl ?_
    refine Run.done ?_
    refine Run.ret ?_
    refine ⟨vo, [.own vo 69 3 (Z.1.length) (ints (fl Z.1)), .blk r 91 [.slice (some ⟨bl, ol, none⟩) N cl, .int .i64 (((Z.2.1 : Nat) : Int)), vd, .int .i64 (Z.2.2.1), .int .i64 (Z.2.2.2)]], Out.one rfl rfl, (Some'.weak (.skip (.takeEq (by first | (rw [← hgo]; done) | (rw [← hgo]; simp)) (.takeEq (by first | (rw [← hgo]; done) | (rw [← hgo]; simp)) (.nil _))))), ?_⟩
    rfl
   ·have p33 := h33; try simp only [bs] at p33
    rw [if_neg p33] at hgo
    refine Run.sr ?_
    refine Run.y (.bool ((x.word) == wG)) rfl (OpY.eqS rfl rfl) ?_
    refine Run.p (.bool ((x.word) == wG)) rfl rfl ?_
    refine Run.done ?_
    refine Run.cond (b := (x.word) == wG) rfl (fun h43 => ?_) (fun h43 => ?_)
    ·have p43 := h43; try simp only [bs] at p43
     rw [if_pos p43] at hgo
     have hgl := gateP_len n x.kind x.qs ((b : Nat) : Int) (p, q)
     refine Run.region ?_
     refine Run.p (vo) rfl rfl ?_
     refine Run.p (.pointer (some ⟨r, 0, none⟩)) rfl rfl ?_
     refine Run.y (.agg #[sv (x.word), .int .i64 (x.kind), sv (x.nm), .int .i64 (x.num), .slice Aq (x.qs.length) cq]) rfl (OpY.loadN (cs := [sv (x.word), .int .i64 (x.kind), sv (x.nm), .int .i64 (x.num), .slice Aq (x.qs.length) cq]) Tagg_95 rfl (Cells.blk (.head _) ⟨rfl, rfl, rfl, rfl, rfl, trivial⟩)) ?_
     refine Run.p (.int .i64 n) rfl rfl ?_
     refine Run.step rfl (OpStep.callM (H1 := [.blk r 91 [.slice (some ⟨bl, ol, none⟩) N cl, .int .i64 (((b : Nat) : Int)), vd, .int .i64 p, .int .i64 q]]) (H2 := [.blk b2 95 [sv (x.word), .int .i64 (x.kind), sv (x.nm), .int .i64 (x.num), .slice Aq (x.qs.length) cq], .own vo 69 3 (out.length) (ints (fl out))]) (vs := [.pointer (some ⟨r, 0, none⟩), .agg #[sv (x.word), .int .i64 (x.kind), sv (x.nm), .int .i64 (x.num), .slice Aq (x.qs.length) cq], .int .i64 n]) (caps := []) Tcall_108 rfl rfl (Weak.selF [2]) (fun w hs => tgate_spec hn (by omega) (by rw [← hq]; have h := Ap.ap (hLq b (by omega)) hs; rw [hx] at h; exact h) (hs.holds _ (.head _))) ?_)
     rintro v1 _ rfl
     show Run _ _ (putF _ _ _ v1) [.own v1 69 3 ((gateP n x.kind x.qs ((b : Nat) : Int) (p, q)).1.length) (ints (fl (gateP n x.kind x.qs ((b : Nat) : Int) (p, q)).1)), .blk r 91 [.slice (some ⟨bl, ol, none⟩) N cl, .int .i64 (((b : Nat) : Int)), vd, .int .i64 ((gateP n x.kind x.qs ((b : Nat) : Int) (p, q)).2.1), .int .i64 ((gateP n x.kind x.qs ((b : Nat) : Int) (p, q)).2.2)], .blk b2 95 [sv (x.word), .int .i64 (x.kind), sv (x.nm), .int .i64 (x.num), .slice Aq (x.qs.length) cq], .own vo 69 3 (out.length) (ints (fl out))]
     refine Run.step rfl (OpStep.append (H1 := [.own v1 69 3 ((gateP n x.kind x.qs ((b : Nat) : Int) (p, q)).1.length) (ints (fl (gateP n x.kind x.qs ((b : Nat) : Int) (p, q)).1)), .blk r 91 [.slice (some ⟨bl, ol, none⟩) N cl, .int .i64 (((b : Nat) : Int)), vd, .int .i64 ((gateP n x.kind x.qs ((b : Nat) : Int) (p, q)).2.1), .int .i64 ((gateP n x.kind x.qs ((b : Nat) : Int) (p, q)).2.2)], .blk b2 95 [sv (x.word), .int .i64 (x.kind), sv (x.nm), .int .i64 (x.num), .slice Aq (x.qs.length) cq]]) (H2 := []) (v := vo) (u := v1) (n := out.length) (m := (gateP n x.kind x.qs ((b : Nat) : Int) (p, q)).1.length) (xs := ints (fl out)) (ys := ints (fl (gateP n x.kind x.qs ((b : Nat) : Int) (p, q)).1)) Tsl_22 (by decide) rfl rfl rfl rfl (fun w hs => hs.slOwn (.head _)) (by exact ints_all _) (by omega) (by simp only [maxLen]; omega) fun av1 hnav1 => ?_)
     refine Run.weak (H' := [.own v1 69 3 ((gateP n x.kind x.qs ((b : Nat) : Int) (p, q)).1.length) (ints (fl (gateP n x.kind x.qs ((b : Nat) : Int) (p, q)).1)), .blk r 91 [.slice (some ⟨bl, ol, none⟩) N cl, .int .i64 (((b : Nat) : Int)), vd, .int .i64 ((gateP n x.kind x.qs ((b : Nat) : Int) (p, q)).2.1), .int .i64 ((gateP n x.kind x.qs ((b : Nat) : Int) (p, q)).2.2)], .blk b2 95 [sv (x.word), .int .i64 (x.kind), sv (x.nm), .int .i64 (x.num), .slice Aq (x.qs.length) cq], .own av1 69 3 ((out ++ ((gateP n x.kind x.qs ((b : Nat) : Int) (p, q)).1)).length) (ints (fl (out ++ ((gateP n x.kind x.qs ((b : Nat) : Int) (p, q)).1))))]) (Some'.weak (.take (.take (.take (.takeEq (by rw [List.length_append, fl_append, ints_append]) (.nil _)))))) ?_ ⟨_, _, rfl, fun _ => nofun, fun _ => nofun⟩
     refine Run.p (av1) rfl rfl ?_
     refine Run.done ?_
     refine Run.blockEnd ?_
     refine Run.sr ?_
     refine Run.p (av1) rfl rfl ?_
     refine Run.step rfl (OpStep.callM (H1 := [.own av1 69 3 ((out ++ ((gateP n x.kind x.qs ((b : Nat) : Int) (p, q)).1)).length) (ints (fl (out ++ ((gateP n x.kind x.qs ((b : Nat) : Int) (p, q)).1))))]) (H2 := [.own v1 69 3 ((gateP n x.kind x.qs ((b : Nat) : Int) (p, q)).1.length) (ints (fl (gateP n x.kind x.qs ((b : Nat) : Int) (p, q)).1)), .blk r 91 [.slice (some ⟨bl, ol, none⟩) N cl, .int .i64 (((b : Nat) : Int)), vd, .int .i64 ((gateP n x.kind x.qs ((b : Nat) : Int) (p, q)).2.1), .int .i64 ((gateP n x.kind x.qs ((b : Nat) : Int) (p, q)).2.2)], .blk b2 95 [sv (x.word), .int .i64 (x.kind), sv (x.nm), .int .i64 (x.num), .slice Aq (x.qs.length) cq]]) (vs := [av1]) (caps := []) Tcall_110 rfl rfl (Weak.selF [3]) (fun w hs => tooMany_spec rfl (hs.holds _ (.head _))) ?_)
     rintro tv1 _ rfl
     show Run _ _ (putF _ _ _ tv1) [.own tv1 69 3 ((trim ((out ++ ((gateP n x.kind x.qs ((b : Nat) : Int) (p, q)).1)))).length) (ints (fl (trim ((out ++ ((gateP n x.kind x.qs ((b : Nat) : Int) (p, q)).1)))))), .own v1 69 3 ((gateP n x.kind x.qs ((b : Nat) : Int) (p, q)).1.length) (ints (fl (gateP n x.kind x.qs ((b : Nat) : Int) (p, q)).1)), .blk r 91 [.slice (some ⟨bl, ol, none⟩) N cl, .int .i64 (((b : Nat) : Int)), vd, .int .i64 ((gateP n x.kind x.qs ((b : Nat) : Int) (p, q)).2.1), .int .i64 ((gateP n x.kind x.qs ((b : Nat) : Int) (p, q)).2.2)], .blk b2 95 [sv (x.word), .int .i64 (x.kind), sv (x.nm), .int .i64 (x.num), .slice Aq (x.qs.length) cq]]
     refine Run.p (tv1) rfl rfl ?_
     refine Run.dr ?_
     refine Run.p (.pointer (some ⟨r, 0, none⟩)) rfl rfl ?_
     refine Run.y (.pointer (some ⟨r, 0, none⟩)) rfl (OpY.nilCheck rfl) ?_
     refine Run.y (.pointer (some ⟨r, 1, none⟩)) rfl (OpY.fieldAddr Tfo_91_1 rfl rfl) ?_
     refine Run.y (.int .i64 (((b : Nat) : Int))) rfl (OpY.load1 Tone_3 rfl (Cells.blk (.tail _ (.tail _ (List.Mem.head _))) ⟨rfl, trivial⟩)) ?_
     refine Run.y (.int .i64 ((((b : Nat) : Int)) + 1)) rfl (OpY.add rfl rfl rfl (by omega) (by omega)) ?_
     refine Run.y (.pointer (some ⟨r, 0, none⟩)) rfl (OpY.nilCheck rfl) ?_
     refine Run.y (.pointer (some ⟨r, 1, none⟩)) rfl (OpY.fieldAddr Tfo_91_1 rfl rfl) ?_
     refine Run.step rfl (OpStep.store (us := [.int .i64 ((((b : Nat) : Int)) + 1)]) Tsize_3 rfl rfl rfl (.there _ (.there _ (.here _))) (by simp only [List.length_cons, List.length_nil]; omega) ?_)
     show Run _ _ _ [.own tv1 69 3 ((trim ((out ++ ((gateP n x.kind x.qs ((b : Nat) : Int) (p, q)).1)))).length) (ints (fl (trim ((out ++ ((gateP n x.kind x.qs ((b : Nat) : Int) (p, q)).1)))))), .own v1 69 3 ((gateP n x.kind x.qs ((b : Nat) : Int) (p, q)).1.length) (ints (fl (gateP n x.kind x.qs ((b : Nat) : Int) (p, q)).1)), .blk r 91 [.slice (some ⟨bl, ol, none⟩) N cl, .int .i64 ((((b : Nat) : Int)) + 1), vd, .int .i64 ((gateP n x.kind x.qs ((b : Nat) : Int) (p, q)).2.1), .int .i64 ((gateP n x.kind x.qs ((b : Nat) : Int) (p, q)).2.2)], .blk b2 95 [sv (x.word), .int .i64 (x.kind), sv (x.nm), .int .i64 (x.num), .slice Aq (x.qs.length) cq]]
     refine Run.done ?_
     refine Run.blockEnd ?_
     refine Run.goal ⟨(by repeat (first | exact Same.refl _ _ | refine Same.put rfl ?_ | refine Same.over rfl rfl ?_)), (b + 1, (gateP n x.kind x.qs ((b : Nat) : Int) (p, q)).2.1, (gateP n x.kind x.qs ((b : Nat) : Int) (p, q)).2.2, (trim ((out ++ ((gateP n x.kind x.qs ((b : Nat) : Int) (p, q)).1)))), tv1), ?_, ?_, ?_, ?_⟩
     ·exact ⟨by first | omega | (have := bkc_le X Y known n (b + 1) (p, q) []; omega), by first | omega | exact hsN, by first | exact hgo | exact hgo3, by first | exact trim_len _ | exact hlo | exact hinv.2.2⟩
     ·have := bkc_le X Y known n (b + 1) (p, q) []
      show N - _ < N - b; omega
     ·exact ⟨(by first | rfl | (congr 1; omega) | simp), trivial⟩
     ·exact ((Weak.selF [0, 1]).trans (Some'.weak (.takeEq (by first | rfl | simp) (.takeEq (by first | rfl | simp) (.nil _)))))
    ·have p43 := h43; try simp only [bs] at p43
     rw [if_neg p43] at hgo
     refine Run.sr ?_
     refine Run.y (.bool ((x.word) == wC)) rfl (OpY.eqS rfl rfl) ?_
     refine Run.p (.bool ((x.word) == wC)) rfl rfl ?_
     refine Run.done ?_
     refine Run.cond (b := (x.word) == wC) rfl (fun h51 => ?_) (fun h51 => ?_)
     ·have p51 := h51; try simp only [bs] at p51
      rw [if_pos p51] at hgo
      have hqc := hqcx p51
      have hgl := callP_len (n := n) (nm := x.nm) (q := x.qs) (a := ((b : Nat) : Int)) (p := (p, q)) hYl hkY
      refine Run.region ?_
      refine Run.p (vo) rfl rfl ?_
      refine Run.p (.pointer (some ⟨r, 0, none⟩)) rfl rfl ?_
      refine Run.y (.agg #[sv (x.word), .int .i64 (x.kind), sv (x.nm), .int .i64 (x.num), .slice Aq (x.qs.length) cq]) rfl (OpY.loadN (cs := [sv (x.word), .int .i64 (x.kind), sv (x.nm), .int .i64 (x.num), .slice Aq (x.qs.length) cq]) Tagg_95 rfl (Cells.blk (.head _) ⟨rfl, rfl, rfl, rfl, rfl, trivial⟩)) ?_
      refine Run.p (.int .i64 n) rfl rfl ?_
      refine Run.p (.int .i64 (((known : Nat) : Int))) rfl rfl ?_
      refine Run.step rfl (OpStep.callM (H1 := [.blk r 91 [.slice (some ⟨bl, ol, none⟩) N cl, .int .i64 (((b : Nat) : Int)), vd, .int .i64 p, .int .i64 q]]) (H2 := [.blk b2 95 [sv (x.word), .int .i64 (x.kind), sv (x.nm), .int .i64 (x.num), .slice Aq (x.qs.length) cq], .own vo 69 3 (out.length) (ints (fl out))]) (vs := [.pointer (some ⟨r, 0, none⟩), .agg #[sv (x.word), .int .i64 (x.kind), sv (x.nm), .int .i64 (x.num), .slice Aq (x.qs.length) cq], .int .i64 n, .int .i64 (((known : Nat) : Int))]) (caps := []) Tcall_109 rfl rfl (Weak.selF [2]) (fun w hs => (by have h := tcall_spec (n := n) (k := x.kind) (num := x.num) (w0 := x.word) (nm := x.nm) (show 0 ≤ ((b : Nat) : Int) ∧ ((b : Nat) : Int) ≤ 16777216 by omega) (vq := .slice Aq x.qs.length cq) (by rw [← hq]; have h := Ap.ap (hLq b (by omega)) hs; rw [hx] at h; exact h) hqc (Ap.ap hd hs) (hD.ap hs) hval hD16 hk (hs.holds _ (.head _)); rw [hY] at h; exact h)) ?_)
      rintro v1 _ rfl
      show Run _ _ (putF _ _ _ v1) [.own v1 69 3 ((callP n Y known x.nm x.qs ((b : Nat) : Int) (p, q)).1.length) (ints (fl (callP n Y known x.nm x.qs ((b : Nat) : Int) (p, q)).1)), .blk r 91 [.slice (some ⟨bl, ol, none⟩) N cl, .int .i64 (((b : Nat) : Int)), vd, .int .i64 ((callP n Y known x.nm x.qs ((b : Nat) : Int) (p, q)).2.1), .int .i64 ((callP n Y known x.nm x.qs ((b : Nat) : Int) (p, q)).2.2)], .blk b2 95 [sv (x.word), .int .i64 (x.kind), sv (x.nm), .int .i64 (x.num), .slice Aq (x.qs.length) cq], .own vo 69 3 (out.length) (ints (fl out))]
      refine Run.step rfl (OpStep.append (H1 := [.own v1 69 3 ((callP n Y known x.nm x.qs ((b : Nat) : Int) (p, q)).1.length) (ints (fl (callP n Y known x.nm x.qs ((b : Nat) : Int) (p, q)).1)), .blk r 91 [.slice (some ⟨bl, ol, none⟩) N cl, .int .i64 (((b : Nat) : Int)), vd, .int .i64 ((callP n Y known x.nm x.qs ((b : Nat) : Int) (p, q)).2.1), .int .i64 ((callP n Y known x.nm x.qs ((b : Nat) : Int) (p, q)).2.2)], .blk b2 95 [sv (x.word), .int .i64 (x.kind), sv (x.nm), .int .i64 (x.num), .slice Aq (x.qs.length) cq]]) (H2 := []) (v := vo) (u := v1) (n := out.length) (m := (callP n Y known x.nm x.qs ((b : Nat) : Int) (p, q)).1.length) (xs := ints (fl out)) (ys := ints (fl (callP n Y known x.nm x.qs ((b : Nat) : Int) (p, q)).1)) Tsl_22 (by decide) rfl rfl rfl rfl (fun w hs => hs.slOwn (.head _)) (by exact ints_all _) (by omega) (by simp only [maxLen]; omega) fun av2 hnav2 => ?_)
      refine Run.weak (H' := [.own v1 69 3 ((callP n Y known x.nm x.qs ((b : Nat) : Int) (p, q)).1.length) (ints (fl (callP n Y known x.nm x.qs ((b : Nat) : Int) (p, q)).1)), .blk r 91 [.slice (some ⟨bl, ol, none⟩) N cl, .int .i64 (((b : Nat) : Int)), vd, .int .i64 ((callP n Y known x.nm x.qs ((b : Nat) : Int) (p, q)).2.1), .int .i64 ((callP n Y known x.nm x.qs ((b : Nat) : Int) (p, q)).2.2)], .blk b2 95 [sv (x.word), .int .i64 (x.kind), sv (x.nm), .int .i64 (x.num), .slice Aq (x.qs.length) cq], .own av2 69 3 ((out ++ ((callP n Y known x.nm x.qs ((b : Nat) : Int) (p, q)).1)).length) (ints (fl (out ++ ((callP n Y known x.nm x.qs ((b : Nat) : Int) (p, q)).1))))]) (Some'.weak (.take (.take (.take (.takeEq (by rw [List.length_append, fl_append, ints_append]) (.nil _)))))) ?_ ⟨_, _, rfl, fun _ => nofun, fun _ => nofun⟩
      refine Run.p (av2) rfl rfl ?_
      refine Run.done ?_
      refine Run.blockEnd ?_
      refine Run.sr ?_
      refine Run.p (av2) rfl rfl ?_
      refine Run.step rfl (OpStep.callM (H1 := [.own av2 69 3 ((out ++ ((callP n Y known x.nm x.qs ((b : Nat) : Int) (p, q)).1)).length) (ints (fl (out ++ ((callP n Y known x.nm x.qs ((b : Nat) : Int) (p, q)).1))))]) (H2 := [.own v1 69 3 ((callP n Y known x.nm x.qs ((b : Nat) : Int) (p, q)).1.length) (ints (fl (callP n Y known x.nm x.qs ((b : Nat) : Int) (p, q)).1)), .blk r 91 [.slice (some ⟨bl, ol, none⟩) N cl, .int .i64 (((b : Nat) : Int)), vd, .int .i64 ((callP n Y known x.nm x.qs ((b : Nat) : Int) (p, q)).2.1), .int .i64 ((callP n Y known x.nm x.qs ((b : Nat) : Int) (p, q)).2.2)], .blk b2 95 [sv (x.word), .int .i64 (x.kind), sv (x.nm), .int .i64 (x.num), .slice Aq (x.qs.length) cq]]) (vs := [av2]) (caps := []) Tcall_110 rfl rfl (Weak.selF [3]) (fun w hs => tooMany_spec rfl (hs.holds _ (.head _))) ?_)
      rintro tv2 _ rfl
      show Run _ _ (putF _ _ _ tv2) [.own tv2 69 3 ((trim ((out ++ ((callP n Y known x.nm x.qs ((b : Nat) : Int) (p, q)).1)))).length) (ints (fl (trim ((out ++ ((callP n Y known x.nm x.qs ((b : Nat) : Int) (p, q)).1)))))), .own v1 69 3 ((callP n Y known x.nm x.qs ((b : Nat) : Int) (p, q)).1.length) (ints (fl (callP n Y known x.nm x.qs ((b : Nat) : Int) (p, q)).1)), .blk r 91 [.slice (some ⟨bl, ol, none⟩) N cl, .int .i64 (((b : Nat) : Int)), vd, .int .i64 ((callP n Y known x.nm x.qs ((b : Nat) : Int) (p, q)).2.1), .int .i64 ((callP n Y known x.nm x.qs ((b : Nat) : Int) (p, q)).2.2)], .blk b2 95 [sv (x.word), .int .i64 (x.kind), sv (x.nm), .int .i64 (x.num), .slice Aq (x.qs.length) cq]]
      refine Run.p (tv2) rfl rfl ?_
      refine Run.dr ?_
      refine Run.p (.pointer (some ⟨r, 0, none⟩)) rfl rfl ?_
      refine Run.y (.pointer (some ⟨r, 0, none⟩)) rfl (OpY.nilCheck rfl) ?_
      refine Run.y (.pointer (some ⟨r, 1, none⟩)) rfl (OpY.fieldAddr Tfo_91_1 rfl rfl) ?_
      refine Run.y (.int .i64 (((b : Nat) : Int))) rfl (OpY.load1 Tone_3 rfl (Cells.blk (.tail _ (.tail _ (List.Mem.head _))) ⟨rfl, trivial⟩)) ?_
      refine Run.y (.int .i64 ((((b : Nat) : Int)) + 1)) rfl (OpY.add rfl rfl rfl (by omega) (by omega)) ?_
      refine Run.y (.pointer (some ⟨r, 0, none⟩)) rfl (OpY.nilCheck rfl) ?_
      refine Run.y (.pointer (some ⟨r, 1, none⟩)) rfl (OpY.fieldAddr Tfo_91_1 rfl rfl) ?_
      refine Run.step rfl (OpStep.store (us := [.int .i64 ((((b : Nat) : Int)) + 1)]) Tsize_3 rfl rfl rfl (.there _ (.there _ (.here _))) (by simp only [List.length_cons, List.length_nil]; omega) ?_)
      show Run _ _ _ [.own tv2 69 3 ((trim ((out ++ ((callP n Y known x.nm x.qs ((b : Nat) : Int) (p, q)).1)))).length) (ints (fl (trim ((out ++ ((callP n Y known x.nm x.qs ((b : Nat) : Int) (p, q)).1)))))), .own v1 69 3 ((callP n Y known x.nm x.qs ((b : Nat) : Int) (p, q)).1.length) (ints (fl (callP n Y known x.nm x.qs ((b : Nat) : Int) (p, q)).1)), .blk r 91 [.slice (some ⟨bl, ol, none⟩) N cl, .int .i64 ((((b : Nat) : Int)) + 1), vd, .int .i64 ((callP n Y known x.nm x.qs ((b : Nat) : Int) (p, q)).2.1), .int .i64 ((callP n Y known x.nm x.qs ((b : Nat) : Int) (p, q)).2.2)], .blk b2 95 [sv (x.word), .int .i64 (x.kind), sv (x.nm), .int .i64 (x.num), .slice Aq (x.qs.length) cq]]
      refine Run.done ?_
      refine Run.blockEnd ?_
      refine Run.goal ⟨(by repeat (first | exact Same.refl _ _ | refine Same.put rfl ?_ | refine Same.over rfl rfl ?_)), (b + 1, (callP n Y known x.nm x.qs ((b : Nat) : Int) (p, q)).2.1, (callP n Y known x.nm x.qs ((b : Nat) : Int) (p, q)).2.2, (trim ((out ++ ((callP n Y known x.nm x.qs ((b : Nat) : Int) (p, q)).1)))), tv2), ?_, ?_, ?_, ?_⟩
      ·exact ⟨by first | omega | (have := bkc_le X Y known n (b + 1) (p, q) []; omega), by first | omega | exact hsN, by first | exact hgo | exact hgo3, by first | exact trim_len _ | exact hlo | exact hinv.2.2⟩
      ·have := bkc_le X Y known n (b + 1) (p, q) []
       show N - _ < N - b; omega
      ·exact ⟨(by first | rfl | (congr 1; omega) | simp), trivial⟩
      ·exact ((Weak.selF [0, 1]).trans (Some'.weak (.takeEq (by first | rfl | simp) (.takeEq (by first | rfl | simp) (.nil _)))))
     ·have p51 := h51; try simp only [bs] at p51
      rw [if_neg p51] at hgo
      refine Run.sr ?_
      refine Run.y (.bool ((x.word) == wR)) rfl (OpY.eqS rfl rfl) ?_
      refine Run.p (.bool ((x.word) == wR)) rfl rfl ?_
      refine Run.done ?_
      refine Run.cond (b := (x.word) == wR) rfl (fun h60 => ?_) (fun h60 => ?_)
      ·have p60 := h60; try simp only [bs] at p60
       rw [if_pos p60] at hgo
       have hpl : (bkc X Y known n (b + 1) (p, q) []).1.length ≤ 401 := bkc_len _ _ _ _ rfl (by simp)
       have hsN : (bkc X Y known n (b + 1) (p, q) []).2.1 ≤ N := by rw [← hXN]; exact bkc_ub _ _ _ _ rfl (by omega)
       refine Run.sr ?_
       refine Run.p (.pointer (some ⟨r, 0, none⟩)) rfl rfl ?_
       refine Run.y (.pointer (some ⟨r, 0, none⟩)) rfl (OpY.nilCheck rfl) ?_
       refine Run.y (.pointer (some ⟨r, 1, none⟩)) rfl (OpY.fieldAddr Tfo_91_1 rfl rfl) ?_
       refine Run.y (.int .i64 (((b : Nat) : Int))) rfl (OpY.load1 Tone_3 rfl (Cells.blk (.tail _ (.tail _ (List.Mem.head _))) ⟨rfl, trivial⟩)) ?_
       refine Run.y (.int .i64 ((((b : Nat) : Int)) + 1)) rfl (OpY.add rfl rfl rfl (by omega) (by omega)) ?_
       refine Run.y (.pointer (some ⟨r, 0, none⟩)) rfl (OpY.nilCheck rfl) ?_
       refine Run.y (.pointer (some ⟨r, 1, none⟩)) rfl (OpY.fieldAddr Tfo_91_1 rfl rfl) ?_
       refine Run.step rfl (OpStep.store (us := [.int .i64 ((((b : Nat) : Int)) + 1)]) Tsize_3 rfl rfl rfl (.there _ (.there _ (.here _))) (by simp only [List.length_cons, List.length_nil]; omega) ?_)
       show Run _ _ _ [.blk b2 95 [sv (x.word), .int .i64 (x.kind), sv (x.nm), .int .i64 (x.num), .slice Aq (x.qs.length) cq], .own vo 69 3 (out.length) (ints (fl out)), .blk r 91 [.slice (some ⟨bl, ol, none⟩) N cl, .int .i64 ((((b : Nat) : Int)) + 1), vd, .int .i64 p, .int .i64 q]]
       refine Run.dsr ?_
       refine Run.p (.pointer (some ⟨r, 0, none⟩)) rfl rfl ?_
       refine Run.p (.int .i64 n) rfl rfl ?_
       refine Run.p (.int .i64 (((known : Nat) : Int))) rfl rfl ?_
       refine Run.step rfl (OpStep.callM (H1 := [.blk r 91 [.slice (some ⟨bl, ol, none⟩) N cl, .int .i64 ((((b : Nat) : Int)) + 1), vd, .int .i64 p, .int .i64 q]]) (H2 := [.blk b2 95 [sv (x.word), .int .i64 (x.kind), sv (x.nm), .int .i64 (x.num), .slice Aq (x.qs.length) cq], .own vo 69 3 (out.length) (ints (fl out))]) (vs := [.pointer (some ⟨r, 0, none⟩), .int .i64 n, .int .i64 (((known : Nat) : Int))]) (caps := []) Tcall_91 rfl rfl (Weak.selF [2]) (fun w hs => (by have h := ih (N - (b + 1)) (by omega) (known := known) (a := b + 1) rfl hn hN (Ap.ap hl hs) (hLq.ap hs) hcx (Ap.ap hd hs) (hD.ap hs) hval hD401 hk (by omega) (hs.holds _ (.head _)); rw [hX, hY] at h; exact h)) ?_)
       rintro v1 _ rfl
       show Run _ _ (putF _ _ _ v1) [.own v1 69 3 ((bkc X Y known n (b + 1) (p, q) []).1.length) (ints (fl (bkc X Y known n (b + 1) (p, q) []).1)), .blk r 91 [.slice (some ⟨bl, ol, none⟩) N cl, .int .i64 ((((bkc X Y known n (b + 1) (p, q) []).2.1 : Nat) : Int)), vd, .int .i64 ((bkc X Y known n (b + 1) (p, q) []).2.2.1), .int .i64 ((bkc X Y known n (b + 1) (p, q) []).2.2.2)], .blk b2 95 [sv (x.word), .int .i64 (x.kind), sv (x.nm), .int .i64 (x.num), .slice Aq (x.qs.length) cq], .own vo 69 3 (out.length) (ints (fl out))]
       refine Run.p (v1) rfl rfl ?_
       refine Run.done ?_
       refine Run.seq ?_
       refine Run.sr ?_
       refine Run.y (.pointer (some ⟨b2, 3, none⟩)) rfl (OpY.fieldAddr Tfo_95_3 rfl rfl) ?_
       refine Run.y (.int .i64 (x.num)) rfl (OpY.load1 Tone_3 rfl (Cells.blk (.tail _ (.tail _ (List.Mem.head _))) ⟨rfl, trivial⟩)) ?_
       refine Run.p (.int .i64 0) rfl rfl ?_
       refine Run.done ?_
       refine Run.block ?_
       refine Run.loop (ι := Nat × List G3 × Value) [7, 75, 76, 77, 78, 79, 80, 81] (fun ⟨i, o2, vo2⟩ => [(7, vo2), (75, .int .i64 (((i : Nat) : Int)))]) (fun ⟨i, o2, vo2⟩ => [.own vo2 69 3 (o2.length) (ints (fl o2)), .own v1 69 3 ((bkc X Y known n (b + 1) (p, q) []).1.length) (ints (fl (bkc X Y known n (b + 1) (p, q) []).1)), .blk r 91 [.slice (some ⟨bl, ol, none⟩) N cl, .int .i64 ((((bkc X Y known n (b + 1) (p, q) []).2.1 : Nat) : Int)), vd, .int .i64 ((bkc X Y known n (b + 1) (p, q) []).2.2.1), .int .i64 ((bkc X Y known n (b + 1) (p, q) []).2.2.2)]]) (fun ⟨i, o2, vo2⟩ => i ≤ x.num.toNat ∧ repT (bkc X Y known n (b + 1) (p, q) []).1 (x.num.toNat - i) o2 = repT (bkc X Y known n (b + 1) (p, q) []).1 x.num.toNat out ∧ o2.length ≤ 401) (fun ⟨i, o2, vo2⟩ => x.num.toNat - i) (0, out, vo) ?_ ?_ ?_ ?_
       ·exact ⟨Nat.zero_le _, rfl, hlo⟩
       ·exact ⟨rfl, rfl, trivial⟩
       ·exact ((Weak.selF [3, 0, 0]).trans (Some'.weak (.takeEq (by first | rfl | simp) (.take (.take (.nil _))))))
       ·rintro ⟨i, o2, vo2⟩ fr hinv
        show Run _ _ (over _ _ [(7, vo2), (75, .int .i64 (((i : Nat) : Int)))] fr) [.own vo2 69 3 (o2.length) (ints (fl o2)), .own v1 69 3 ((bkc X Y known n (b + 1) (p, q) []).1.length) (ints (fl (bkc X Y known n (b + 1) (p, q) []).1)), .blk r 91 [.slice (some ⟨bl, ol, none⟩) N cl, .int .i64 ((((bkc X Y known n (b + 1) (p, q) []).2.1 : Nat) : Int)), vd, .int .i64 ((bkc X Y known n (b + 1) (p, q) []).2.2.1), .int .i64 ((bkc X Y known n (b + 1) (p, q) []).2.2.2)]]
        try dsimp only at hinv
        refine Run.sr ?_
        refine Run.p (.bool (decide ((((i : Nat) : Int)) < (x.num)))) rfl rfl ?_
        refine Run.done ?_
        refine Run.seq ?_
        refine Run.cond (b := decide ((((i : Nat) : Int)) < (x.num))) rfl (fun h76 => ?_) (fun h76 => ?_)
        ·have p76 := h76; try simp only [bs] at p76
         obtain ⟨hi1, hi2, hi3⟩ := hinv
         have hinv := And.intro hi1 (And.intro hi2 hi3)
         refine Run.skip ?_
         refine Run.seq ?_
         refine Run.block ?_
         refine Run.region ?_
         refine Run.p (vo2) rfl rfl ?_
         refine Run.p (v1) rfl rfl ?_
         refine Run.step rfl (OpStep.append (H1 := []) (H2 := [.own v1 69 3 ((bkc X Y known n (b + 1) (p, q) []).1.length) (ints (fl (bkc X Y known n (b + 1) (p, q) []).1)), .blk r 91 [.slice (some ⟨bl, ol, none⟩) N cl, .int .i64 ((((bkc X Y known n (b + 1) (p, q) []).2.1 : Nat) : Int)), vd, .int .i64 ((bkc X Y known n (b + 1) (p, q) []).2.2.1), .int .i64 ((bkc X Y known n (b + 1) (p, q) []).2.2.2)]]) (v := vo2) (u := v1) (n := o2.length) (m := (bkc X Y known n (b + 1) (p, q) []).1.length) (xs := ints (fl o2)) (ys := ints (fl (bkc X Y known n (b + 1) (p, q) []).1)) Tsl_22 (by decide) rfl rfl rfl rfl (fun w hs => hs.slOwn (.tail _ (List.Mem.head _))) (by exact ints_all _) (by omega) (by simp only [maxLen]; omega) fun av3 hnav3 => ?_)
         refine Run.weak (H' := [.own av3 69 3 ((o2 ++ ((bkc X Y known n (b + 1) (p, q) []).1)).length) (ints (fl (o2 ++ ((bkc X Y known n (b + 1) (p, q) []).1)))), .own v1 69 3 ((bkc X Y known n (b + 1) (p, q) []).1.length) (ints (fl (bkc X Y known n (b + 1) (p, q) []).1)), .blk r 91 [.slice (some ⟨bl, ol, none⟩) N cl, .int .i64 ((((bkc X Y known n (b + 1) (p, q) []).2.1 : Nat) : Int)), vd, .int .i64 ((bkc X Y known n (b + 1) (p, q) []).2.2.1), .int .i64 ((bkc X Y known n (b + 1) (p, q) []).2.2.2)]]) (Some'.weak (.takeEq (by rw [List.length_append, fl_append, ints_append]) (.take (.take (.nil _))))) ?_ ⟨_, _, rfl, fun _ => nofun, fun _ => nofun⟩
         refine Run.step rfl (OpStep.callM (H1 := [.own av3 69 3 ((o2 ++ ((bkc X Y known n (b + 1) (p, q) []).1)).length) (ints (fl (o2 ++ ((bkc X Y known n (b + 1) (p, q) []).1))))]) (H2 := [.own v1 69 3 ((bkc X Y known n (b + 1) (p, q) []).1.length) (ints (fl (bkc X Y known n (b + 1) (p, q) []).1)), .blk r 91 [.slice (some ⟨bl, ol, none⟩) N cl, .int .i64 ((((bkc X Y known n (b + 1) (p, q) []).2.1 : Nat) : Int)), vd, .int .i64 ((bkc X Y known n (b + 1) (p, q) []).2.2.1), .int .i64 ((bkc X Y known n (b + 1) (p, q) []).2.2.2)]]) (vs := [av3]) (caps := []) Tcall_110 rfl rfl (Weak.refl _) (fun w hs => tooMany_spec rfl (hs.holds _ (.head _))) ?_)
         rintro tv3 _ rfl
         show Run _ _ (putF _ _ _ tv3) [.own tv3 69 3 ((trim ((o2 ++ ((bkc X Y known n (b + 1) (p, q) []).1)))).length) (ints (fl (trim ((o2 ++ ((bkc X Y known n (b + 1) (p, q) []).1)))))), .own v1 69 3 ((bkc X Y known n (b + 1) (p, q) []).1.length) (ints (fl (bkc X Y known n (b + 1) (p, q) []).1)), .blk r 91 [.slice (some ⟨bl, ol, none⟩) N cl, .int .i64 ((((bkc X Y known n (b + 1) (p, q) []).2.1 : Nat) : Int)), vd, .int .i64 ((bkc X Y known n (b + 1) (p, q) []).2.2.1), .int .i64 ((bkc X Y known n (b + 1) (p, q) []).2.2.2)]]
         refine Run.p (tv3) rfl rfl ?_
         refine Run.done ?_
         refine Run.blockEnd ?_
         refine Run.region ?_
         refine Run.y (.int .i64 ((((i : Nat) : Int)) + 1)) rfl (OpY.add rfl rfl rfl (by omega) (by omega)) ?_
         refine Run.p (.int .i64 ((((i : Nat) : Int)) + 1)) rfl rfl ?_
         refine Run.done ?_
         refine Run.goal ⟨(by repeat (first | exact Same.refl _ _ | refine Same.put rfl ?_ | refine Same.over rfl rfl ?_)), (i + 1, (trim ((o2 ++ ((bkc X Y known n (b + 1) (p, q) []).1)))), tv3), ?_, ?_, ?_, ?_⟩
         ·refine ⟨by omega, ?_, trim_len _⟩
          have h := hinv.2.1
          rw [show x.num.toNat - i = (x.num.toNat - (i + 1)) + 1 by omega, repT] at h
          exact h
         ·show x.num.toNat - (i + 1) < x.num.toNat - i; omega
         ·exact ⟨(by first | rfl | (congr 1; omega) | simp), (by first | rfl | (congr 1; omega) | simp), trivial⟩
         ·exact ((Weak.refl _).trans (Some'.weak (.takeEq (by first | rfl | simp) (.takeEq (by first | rfl | simp) (.take (.nil _))))))
        ·have p76 := h76; try simp only [bs] at p76
         obtain ⟨hi1, hi2, hi3⟩ := hinv
         have hinv := And.intro hi1 (And.intro hi2 hi3)
         have hix : x.num.toNat - i = 0 := by omega
         rw [hix, repT] at hi2
         have hgo3 := hgo
         rw [← hi2] at hgo3
         refine Run.exit rfl ?_
         refine Run.exit rfl ?_
         refine Run.goal ⟨(by repeat (first | exact Same.refl _ _ | refine Same.put rfl ?_ | refine Same.over rfl rfl ?_)), ((bkc X Y known n (b + 1) (p, q) []).2.1, (bkc X Y known n (b + 1) (p, q) []).2.2.1, (bkc X Y known n (b + 1) (p, q) []).2.2.2, o2, vo2), ?_, ?_, ?_, ?_⟩
         ·exact ⟨by first | omega | (have := bkc_le X Y known n (b + 1) (p, q) []; omega), by first | omega | exact hsN, by first | exact hgo | exact hgo3, by first | exact trim_len _ | exact hlo | exact hinv.2.2⟩
         ·have := bkc_le X Y known n (b + 1) (p, q) []
          show N - _ < N - b; omega
         ·exact ⟨(by first | rfl | (congr 1; omega) | simp), trivial⟩
         ·exact ((Weak.selF [0, 1]).trans (Some'.weak (.takeEq (by first | rfl | simp) (.takeEq (by first | rfl | simp) (.nil _)))))
      ·have p60 := h60; try simp only [bs] at p60
       rw [if_neg p60] at hgo
       refine Run.skip ?_
       refine Run.blockEnd ?_
       refine Run.sr ?_
       refine Run.p (vo) rfl rfl ?_
       refine Run.step rfl (OpStep.callM (H1 := [.own vo 69 3 (out.length) (ints (fl out))]) (H2 := [.blk b2 95 [sv (x.word), .int .i64 (x.kind), sv (x.nm), .int .i64 (x.num), .slice Aq (x.qs.length) cq], .blk r 91 [.slice (some ⟨bl, ol, none⟩) N cl, .int .i64 (((b : Nat) : Int)), vd, .int .i64 p, .int .i64 q]]) (vs := [vo]) (caps := []) Tcall_110 rfl rfl (Weak.selF [1]) (fun w hs => tooMany_spec rfl (hs.holds _ (.head _))) ?_)
       rintro tv4 _ rfl
       show Run _ _ (putF _ _ _ tv4) [.own tv4 69 3 ((trim out).length) (ints (fl (trim out))), .blk b2 95 [sv (x.word), .int .i64 (x.kind), sv (x.nm), .int .i64 (x.num), .slice Aq (x.qs.length) cq], .blk r 91 [.slice (some ⟨bl, ol, none⟩) N cl, .int .i64 (((b : Nat) : Int)), vd, .int .i64 p, .int .i64 q]]
       refine Run.p (tv4) rfl rfl ?_
       refine Run.dr ?_
       refine Run.p (.pointer (some ⟨r, 0, none⟩)) rfl rfl ?_
       refine Run.y (.pointer (some ⟨r, 0, none⟩)) rfl (OpY.nilCheck rfl) ?_
       refine Run.y (.pointer (some ⟨r, 1, none⟩)) rfl (OpY.fieldAddr Tfo_91_1 rfl rfl) ?_
       refine Run.y (.int .i64 (((b : Nat) : Int))) rfl (OpY.load1 Tone_3 rfl (Cells.blk (.tail _ (.tail _ (List.Mem.head _))) ⟨rfl, trivial⟩)) ?_
       refine Run.y (.int .i64 ((((b : Nat) : Int)) + 1)) rfl (OpY.add rfl rfl rfl (by omega) (by omega)) ?_
       refine Run.y (.pointer (some ⟨r, 0, none⟩)) rfl (OpY.nilCheck rfl) ?_
       refine Run.y (.pointer (some ⟨r, 1, none⟩)) rfl (OpY.fieldAddr Tfo_91_1 rfl rfl) ?_
       refine Run.step rfl (OpStep.store (us := [.int .i64 ((((b : Nat) : Int)) + 1)]) Tsize_3 rfl rfl rfl (.there _ (.there _ (.here _))) (by simp only [List.length_cons, List.length_nil]; omega) ?_)
       show Run _ _ _ [.own tv4 69 3 ((trim out).length) (ints (fl (trim out))), .blk b2 95 [sv (x.word), .int .i64 (x.kind), sv (x.nm), .int .i64 (x.num), .slice Aq (x.qs.length) cq], .blk r 91 [.slice (some ⟨bl, ol, none⟩) N cl, .int .i64 ((((b : Nat) : Int)) + 1), vd, .int .i64 p, .int .i64 q]]
       refine Run.done ?_
       refine Run.blockEnd ?_
       refine Run.goal ⟨(by repeat (first | exact Same.refl _ _ | refine Same.put rfl ?_ | refine Same.over rfl rfl ?_)), (b + 1, p, q, (trim out), tv4), ?_, ?_, ?_, ?_⟩
       ·exact ⟨by first | omega | (have := bkc_le X Y known n (b + 1) (p, q) []; omega), by first | omega | exact hsN, by first | exact hgo | exact hgo3, by first | exact trim_len _ | exact hlo | exact hinv.2.2⟩
       ·have := bkc_le X Y known n (b + 1) (p, q) []
        show N - _ < N - b; omega
       ·exact ⟨(by first | rfl | (congr 1; omega) | simp), trivial⟩
       ·exact ((Weak.selF [0, 1]).trans (Some'.weak (.takeEq (by first | rfl | simp) (.takeEq (by first | rfl | simp) (.nil _)))))
  ·have p20 := h20; try simp only [bs] at p20
   obtain ⟨hab, hbN, hgo, hlo⟩ := hinv
   rw [bkc_end (by omega)] at hgo
   refine Run.exit rfl ?_
   refine Run.sr ?_
   refine Run.p (vo) rfl rfl ?_
   refine Run.p (vo) rfl rfl ?_
   refine Run.done ?_
   refine Run.ret ?_
   refine ⟨vo, [.own vo 69 3 (Z.1.length) (ints (fl Z.1)), .blk r 91 [.slice Al N cl, .int .i64 (((Z.2.1 : Nat) : Int)), vd, .int .i64 (Z.2.2.1), .int .i64 (Z.2.2.2)]], Out.one rfl rfl, (Some'.weak (.takeEq (by first | (rw [← hgo]; done) | (rw [← hgo]; simp)) (.takeEq (by first | (rw [← hgo]; done) | (rw [← hgo]; simp)) (.nil _)))), ?_⟩
   rfl


theorem blkStmt_all (d : Nat) : BlkStmt d := by
  induction d using Nat.strongRecOn with
  | _ d ih =>
    intro r vl vd a N dn known n c1 l1 L D w hd0 hn hN hl hLq hcx hd hD hval hD401 hk haN h
    exact block_step d ih hd0 hn hN hl hLq hcx hd hD hval hD401 hk haN h

end Go.Proofs.YtgpkpopbajkklaaGreatDoor
