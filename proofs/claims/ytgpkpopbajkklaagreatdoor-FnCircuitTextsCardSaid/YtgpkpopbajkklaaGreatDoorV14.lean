/- Plain: texts of circuits are read back. -/
import Derived.Test.YtgpkpopbajkklaaGreatDoorV13
import Derived.Test.YtgpkpopbajkklaaGreatDoorV12
import Derived.Test.YtgpkpopbajkklaaGreatDoorProg
import Derived.Test.YtgpkpopbajkklaaGreatDoorV2
import Derived.Test.YtgpkpopbajkklaaGreatDoorV3
import Derived.Test.YtgpkpopbajkklaaGreatDoorV5
set_option linter.unusedSimpArgs false
set_option linter.unusedVariables false
namespace Go.Proofs.YtgpkpopbajkklaaGreatDoor
open Go Go.RowKit
/-- The line of a gate. -/
def lgt (g : G3) : Li := .gate g.1 (qs g.1 g.2.1 g.2.2)
def nl10 (l : Bs) : Bool := l.all fun b => b != 10
theorem nl10_mem {l : Bs} (h : nl10 l = true) : (10 : UInt8) ∉ l := by
  intro hm
  have := List.all_eq_true.1 h 10 hm
  simp at this
set_option maxRecDepth 100000 in
theorem gate_all : ∀ k : Fin 13, ∀ a : Fin 5, ∀ b : Fin 5, gateOk 5 ((k.val : Nat) : Int) ((a.val : Nat) : Int) ((b.val : Nat) : Int) = true → lineB (gtx (((k.val : Nat) : Int), ((a.val : Nat) : Int), ((b.val : Nat) : Int))) = some (lgt (((k.val : Nat) : Int), ((a.val : Nat) : Int), ((b.val : Nat) : Int))) ∧ nl10 (gtx (((k.val : Nat) : Int), ((a.val : Nat) : Int), ((b.val : Nat) : Int))) = true := by decide +kernel
theorem gate_line {g : G3} (h : gateOk 5 g.1 g.2.1 g.2.2 = true) : lineB (gtx g) = some (lgt g) ∧ nl10 (gtx g) = true := by
  obtain ⟨k, a, b⟩ := g
  simp only at h
  have h1 := gateOk_split h
  obtain ⟨k', rfl⟩ : ∃ q : Nat, k = ((q : Nat) : Int) := ⟨k.toNat, by omega⟩
  obtain ⟨a', rfl⟩ : ∃ q : Nat, a = ((q : Nat) : Int) := ⟨a.toNat, by omega⟩
  obtain ⟨b', rfl⟩ : ∃ q : Nat, b = ((q : Nat) : Int) := ⟨b.toNat, by omega⟩
  exact gate_all ⟨k', by omega⟩ ⟨a', by omega⟩ ⟨b', by omega⟩ h
set_option maxRecDepth 100000 in
theorem rep_all : ∀ c : Fin 100, 2 ≤ c.val → lineB ((wRs ++ nd c.val) ++ [32, 123]) = some (.rep ((c.val : Nat) : Int)) ∧ nl10 ((wRs ++ nd c.val) ++ [32, 123]) = true := by decide +kernel
set_option maxRecDepth 100000 in
theorem qb_all : ∀ n : Fin 6, 1 ≤ n.val → lineB (wQs ++ nd n.val) = some (.qb ((n.val : Nat) : Int)) ∧ nl10 (wQs ++ nd n.val) = true := by decide +kernel
theorem cl_line : lineB [125] = some .cl ∧ nl10 [125] = true := by decide +kernel
/-- The lines of a text of gates and repeats: as strings, as lines, as gates. -/
inductive Txt (N : Int) : List Bs → List Li → List G3 → Prop
  | nil : Txt N [] [] []
  | gate {g : G3} {P : List Bs} {X : List Li} {L : List G3} (h : gateOk N g.1 g.2.1 g.2.2 = true) (ht : Txt N P X L) : Txt N (gtx g :: P) (lgt g :: X) (g :: L)
  | rep {c : Nat} {B : List G3} {P : List Bs} {X : List Li} {L : List G3} (h1 : 2 ≤ c) (h2 : c ≤ 99) (hB : GsOk N B) (ht : Txt N P X L) : Txt N (((wRs ++ nd c) ++ [32, 123]) :: (B.map gtx ++ [125] :: P)) (.rep ((c : Nat) : Int) :: (B.map lgt ++ .cl :: X)) (repF B c ++ L)
/-- Lines joined. -/
def jn (P : List Bs) : Bs := P.flatMap fun l => l ++ [10]
theorem jn_cons (l : Bs) (P : List Bs) : jn (l :: P) = (l ++ [10]) ++ jn P := by simp [jn]
theorem jn_append (P Q : List Bs) : jn (P ++ Q) = jn P ++ jn Q := by simp [jn]
theorem jn_gates (L : List G3) : jn (L.map gtx) = gls L := by simp [jn, gls, List.flatMap_map]
theorem jn_split : ∀ {P : List Bs}, (∀ l ∈ P, nl10 l = true) → splitC 10 (jn P) = P ++ [[]]
  | [], _ => rfl
  | l :: P, h => by
    rw [jn_cons, List.append_assoc, List.singleton_append, splitC_hit (nl10_mem (h l (by simp))), jn_split fun x hx => h x (by simp [hx])]
    rfl
theorem jn_suffix {P : List Bs} (h : P ≠ []) : [10].isSuffixOf (jn P) = true := by
  rw [List.isSuffixOf_iff_suffix]
  obtain ⟨l, hl⟩ : ∃ l, P.getLast? = some l := by
    cases hP : P.getLast? with
    | none => exact absurd (List.getLast?_eq_none_iff.1 hP) h
    | some l => exact ⟨l, rfl⟩
  obtain ⟨Q, hQ⟩ := List.getLast?_eq_some_iff.1 hl
  subst hQ
  exact ⟨jn Q ++ l, by rw [jn_append]; simp [jn]⟩
theorem Txt.lines {N : Int} {P : List Bs} {X : List Li} {L : List G3} (h : Txt N P X L) (hN : N ≤ 5) : P.map lineB = X.map some ∧ (∀ l ∈ P, nl10 l = true) ∧ ∀ x ∈ X, x.word ≠ wQ ∧ x.word ≠ wD := by
  have hw : ∀ g : G3, (lgt g).word ≠ wQ ∧ (lgt g).word ≠ wD := fun g => ⟨show wG ≠ wQ by decide, show wG ≠ wD by decide⟩
  induction h with
  | nil => exact ⟨rfl, fun _ h => (nomatch h), fun _ h => (nomatch h)⟩
  | @gate g P X L h ht ih =>
    obtain ⟨h1, h2, h3⟩ := ih
    obtain ⟨g1, g2⟩ := gate_line (gateOk_five h hN)
    refine ⟨by rw [List.map_cons, List.map_cons, g1, h1], fun l hl => ?_, fun x hx => ?_⟩
    · rcases List.mem_cons.1 hl with e | e
      · rw [e]; exact g2
      · exact h2 l e
    · rcases List.mem_cons.1 hx with e | e
      · rw [e]; exact hw g
      · exact h3 x e
  | @rep c B P X L h1 h2 hB ht ih =>
    obtain ⟨e1, e2, e3⟩ := ih
    obtain ⟨r1, r2⟩ := rep_all ⟨c, by omega⟩ h1
    have hBl : (B.map gtx).map lineB = (B.map lgt).map some := by
      rw [List.map_map, List.map_map]
      exact List.map_congr_left fun g hg => (gate_line (gateOk_five (hB g hg) hN)).1
    refine ⟨?_, fun l hl => ?_, fun x hx => ?_⟩
    · rw [List.map_cons, List.map_cons, List.map_append, List.map_append, List.map_cons, List.map_cons, hBl, e1, cl_line.1]
      rw [show lineB ((wRs ++ nd c) ++ [32, 123]) = some (.rep ((c : Nat) : Int)) from r1]
    · rcases List.mem_cons.1 hl with e | e
      · rw [e]; exact r2
      · rcases List.mem_append.1 e with e | e
        · obtain ⟨g, hg, rfl⟩ := List.mem_map.1 e
          exact (gate_line (gateOk_five (hB g hg) hN)).2
        · rcases List.mem_cons.1 e with e | e
          · rw [e]; exact cl_line.2
          · exact e2 l e
    · rcases List.mem_cons.1 hx with e | e
      · rw [e]; exact ⟨show wR ≠ wQ by decide, show wR ≠ wD by decide⟩
      · rcases List.mem_append.1 e with e | e
        · obtain ⟨g, hg, rfl⟩ := List.mem_map.1 e
          exact hw g
        · rcases List.mem_cons.1 e with e | e
          · rw [e]; exact ⟨show wE ≠ wQ by decide, show wE ≠ wD by decide⟩
          · exact e3 x e
/-! ### Blocks are right -/
theorem fb_gates {Y : List Li} {st : List Int} : ∀ (B : List G3) (num : Int) (on : Bool), ∃ num' on', fbGo (B.map lgt ++ Y) num st on = fbGo Y num' st on'
  | [], num, on => ⟨num, on, rfl⟩
  | g :: B, num, on => by
    obtain ⟨n', o', h⟩ := fb_gates B (num + 1) (on && decide (0 < st.length)) (Y := Y) (st := st)
    refine ⟨n', o', ?_⟩
    rw [List.map_cons, List.cons_append, fbGo]
    rw [if_neg (show ¬ (lgt g).word = wE from show ¬ wG = wE by decide), if_neg (show ¬ (lgt g).word = wD from show ¬ wG = wD by decide), if_neg (show ¬ (lgt g).word = wR from show ¬ wG = wR by decide)]
    exact h
theorem Txt.blocks {N : Int} {P : List Bs} {X : List Li} {L : List G3} (h : Txt N P X L) : ∀ (num : Int) (on : Bool), fbGo X num [] on = 0 := by
  induction h with
  | nil => intro _ _; rfl
  | @gate g P X L h ht ih =>
    intro num on
    rw [fbGo, if_neg (show ¬ (lgt g).word = wE from show ¬ wG = wE by decide), if_neg (show ¬ (lgt g).word = wD from show ¬ wG = wD by decide), if_neg (show ¬ (lgt g).word = wR from show ¬ wG = wR by decide)]
    exact ih _ _
  | @rep c B P X L h1 h2 hB ht ih =>
    intro num on
    rw [fbGo, if_neg (show ¬ (Li.rep ((c : Nat) : Int)).word = wE from show ¬ wR = wE by decide), if_neg (show ¬ (Li.rep ((c : Nat) : Int)).word = wD from show ¬ wR = wD by decide), if_pos (show (Li.rep ((c : Nat) : Int)).word = wR from rfl)]
    obtain ⟨n', o', e⟩ := fb_gates B (num + 1) (on && decide (0 < ([] : List Int).length)) (Y := .cl :: X) (st := [] ++ [num])
    rw [e, fbGo, if_pos (show Li.cl.word = wE from rfl), if_neg (by simp)]
    exact ih _ _
/-! ### The gates are read -/
theorem drop_cons' {xs r : List Li} {x : Li} {a : Nat} (h : xs.drop a = x :: r) : a < xs.length ∧ liAt xs a = x ∧ xs.drop (a + 1) = r := by
  have hl : a < xs.length := by
    refine Decidable.byContradiction fun hc => ?_
    rw [List.drop_eq_nil_iff.2 (by omega)] at h; cases h
  rw [drop_li hl] at h
  injection h with h1 h2
  exact ⟨hl, h1, h2⟩
theorem gate_back {n : Int} {g : G3} (h : gateOk n g.1 g.2.1 g.2.2 = true) : gateG g.1 (qs g.1 g.2.1 g.2.2) = g := by
  obtain ⟨k, a, b⟩ := g
  have h1 := gateOk_split h
  simp only at h1
  show gateG k (qs k a b) = (k, a, b)
  unfold qs
  split
  · rename_i hk; subst hk
    have ha : a = 0 := by omega
    have hb : b = 0 := by omega
    subst ha; subst hb; rfl
  · split
    · rfl
    · have hb : b = 0 := by omega
      subst hb; rfl
theorem bkc_gates {xs : List Li} {D : List Df} {known : Nat} {n : Int} {p : Int × Int} {Y : List Li} : ∀ {B : List G3} {a : Nat} {out : List G3}, xs.drop a = B.map lgt ++ Y → GsOk n B → out.length + B.length ≤ 400 → bkc xs D known n a p out = bkc xs D known n (a + B.length) p (out ++ B)
  | [], a, out, _, _, _ => by simp
  | g :: B, a, out, hd, hB, hl => by
    rw [List.map_cons, List.cons_append] at hd
    obtain ⟨h1, h2, h3⟩ := drop_cons' hd
    simp only [List.length_cons] at hl
    have hg := hB g (by simp)
    have hgp : gateP n g.1 (qs g.1 g.2.1 g.2.2) a p = ([g], p) := by rw [gateP, gate_back hg, if_pos hg]
    rw [bkc_eq h1, h2, if_neg (show ¬ (lgt g).word = wE from show ¬ wG = wE by decide), if_pos (show (lgt g).word = wG from rfl)]
    rw [show (lgt g).kind = g.1 from rfl, show (lgt g).qs = qs g.1 g.2.1 g.2.2 from rfl, hgp, trim_id (by simp; omega), bkc_gates (B := B) h3 (fun x hx => hB x (by simp [hx])) (by simp; omega)]
    rw [List.append_assoc, List.length_cons, show a + 1 + B.length = a + (B.length + 1) by omega]
    rfl
theorem repF_len (B : List G3) (m : Nat) : (repF B m).length = m * B.length := by
  induction m with
  | zero => simp [repF]
  | succ m ih => rw [repF_succ, List.length_append, ih, Nat.succ_mul]; omega
theorem repT_eq {B : List G3} : ∀ {m : Nat} {out : List G3}, out.length + m * B.length ≤ 400 → repT B m out = out ++ repF B m
  | 0, out, _ => by simp [repT, repF]
  | m + 1, out, h => by
    rw [Nat.succ_mul] at h
    rw [repT, trim_id (by rw [List.length_append]; omega), repT_eq (by rw [List.length_append]; omega), repF_succ, List.append_assoc]
theorem Txt.read {n : Int} {P : List Bs} {X : List Li} {L : List G3} (h : Txt n P X L) {xs : List Li} {D : List Df} {known : Nat} {p : Int × Int} : ∀ {a : Nat} {out : List G3}, xs.drop a = X → out.length + L.length ≤ 400 → (bkc xs D known n a p out).1 = out ++ L ∧ (bkc xs D known n a p out).2.2 = p := by
  induction h with
  | nil =>
    intro a out hd _
    rw [bkc_end (by have := List.drop_eq_nil_iff.1 hd; omega)]
    exact ⟨by simp, rfl⟩
  | @gate g P X L h ht ih =>
    intro a out hd hl
    have h1 := bkc_gates (xs := xs) (D := D) (known := known) (n := n) (p := p) (Y := X) (B := [g]) (a := a) (out := out) hd (fun x hx => by rw [List.mem_singleton.1 hx]; exact h) (by simp at hl ⊢; omega)
    rw [h1]
    have h2 := ih (a := a + 1) (out := out ++ [g]) (drop_cons' hd).2.2 (by simp at hl ⊢; omega)
    rw [List.append_assoc] at h2
    exact h2
  | @rep c B P X L hc1 hc2 hB ht ih =>
    intro a out hd hl
    rw [List.length_append, repF_len] at hl
    have hcB : B.length ≤ c * B.length := Nat.le_mul_of_pos_left _ (by omega)
    obtain ⟨h1, h2, h3⟩ := drop_cons' hd
    have h4 := bkc_gates (xs := xs) (D := D) (known := known) (n := n) (p := p) (out := []) h3 hB (by simp; omega)
    have h5 : xs.drop (a + 1 + B.length) = .cl :: X := by
      rw [← List.drop_drop, h3, List.drop_left' (by simp)]
    obtain ⟨g1, g2, g3⟩ := drop_cons' h5
    rw [bkc_eq g1, g2, if_pos (show Li.cl.word = wE from rfl), List.nil_append] at h4
    rw [bkc_eq h1, h2, if_neg (show ¬ (Li.rep ((c : Nat) : Int)).word = wE from show ¬ wR = wE by decide), if_neg (show ¬ (Li.rep ((c : Nat) : Int)).word = wG from show ¬ wR = wG by decide), if_neg (show ¬ (Li.rep ((c : Nat) : Int)).word = wC from show ¬ wR = wC by decide), if_pos (show (Li.rep ((c : Nat) : Int)).word = wR from rfl), h4]
    simp only
    rw [show (Li.rep ((c : Nat) : Int)).num.toNat = c from Int.toNat_natCast c, repT_eq (by omega)]
    have h6 := ih (a := a + 1 + B.length + 1) (out := out ++ repF B c) g3 (by rw [List.length_append, repF_len]; omega)
    rw [List.append_assoc] at h6
    exact h6
/-! ### The whole text -/
theorem map_some_at {P : List Bs} {X : List Li} (h : P.map lineB = X.map some) {i : Nat} (hi : i < P.length) : lineB (stx P i) = some (liAt X i) := by
  have hl : P.length = X.length := by have := congrArg List.length h; simpa using this
  have h1 : (P.map lineB)[i]? = (X.map some)[i]? := by rw [h]
  rw [List.getElem?_map, List.getElem?_map, List.getElem?_eq_getElem hi, List.getElem?_eq_getElem (show i < X.length by omega)] at h1
  simp only [Option.map_some, Option.some.injEq] at h1
  simp only [stx, liAt, List.getD, List.getElem?_eq_getElem hi, List.getElem?_eq_getElem (show i < X.length by omega), Option.getD_some]
  exact h1
theorem rt_txt {N : Int} {P : List Bs} {X : List Li} {L : List G3} (h : Txt N P X L) (hN : 1 ≤ N ∧ N ≤ 5) (hL : L.length ≤ 400) (h8 : (hdT N ++ jn P).length ≤ 8000) : rt (hdT N ++ jn P) = ((0, 0), N, L, []) := by
  obtain ⟨m, rfl⟩ : ∃ m : Nat, N = ((m : Nat) : Int) := ⟨N.toNat, by omega⟩
  obtain ⟨q1, q2⟩ := qb_all ⟨m, by omega⟩ (show 1 ≤ m by omega)
  obtain ⟨t1, t2, t3⟩ := h.lines hN.2
  have hs : hdT ((m : Nat) : Int) ++ jn P = jn ((wQs ++ nd m) :: P) := by rw [jn_cons, hdT, Int.toNat_natCast]
  rw [hs] at h8 ⊢
  obtain ⟨Q, hQ⟩ : ∃ Q, (wQs ++ nd m) :: P = Q := ⟨_, rfl⟩
  obtain ⟨Y, hY⟩ : ∃ Y, Li.qb ((m : Nat) : Int) :: X = Y := ⟨_, rfl⟩
  have hQY : Q.map lineB = Y.map some := by rw [← hQ, ← hY, List.map_cons, List.map_cons, t1]; congr 1
  have hQn : ∀ l ∈ Q, nl10 l = true := by
    intro l hl
    rw [← hQ] at hl
    rcases List.mem_cons.1 hl with e | e
    · rw [e]; exact q2
    · exact t2 l e
  rw [hQ] at h8 ⊢
  have hQl : Q.length = Y.length := by have := congrArg List.length hQY; simpa using this
  have hQ0 : Q ≠ [] := by rw [← hQ]; simp
  have hsuf := jn_suffix hQ0
  have hpc : piecesP (jn Q) = Q := by
    have h1 := pieces_nl hsuf
    rw [jn_split hQn] at h1
    exact (List.append_cancel_right h1).symm
  have hne : jn Q ≠ [] := by intro e; rw [e] at hsuf; simp at hsuf
  have hat : ∀ i, i < Q.length → lnAt i (stx Q i) = some (liAt Y i) := by
    intro i hi
    refine lnAt_ok (map_some_at hQY hi) ?_
    rw [← hY]
    cases i with
    | zero => rfl
    | succ i =>
      have h1 : liAt (Li.qb ((m : Nat) : Int) :: X) (i + 1) = liAt X i := by simp [liAt, List.getD]
      have h2 : i < X.length := by rw [← hY] at hQl; simp at hQl; omega
      rw [h1]
      have h3 := (t3 (liAt X i) (by simp [liAt, List.getD, h2])).1
      rw [beq_eq_false_iff_ne.2 h3]; rfl
  have hflt : fltL (piecesP (jn Q)) = 0 := by
    rw [hpc, fltL, findI_none fun i hi => by rw [badAt, hat i hi]; rfl]; rfl
  have hln : lnsP (jn Q) = Y := by
    rw [lnsP, hpc]
    refine List.ext_getElem (by simp [hQl]) fun i h1 h2 => ?_
    rw [lns_length] at h1
    simp only [lns, List.getElem_map, List.getElem_range, hat i h1, Option.getD_some]
    simp [liAt, List.getD, h2]
  have hfb : ¬ 0 < fbL (lnsP (jn Q)) := by
    rw [hln, fbL, ← hY, List.drop_succ_cons, List.drop_zero, h.blocks]; decide
  have hrn : rnc Y 1 (0, 0) [] = ([], 1, (0, 0)) := by
    refine rnc_end fun ⟨h1, h2⟩ => ?_
    rw [← hY] at h1 h2
    have h3 : 0 < X.length := by simp at h1; omega
    have h4 : liAt (Li.qb ((m : Nat) : Int) :: X) 1 = liAt X 0 := by simp [liAt, List.getD]
    rw [h4] at h2
    exact (t3 (liAt X 0) (by simp [liAt, List.getD, h3])).2 h2
  have hnum : (liAt Y 0).num = ((m : Nat) : Int) := by rw [← hY]; rfl
  have hrd := h.read (xs := Y) (D := []) (known := 0) (p := (0, 0)) (a := 1) (out := []) (by rw [← hY]; rfl) (by simpa using hL)
  rw [List.nil_append] at hrd
  have hrun : runL (lnsP (jn Q)) = ([], L, (0, 0)) := by
    rw [hln, runL, hrn, hnum]
    simp only [List.length_nil]
    rw [hrd.1, hrd.2]
  have hsz : szP (allD (lnsP (jn Q))) (runL (lnsP (jn Q))).2.2 = (0, 0) := by
    rw [allD, hrun]
    refine szP_ok _ fun d hd => ?_
    simp only [List.nil_append, List.mem_singleton] at hd
    subst hd; exact hL
  rw [rtC4 (by rintro (e | e | e)
               · exact hne e
               · omega
               · rw [hsuf] at e; cases e) (by rw [hflt]; decide) hfb hsz, if_pos rfl, hrun, hln, hnum]
theorem txt_gates {N : Int} : ∀ {L : List G3}, GsOk N L → Txt N (L.map gtx) (L.map lgt) L
  | [], _ => .nil
  | g :: L, h => .gate (h g (by simp)) (txt_gates fun x hx => h x (by simp [hx]))
theorem repF_snoc (B : List G3) (m : Nat) : repF B (m + 1) = repF B m ++ B := by
  rw [repF, List.replicate_succ', List.flatten_append]; simp [repF]
theorem tms_take {L : List G3} {m : Nat} : ∀ j, 1 ≤ j → j ≤ tms L m → (1 < j → j * m ≤ L.length) → L.take (j * m) = repF (L.take m) j
  | 0, h, _, _ => by omega
  | 1, _, _, _ => by simp [repF]
  | j + 2, _, h, hl => by
    have h1 := tmB_iff ((tms_prop L m).2.2 (j + 1) (by omega) (by omega))
    have h2 : (j + 2) * m = (j + 1) * m + m := Nat.succ_mul (j + 1) m
    have h3 := h1.1
    rw [show j + 1 + 1 = j + 2 by omega, h2] at h3
    rw [repF_snoc, ← tms_take (j + 1) (by omega) (by omega) (by omega), h2, List.take_add]
    congr 1
    refine List.ext_getElem (by simp; omega) fun i g1 g2 => ?_
    have h4 := of_decide_eq_true (allI_iff.1 h1.2.2 i (by simp at g2; omega))
    simp only [List.length_take] at g2
    rw [List.getElem_take, List.getElem_take, List.getElem_drop]
    simpa [gx, List.getD, show (j + 1) * m + i < L.length by omega, show i < L.length by omega] using h4
theorem fdc_txt {N : Int} : ∀ (d : Nat) (R : List G3), R.length = d → GsOk N R → ∃ P X, Txt N P X R ∧ jn P = fdc R := by
  intro d
  induction d using Nat.strongRecOn with
  | _ d ih =>
    intro R hd hR
    by_cases h0 : R.length = 0
    · have : R = [] := List.length_eq_zero_iff.1 h0
      subst this
      exact ⟨[], [], .nil, by rw [fdc_nil rfl]; rfl⟩
    · obtain ⟨b, c, hbc⟩ : ∃ b c, bslF R = (b, c) := ⟨_, _, rfl⟩
      rcases bsl_z (L := R) (j := min 8 R.length) hbc with hz | hz
      · obtain ⟨g, R', rfl⟩ : ∃ g R', R = g :: R' := by
          cases R with
          | nil => simp at h0
          | cons g R' => exact ⟨g, R', rfl⟩
        obtain ⟨P, X, h1, h2⟩ := ih R'.length (by simp at hd; omega) R' rfl fun x hx => hR x (by simp [hx])
        refine ⟨_, _, .gate (hR g (by simp)) h1, ?_⟩
        rw [fdc_one h0 (by rw [hbc]) hz.2, jn_cons, h2]
        simp [gls]
      · have hB : GsOk N (R.take b) := hR.take b
        obtain ⟨P, X, h1, h2⟩ := ih (R.drop (b * c)).length (by rw [List.length_drop]; omega) _ rfl (hR.drop _)
        have h3 : repF (R.take b) c ++ R.drop (b * c) = R := by
          rw [← tms_take (L := R) (m := b) c (by omega) (by omega) (fun _ => by rw [Nat.mul_comm]; omega), Nat.mul_comm c b, List.take_append_drop]
        have h4 := Txt.rep (c := c) hz.2.2.1 hz.2.2.2.1 hB h1
        rw [h3] at h4
        refine ⟨_, _, h4, ?_⟩
        rw [fdc_rep h0 hbc (by omega), jn_cons, jn_append, jn_gates, jn_cons, h2, rpT]
        simp
theorem rt_cfm {N : Int} {L : List G3} {n : Nat} (hn : L.length = n) (h : circOk N (fl L) n = true) : rt (cfm N L) = ((0, 0), N, L, []) := by
  have hN := circOk_N h
  have h4 := circOk_n h
  have h1 := rt_txt (txt_gates (circ_gs hn h)) hN (by omega) (by
    rw [jn_gates, List.length_append]
    have := hdT_len N
    have := gls_len L
    omega)
  rw [jn_gates] at h1
  exact h1
theorem rt_fdT {N : Int} {L : List G3} {n : Nat} (hn : L.length = n) (h : fdB N L n = true) : rt (fdO N L n) = ((0, 0), N, L, []) := by
  have e : fdO N L n = fdT N L := if_pos h
  rw [e]
  rw [fdB, Bool.and_eq_true, decide_eq_true_eq] at h
  have hN := circOk_N h.1
  have h4 := circOk_n h.1
  obtain ⟨P, X, h1, h2⟩ := fdc_txt _ L rfl (circ_gs hn h.1)
  have h3 := rt_txt h1 hN (by omega) (by rw [h2]; have := h.2; rw [fdT] at this; omega)
  rw [h2] at h3
  exact h3
theorem rt_nil : rt [] = ((1, 0), 0, [], []) := rtC1 (.inl rfl)

end Go.Proofs.YtgpkpopbajkklaaGreatDoor
/- Walks: the generator of draws. -/
set_option linter.unusedSimpArgs false
set_option linter.unusedVariables false
namespace Go.Proofs.YtgpkpopbajkklaaGreatDoor
open Go Go.RowKit
namespace DrT
theorem Tcall_71 : callable Tryz.prog 71 = true := by kernel_rfl
theorem Tcall_97 : callable Tryz.prog 97 = true := by kernel_rfl
theorem Tfo_73_0 : fieldOff Tryz.prog 73 0 = some 0 := by kernel_rfl
theorem Tfo_73_1 : fieldOff Tryz.prog 73 1 = some 1 := by kernel_rfl
theorem Tfo_73_2 : fieldOff Tryz.prog 73 2 = some 2 := by kernel_rfl
theorem Tint_3 : Tryz.prog.underlying 3 = some (.int .i64) := by kernel_rfl
theorem Tint_71 : Tryz.prog.underlying 71 = some (.int .u64) := by kernel_rfl
theorem Tone_3 : oneOf Tryz.prog 3 = true := by kernel_rfl
theorem Tone_30 : oneOf Tryz.prog 30 = true := by kernel_rfl
theorem Tone_5 : oneOf Tryz.prog 5 = true := by kernel_rfl
theorem Tone_71 : oneOf Tryz.prog 71 = true := by kernel_rfl
theorem Tsize_3 : (Tryz.prog.info? 3).map (·.size) = some 1 := by kernel_rfl
theorem Tsize_71 : (Tryz.prog.info? 71).map (·.size) = some 1 := by kernel_rfl
theorem Tsl_30 : sliceOf Tryz.prog 30 = some (5, 1, 1, [.int .u8 0]) := by kernel_rfl
theorem Tsl_75 : sliceOf Tryz.prog 75 = some (3, 1, 8, [.int .i64 0]) := by kernel_rfl
theorem Tsome_3 : (Tryz.prog.underlying 3).isSome = true := by kernel_rfl
theorem Tsome_5 : (Tryz.prog.underlying 5).isSome = true := by kernel_rfl
theorem Tsome_71 : (Tryz.prog.underlying 71).isSome = true := by kernel_rfl
end DrT
open DrT
/-- Bytes as cells. -/
def u8s (cs : List Int) : List Value := cs.map (Value.int .u8)
theorem preB {cs : List Int} {i : Nat} (h : i < cs.length) : Pre (u8s cs) i [.int .u8 (ix cs i)] := ⟨by simp [u8s, ix, List.getD, h], trivial⟩
/-- The bytes from which is drawn; they do not lie in the generator's own block. -/
structure Cur (w : World) (bc : Nat) (vc : Value) (n : Nat) (cs : List Int) : Prop where
  sl : Sl w vc 1 n (u8s cs)
  off : 0 < n → ∀ k, vc.ownBlock = some k → k ≠ bc
  by_ : ∀ x ∈ cs, 0 ≤ x ∧ x < 256
theorem Cur.go {w0 w : World} {bc : Nat} {vc : Value} {n : Nat} {cs : List Int} {t : TypeId} {us : List Value} {H : List Res} (h : Cur w0 bc vc n cs) (hs : St (Of [.blk bc t us]) w0 w H) : Cur w bc vc n cs :=
  ⟨hs.slOff h.sl fun h0 k hk ⟨r, hr, hrk⟩ => by
    simp only [List.mem_singleton] at hr; subst hr
    exact h.off h0 k hk hrk.symm, h.off, h.by_⟩
theorem Cur.lt {w : World} {bc : Nat} {vc : Value} {n : Nat} {cs : List Int} (h : Cur w bc vc n cs) (h0 : 0 < n) {k : Nat} (hk : vc.ownBlock = some k) : k < w.heap.size := by
  obtain ⟨_, A, c, rfl, _, _, h4⟩ := h.sl
  obtain ⟨b, o, rfl, hb, _⟩ := h4 h0
  simp only [Value.ownBlock, Option.some.injEq] at hk; subst hk; exact hb
theorem Cur.apart {w0 w : World} {bc : Nat} {vc vl : Value} {n m size : Nat} {e : TypeId} {cs : List Int} {t : TypeId} {us ls : List Value} {H : List Res} (h : Cur w0 bc vc n cs) (hs : St (Of [.blk bc t us]) w0 w H) (hm : Res.own vl e size m ls ∈ H) : 0 < n → ∀ k, vc.ownBlock = some k → vl.ownBlock ≠ some k := by
  intro h0 k hk hl
  obtain ⟨r, hr, hrk⟩ := hs.fresh _ hm k hl (h.lt h0 hk)
  simp only [List.mem_singleton] at hr; subst hr
  exact h.off h0 k hk hrk.symm
theorem Cur.top {w0 w : World} {b : Nat} {va : Value} {n : Nat} {cs : List Int} {t : TypeId} {us : List Value} {H : List Res} (ha : Sl w0 va 1 n (u8s cs)) (hby : ∀ x ∈ cs, 0 ≤ x ∧ x < 256) (hs : St No w0 w H) (hm : Res.blk b t us ∈ H) : Cur w b va n cs := by
  refine ⟨hs.sl ha, fun h0 k hk e => ?_, hby⟩
  obtain ⟨_, A, c, rfl, _, _, h4⟩ := ha
  obtain ⟨b', o, rfl, hb, _⟩ := h4 h0
  simp only [Value.ownBlock, Option.some.injEq] at hk; subst hk; subst e
  exact hs.fresh _ hm b' rfl hb
theorem Cells.cur {E : Env} {H : List Res} {b o n c bc : Nat} {cs : List Int} {ys : List Value} {k : Nat} {t : TypeId} {us : List Value} (h : Cur E.w0 bc (.slice (some ⟨b, o, none⟩) n c) n cs) (hM : E.M = Of [.blk bc t us]) (hn : 0 < n) (hp : Pre (u8s cs) k ys) : Cells E H b (o + k) ys := by
  intro w hs
  have hs' : St (Of [.blk bc t us]) E.w0 w H := by rw [← hM]; exact hs
  obtain ⟨_, A, c', he, _, _, h4⟩ := (h.go hs').sl
  injection he with e1 _ _
  obtain ⟨b', o', hA, _, hr⟩ := h4 hn
  rw [hA] at e1
  injection e1 with e1
  injection e1 with e2 e3
  subst e2; subst e3
  intro j v hv
  have := hr (k + j) v (hp.get j v hv)
  rw [← Nat.add_assoc] at this; exact this
def nxB (cs : List Int) (n : Nat) (s : Nat × Int) : Int := if s.1 < n then ix cs s.1 else 0
def sdE (sd b : Int) : Int := IntKind.u64.wrap (IntKind.u64.wrap (IntKind.u64.wrap (sd * 6364136223846793005) + IntKind.u64.wrap b) + 1442695040888963407)
/-- The generator behind a draw, and what is drawn. -/
def nxS (cs : List Int) (n : Nat) (s : Nat × Int) : Nat × Int := (s.1 + 1, sdE s.2 (nxB cs n s))
def nxV (cs : List Int) (n : Nat) (s : Nat × Int) : Int := if s.1 + 1 ≤ n then nxB cs n s else IntKind.i64.wrap (bits .and .u64 ((sdE s.2 (nxB cs n s)) >>> (40 : Nat)) 255)
theorem nxV_range {cs : List Int} {n : Nat} (hl : cs.length = n) (h : ∀ x ∈ cs, 0 ≤ x ∧ x < 256) (s : Nat × Int) : 0 ≤ nxV cs n s ∧ nxV cs n s ≤ 255 := by
  unfold nxV
  split
  · unfold nxB
    split
    · have := h _ (ix_mem (xs := cs) (i := s.1) (by omega)); omega
    · omega
  · generalize (sdE s.2 (nxB cs n s)) >>> (40 : Nat) = a
    have h1 : (BitVec.ofInt 64 a &&& BitVec.ofInt 64 255).toNat ≤ 255 := by
      rw [BitVec.toNat_and]
      exact Nat.le_trans Nat.and_le_right (by decide)
    have h2 : bits .and .u64 a 255 = ((BitVec.ofInt 64 a &&& BitVec.ofInt 64 255).toNat : Int) := by
      show IntKind.u64.wrap ((BitVec.ofInt 64 a &&& BitVec.ofInt 64 255).toNat : Int) = _
      rw [IntKind.wrap_u64]; omega
    rw [h2, IntKind.wrap_i64]; omega
def pkV (cs : List Int) (n : Nat) (k : Int) (s : Nat × Int) : Int :=
  if k ≤ 1 then 0 else (if k > 200 then nxV cs n s * 256 + nxV cs n (nxS cs n s) else nxV cs n s) % k
def pkS (cs : List Int) (n : Nat) (k : Int) (s : Nat × Int) : Nat × Int := if k ≤ 1 then s else if k > 200 then nxS cs n (nxS cs n s) else nxS cs n s
theorem pkS_le (cs : List Int) (n : Nat) (k : Int) (s : Nat × Int) : (pkS cs n k s).1 ≤ s.1 + 2 := by
  unfold pkS; split
  · omega
  · split <;> simp only [nxS] <;> omega
theorem pkV_range (cs : List Int) (n : Nat) (k : Int) (s : Nat × Int) : 0 ≤ pkV cs n k s ∧ (pkV cs n k s < k ∨ pkV cs n k s = 0) := by
  unfold pkV; split
  · omega
  · have h1 := Int.emod_nonneg (if k > 200 then nxV cs n s * 256 + nxV cs n (nxS cs n s) else nxV cs n s) (show k ≠ 0 by omega)
    have h2 := Int.emod_lt_of_pos (if k > 200 then nxV cs n s * 256 + nxV cs n (nxS cs n s) else nxV cs n s) (show 0 < k by omega)
    exact ⟨h1, .inl h2⟩

set_option maxHeartbeats 1000000 in
set_option maxRecDepth 20000 in
theorem next_spec {bc n : Nat} {vc : Value} {cs : List Int} {s : Nat × Int} {w : World} (hat : s.1 < 2305843009213693952) (hc : Cur w bc vc n cs) (hst : St (Of [.blk bc 73 [vc, .int .i64 (((s.1 : Nat) : Int)), .int .u64 (s.2)]]) w w [.blk bc 73 [vc, .int .i64 (((s.1 : Nat) : Int)), .int .u64 (s.2)]]) : Calls Tryz.prog 97 #[.pointer (some ⟨bc, 0, none⟩)] w (Post (Of [.blk bc 73 [vc, .int .i64 (((s.1 : Nat) : Int)), .int .u64 (s.2)]]) w fun v H => v = .int .i64 (nxV cs n s) ∧ H = [.blk bc 73 [vc, .int .i64 ((((nxS cs n s).1 : Nat) : Int)), .int .u64 ((nxS cs n s).2)]]) := by
 have hcl : cs.length = n := by have := hc.sl.1; simpa [u8s] using this
 obtain ⟨Ac, cc, rfl, _, _⟩ := hc.sl.form0
 refine enter (n := 62) (args := [.pointer (some ⟨bc, 0, none⟩)]) Tryz.func97 rfl rfl (hst) ?_
 refine .sr ?_
 refine .m ?_
 refine .dsr ?_
 refine .m ?_
 refine .done ?_
 refine .seq ?_
 refine .seq ?_
 refine .draws (by kernel_rfl) (by kernel_rfl) ?_
 refine .m ?_
 refine .u (.pointer (some ⟨bc, 0, none⟩)) (.nilCheck rfl) ?_
 refine .u (.pointer (some ⟨bc, 1, none⟩)) (.fieldAddr Tfo_73_1 rfl rfl) ?_
 refine .u (.int .i64 (((s.1 : Nat) : Int))) (.load1 Tone_3 rfl (.b (.head _))) ?_
 refine .m ?_
 refine .u (.pointer (some ⟨bc, 0, none⟩)) (.nilCheck rfl) ?_
 refine .u (.pointer (some ⟨bc, 0, none⟩)) (.fieldAddr Tfo_73_0 rfl rfl) ?_
 refine .u (.slice Ac n cc) (.load1 Tone_30 rfl (.b (.head _))) ?_
 refine .u (.int .i64 (((n : Nat) : Int))) (.len Tsl_30 rfl) ?_
 refine .w (.bool (decide ((((s.1 : Nat) : Int)) < (((n : Nat) : Int))))) ?_
 refine .done ?_
 refine .cond (b := decide ((((s.1 : Nat) : Int)) < (((n : Nat) : Int)))) rfl (fun h13 => ?_) (fun h13 => ?_)
 ·have p13 := h13; try simp only [bs] at p13
  have hlt : s.1 < n := by omega
  have hB : nxB cs n s = ix cs s.1 := if_pos hlt
  have hby := hc.by_ _ (ix_mem (xs := cs) (i := s.1) (by omega))
  obtain ⟨b, o, rfl⟩ : ∃ b o, Ac = some ⟨b, o, none⟩ := by
   obtain ⟨b, o, c2, he, _⟩ := hc.sl.form (by omega)
   injection he with e1
   exact ⟨b, o, e1⟩
  refine .draws (by kernel_rfl) (by kernel_rfl) ?_
  refine .m ?_
  refine .u (.pointer (some ⟨bc, 0, none⟩)) (.nilCheck rfl) ?_
  refine .u (.pointer (some ⟨bc, 0, none⟩)) (.fieldAddr Tfo_73_0 rfl rfl) ?_
  refine .u (.slice (some ⟨b, o, none⟩) n cc) (.load1 Tone_30 rfl (.b (.head _))) ?_
  refine .m ?_
  refine .u (.pointer (some ⟨bc, 0, none⟩)) (.nilCheck rfl) ?_
  refine .u (.pointer (some ⟨bc, 1, none⟩)) (.fieldAddr Tfo_73_1 rfl rfl) ?_
  refine .u (.int .i64 (((s.1 : Nat) : Int))) (.load1 Tone_3 rfl (.b (.head _))) ?_
  refine .u (.pointer (some ⟨b, o + s.1, none⟩)) (.ix (s.1) Tsl_30) ?_
  refine .u (.int .u8 (ix cs s.1)) (.load1 Tone_5 rfl (Cells.cur (k := s.1) hc rfl (by omega) (preB (by omega)))) ?_
  refine .u (.int .i64 (ix cs s.1)) (.convIntEq Tsome_5 Tint_3 rfl (by first | (rw [IntKind.wrap_i64]; omega) | (rw [IntKind.wrap_u64]; omega))) ?_
  refine .m ?_
  refine .done ?_
  refine .sr ?_
  refine .m ?_
  refine .u (.pointer (some ⟨bc, 0, none⟩)) (.nilCheck rfl) ?_
  refine .fa Tfo_73_1 ?_
  refine .u (.int .i64 (((s.1 : Nat) : Int))) (.load1 Tone_3 rfl (.b (.head _))) ?_
  refine .u (.int .i64 ((((s.1 : Nat) : Int)) + 1)) (.add rfl rfl rfl (by omega) (by omega)) ?_
  refine .u (.pointer (some ⟨bc, 0, none⟩)) (.nilCheck rfl) ?_
  refine .fa Tfo_73_1 ?_
  refine .step rfl (.store (us := [.int .i64 ((((s.1 : Nat) : Int)) + 1)]) Tsize_3 rfl rfl rfl (.here _) (by simp only [List.length_cons, List.length_nil]; omega) ?_)
  show Run _ _ _ [.blk bc 73 [.slice (some ⟨b, o, none⟩) n cc, .int .i64 ((((s.1 : Nat) : Int)) + 1), .int .u64 (s.2)]]
  refine .dsr ?_
  iterate 2 refine .m ?_
  refine .u (.pointer (some ⟨bc, 0, none⟩)) (.nilCheck rfl) ?_
  refine .fa Tfo_73_2 ?_
  refine .u (.int .u64 (s.2)) (.load1 Tone_71 rfl (.b (.head _))) ?_
  refine .u (.int .u64 (IntKind.u64.wrap (s.2 * 6364136223846793005))) (.mulU rfl rfl) ?_
  refine .m ?_
  refine .u (.int .u64 (IntKind.u64.wrap (ix cs s.1))) (.convInt Tsome_3 Tint_71 rfl) ?_
  refine .u (.int .u64 (IntKind.u64.wrap (IntKind.u64.wrap (s.2 * 6364136223846793005) + IntKind.u64.wrap (ix cs s.1)))) (.addU rfl rfl) ?_
  refine .u (.int .u64 (IntKind.u64.wrap (IntKind.u64.wrap (IntKind.u64.wrap (s.2 * 6364136223846793005) + IntKind.u64.wrap (ix cs s.1)) + 1442695040888963407))) (.addU rfl rfl) ?_
  refine .u (.pointer (some ⟨bc, 0, none⟩)) (.nilCheck rfl) ?_
  refine .fa Tfo_73_2 ?_
  refine .step rfl (.store (us := [.int .u64 (IntKind.u64.wrap (IntKind.u64.wrap (IntKind.u64.wrap (s.2 * 6364136223846793005) + IntKind.u64.wrap (ix cs s.1)) + 1442695040888963407))]) Tsize_71 rfl rfl rfl (.here _) (by simp only [List.length_cons, List.length_nil]; omega) ?_)
  show Run _ _ _ [.blk bc 73 [.slice (some ⟨b, o, none⟩) n cc, .int .i64 ((((s.1 : Nat) : Int)) + 1), .int .u64 (IntKind.u64.wrap (IntKind.u64.wrap (IntKind.u64.wrap (s.2 * 6364136223846793005) + IntKind.u64.wrap (ix cs s.1)) + 1442695040888963407))]]
  refine .done ?_
  refine .seq ?_
  refine .seq ?_
  refine .draws (by kernel_rfl) (by kernel_rfl) ?_
  refine .m ?_
  refine .u (.pointer (some ⟨bc, 0, none⟩)) (.nilCheck rfl) ?_
  refine .u (.pointer (some ⟨bc, 1, none⟩)) (.fieldAddr Tfo_73_1 rfl rfl) ?_
  refine .u (.int .i64 ((((s.1 : Nat) : Int)) + 1)) (.load1 Tone_3 rfl (.b (.head _))) ?_
  refine .m ?_
  refine .u (.pointer (some ⟨bc, 0, none⟩)) (.nilCheck rfl) ?_
  refine .u (.pointer (some ⟨bc, 0, none⟩)) (.fieldAddr Tfo_73_0 rfl rfl) ?_
  refine .u (.slice (some ⟨b, o, none⟩) n cc) (.load1 Tone_30 rfl (.b (.head _))) ?_
  refine .u (.int .i64 (((n : Nat) : Int))) (.len Tsl_30 rfl) ?_
  refine .w (.bool (decide (((((s.1 : Nat) : Int)) + 1) ≤ (((n : Nat) : Int))))) ?_
  refine .done ?_
  refine .cond (b := decide (((((s.1 : Nat) : Int)) + 1) ≤ (((n : Nat) : Int)))) rfl (fun h53 => ?_) (fun h53 => ?_)
  ·have p53 := h53; try simp only [bs] at p53
   have hV : nxV cs n s = nxB cs n s := if_pos (by omega)
   refine .sr ?_
   iterate 2 refine .m ?_
   refine .done ?_
   refine .ret ?_
   refine ⟨.int .i64 (ix cs s.1), [.blk bc 73 [.slice (some ⟨b, o, none⟩) n cc, .int .i64 ((((nxS cs n s).1 : Nat) : Int)), .int .u64 ((nxS cs n s).2)]], Out.one rfl rfl, (Some'.weak (.takeEq (by rw [nxS, hB]; rfl) (.nil _))), ?_⟩
   exact ⟨by rw [hV, hB]; try rfl, rfl⟩
  have p53 := h53; try simp only [bs] at p53
  have hV : nxV cs n s = IntKind.i64.wrap (bits .and .u64 ((sdE s.2 (nxB cs n s)) >>> (40 : Nat)) 255) := if_neg (by omega)
  refine .skip ?_
  refine .sr ?_
  refine .m ?_
  refine .u (.pointer (some ⟨bc, 0, none⟩)) (.nilCheck rfl) ?_
  refine .fa Tfo_73_2 ?_
  refine .u (.int .u64 (IntKind.u64.wrap (IntKind.u64.wrap (IntKind.u64.wrap (s.2 * 6364136223846793005) + IntKind.u64.wrap (ix cs s.1)) + 1442695040888963407))) (.load1 Tone_71 rfl (.b (.head _))) ?_
  refine .u (.int .u64 ((IntKind.u64.wrap (IntKind.u64.wrap (IntKind.u64.wrap (s.2 * 6364136223846793005) + IntKind.u64.wrap (ix cs s.1)) + 1442695040888963407)) >>> (40 : Nat))) (.shrU (n := 40) rfl rfl rfl (by decide)) ?_
  refine .u (.int .u64 (bits .and .u64 ((IntKind.u64.wrap (IntKind.u64.wrap (IntKind.u64.wrap (s.2 * 6364136223846793005) + IntKind.u64.wrap (ix cs s.1)) + 1442695040888963407)) >>> (40 : Nat)) 255)) (.and rfl rfl) ?_
  refine .u (.int .i64 (IntKind.i64.wrap (bits .and .u64 ((IntKind.u64.wrap (IntKind.u64.wrap (IntKind.u64.wrap (s.2 * 6364136223846793005) + IntKind.u64.wrap (ix cs s.1)) + 1442695040888963407)) >>> (40 : Nat)) 255))) (.convInt Tsome_71 Tint_3 rfl) ?_
  refine .m ?_
  refine .done ?_
  refine .ret ?_
  refine ⟨.int .i64 (IntKind.i64.wrap (bits .and .u64 ((IntKind.u64.wrap (IntKind.u64.wrap (IntKind.u64.wrap (s.2 * 6364136223846793005) + IntKind.u64.wrap (ix cs s.1)) + 1442695040888963407)) >>> (40 : Nat)) 255)), [.blk bc 73 [.slice (some ⟨b, o, none⟩) n cc, .int .i64 ((((nxS cs n s).1 : Nat) : Int)), .int .u64 ((nxS cs n s).2)]], Out.one rfl rfl, (Some'.weak (.takeEq (by rw [nxS, hB]; rfl) (.nil _))), ?_⟩
  exact ⟨by rw [hV, hB]; try rfl, rfl⟩
 have p13 := h13; try simp only [bs] at p13
 have hB : nxB cs n s = 0 := if_neg (by omega)
 refine .skip ?_
 refine .sr ?_
 refine .m ?_
 refine .u (.pointer (some ⟨bc, 0, none⟩)) (.nilCheck rfl) ?_
 refine .fa Tfo_73_1 ?_
 refine .u (.int .i64 (((s.1 : Nat) : Int))) (.load1 Tone_3 rfl (.b (.head _))) ?_
 refine .u (.int .i64 ((((s.1 : Nat) : Int)) + 1)) (.add rfl rfl rfl (by omega) (by omega)) ?_
 refine .u (.pointer (some ⟨bc, 0, none⟩)) (.nilCheck rfl) ?_
 refine .fa Tfo_73_1 ?_
 refine .step rfl (.store (us := [.int .i64 ((((s.1 : Nat) : Int)) + 1)]) Tsize_3 rfl rfl rfl (.here _) (by simp only [List.length_cons, List.length_nil]; omega) ?_)
 show Run _ _ _ [.blk bc 73 [.slice Ac n cc, .int .i64 ((((s.1 : Nat) : Int)) + 1), .int .u64 (s.2)]]
 refine .dsr ?_
 iterate 2 refine .m ?_
 refine .u (.pointer (some ⟨bc, 0, none⟩)) (.nilCheck rfl) ?_
 refine .fa Tfo_73_2 ?_
 refine .u (.int .u64 (s.2)) (.load1 Tone_71 rfl (.b (.head _))) ?_
 refine .u (.int .u64 (IntKind.u64.wrap (s.2 * 6364136223846793005))) (.mulU rfl rfl) ?_
 refine .m ?_
 refine .u (.int .u64 (IntKind.u64.wrap (0))) (.convInt Tsome_3 Tint_71 rfl) ?_
 refine .u (.int .u64 (IntKind.u64.wrap (IntKind.u64.wrap (s.2 * 6364136223846793005) + IntKind.u64.wrap (0)))) (.addU rfl rfl) ?_
 refine .u (.int .u64 (IntKind.u64.wrap (IntKind.u64.wrap (IntKind.u64.wrap (s.2 * 6364136223846793005) + IntKind.u64.wrap (0)) + 1442695040888963407))) (.addU rfl rfl) ?_
 refine .u (.pointer (some ⟨bc, 0, none⟩)) (.nilCheck rfl) ?_
 refine .fa Tfo_73_2 ?_
 refine .step rfl (.store (us := [.int .u64 (IntKind.u64.wrap (IntKind.u64.wrap (IntKind.u64.wrap (s.2 * 6364136223846793005) + IntKind.u64.wrap (0)) + 1442695040888963407))]) Tsize_71 rfl rfl rfl (.here _) (by simp only [List.length_cons, List.length_nil]; omega) ?_)
 show Run _ _ _ [.blk bc 73 [.slice Ac n cc, .int .i64 ((((s.1 : Nat) : Int)) + 1), .int .u64 (IntKind.u64.wrap (IntKind.u64.wrap (IntKind.u64.wrap (s.2 * 6364136223846793005) + IntKind.u64.wrap (0)) + 1442695040888963407))]]
 refine .done ?_
 refine .seq ?_
 refine .seq ?_
 refine .draws (by kernel_rfl) (by kernel_rfl) ?_
 refine .m ?_
 refine .u (.pointer (some ⟨bc, 0, none⟩)) (.nilCheck rfl) ?_
 refine .u (.pointer (some ⟨bc, 1, none⟩)) (.fieldAddr Tfo_73_1 rfl rfl) ?_
 refine .u (.int .i64 ((((s.1 : Nat) : Int)) + 1)) (.load1 Tone_3 rfl (.b (.head _))) ?_
 refine .m ?_
 refine .u (.pointer (some ⟨bc, 0, none⟩)) (.nilCheck rfl) ?_
 refine .u (.pointer (some ⟨bc, 0, none⟩)) (.fieldAddr Tfo_73_0 rfl rfl) ?_
 refine .u (.slice Ac n cc) (.load1 Tone_30 rfl (.b (.head _))) ?_
 refine .u (.int .i64 (((n : Nat) : Int))) (.len Tsl_30 rfl) ?_
 refine .w (.bool (decide (((((s.1 : Nat) : Int)) + 1) ≤ (((n : Nat) : Int))))) ?_
 refine .done ?_
 refine .cond (b := decide (((((s.1 : Nat) : Int)) + 1) ≤ (((n : Nat) : Int)))) rfl (fun h53 => ?_) (fun h53 => ?_)
 ·have p53 := h53; try simp only [bs] at p53
  have hV : nxV cs n s = nxB cs n s := if_pos (by omega)
  refine .sr ?_
  iterate 2 refine .m ?_
  refine .done ?_
  refine .ret ?_
  refine ⟨.int .i64 0, [.blk bc 73 [.slice Ac n cc, .int .i64 ((((nxS cs n s).1 : Nat) : Int)), .int .u64 ((nxS cs n s).2)]], Out.one rfl rfl, (Some'.weak (.takeEq (by rw [nxS, hB]; rfl) (.nil _))), ?_⟩
  exact ⟨by rw [hV, hB]; try rfl, rfl⟩
 have p53 := h53; try simp only [bs] at p53
 have hV : nxV cs n s = IntKind.i64.wrap (bits .and .u64 ((sdE s.2 (nxB cs n s)) >>> (40 : Nat)) 255) := if_neg (by omega)
 refine .skip ?_
 refine .sr ?_
 refine .m ?_
 refine .u (.pointer (some ⟨bc, 0, none⟩)) (.nilCheck rfl) ?_
 refine .fa Tfo_73_2 ?_
 refine .u (.int .u64 (IntKind.u64.wrap (IntKind.u64.wrap (IntKind.u64.wrap (s.2 * 6364136223846793005) + IntKind.u64.wrap (0)) + 1442695040888963407))) (.load1 Tone_71 rfl (.b (.head _))) ?_
 refine .u (.int .u64 ((IntKind.u64.wrap (IntKind.u64.wrap (IntKind.u64.wrap (s.2 * 6364136223846793005) + IntKind.u64.wrap (0)) + 1442695040888963407)) >>> (40 : Nat))) (.shrU (n := 40) rfl rfl rfl (by decide)) ?_
 refine .u (.int .u64 (bits .and .u64 ((IntKind.u64.wrap (IntKind.u64.wrap (IntKind.u64.wrap (s.2 * 6364136223846793005) + IntKind.u64.wrap (0)) + 1442695040888963407)) >>> (40 : Nat)) 255)) (.and rfl rfl) ?_
 refine .u (.int .i64 (IntKind.i64.wrap (bits .and .u64 ((IntKind.u64.wrap (IntKind.u64.wrap (IntKind.u64.wrap (s.2 * 6364136223846793005) + IntKind.u64.wrap (0)) + 1442695040888963407)) >>> (40 : Nat)) 255))) (.convInt Tsome_71 Tint_3 rfl) ?_
 refine .m ?_
 refine .done ?_
 refine .ret ?_
 refine ⟨.int .i64 (IntKind.i64.wrap (bits .and .u64 ((IntKind.u64.wrap (IntKind.u64.wrap (IntKind.u64.wrap (s.2 * 6364136223846793005) + IntKind.u64.wrap (0)) + 1442695040888963407)) >>> (40 : Nat)) 255)), [.blk bc 73 [.slice Ac n cc, .int .i64 ((((nxS cs n s).1 : Nat) : Int)), .int .u64 ((nxS cs n s).2)]], Out.one rfl rfl, (Some'.weak (.takeEq (by rw [nxS, hB]; rfl) (.nil _))), ?_⟩
 exact ⟨by rw [hV, hB]; try rfl, rfl⟩

set_option maxHeartbeats 1000000 in
set_option maxRecDepth 20000 in
theorem pick_spec {k : Int} {bc n : Nat} {vc : Value} {cs : List Int} {s : Nat × Int} {w : World} (hat : s.1 < 2305843009213693950) (hc : Cur w bc vc n cs) (hst : St (Of [.blk bc 73 [vc, .int .i64 (((s.1 : Nat) : Int)), .int .u64 (s.2)]]) w w [.blk bc 73 [vc, .int .i64 (((s.1 : Nat) : Int)), .int .u64 (s.2)]]) : Calls Tryz.prog 71 #[.pointer (some ⟨bc, 0, none⟩), .int .i64 k] w (Post (Of [.blk bc 73 [vc, .int .i64 (((s.1 : Nat) : Int)), .int .u64 (s.2)]]) w fun v H => v = .int .i64 (pkV cs n k s) ∧ H = [.blk bc 73 [vc, .int .i64 ((((pkS cs n k s).1 : Nat) : Int)), .int .u64 ((pkS cs n k s).2)]]) := by
 have hcl : cs.length = n := by have := hc.sl.1; simpa [u8s] using this
 refine enter (n := 20) (args := [.pointer (some ⟨bc, 0, none⟩), .int .i64 k]) Tryz.func71 rfl rfl (hst) ?_
 refine .sr ?_
 refine .m ?_
 refine .done ?_
 refine .seq ?_
 refine .sr ?_
 refine .m ?_
 refine .w (.bool (decide (k ≤ 1))) ?_
 refine .done ?_
 refine .cond (b := decide (k ≤ 1)) rfl (fun h7 => ?_) (fun h7 => ?_)
 ·have p7 := h7; try simp only [bs] at p7
  have hV : pkV cs n k s = 0 := if_pos p7
  have hS : pkS cs n k s = s := if_pos p7
  refine .sr ?_
  refine .m ?_
  refine .done ?_
  refine .ret ?_
  refine ⟨.int .i64 0, [.blk bc 73 [vc, .int .i64 ((((pkS cs n k s).1 : Nat) : Int)), .int .u64 ((pkS cs n k s).2)]], Out.one rfl rfl, (Some'.weak (.takeEq (by rw [hS]) (.nil _))), ?_⟩
  exact ⟨by rw [hV], rfl⟩
 have p7 := h7; try simp only [bs] at p7
 refine .skip ?_
 refine .sr ?_
 refine .m ?_
 refine .step rfl (.callM (H1 := [.blk bc 73 [vc, .int .i64 (((s.1 : Nat) : Int)), .int .u64 (s.2)]]) (H2 := []) (vs := [.pointer (some ⟨bc, 0, none⟩)]) (caps := []) Tcall_97 rfl rfl (Weak.refl _) (fun w hs => next_spec (s := s) (by first | omega | (show s.1 + 1 < _; omega)) (hc.go hs) (hs.sub (List.sublist_append_left _ _)).self) ?_)
 rintro _ _ ⟨rfl, rfl⟩
 show Run _ _ (putF _ _ _ (.int .i64 (nxV cs n s))) [.blk bc 73 [vc, .int .i64 ((((nxS cs n s).1 : Nat) : Int)), .int .u64 ((nxS cs n s).2)]]
 have hr1 := nxV_range hcl hc.by_ s
 refine .m ?_
 refine .done ?_
 refine .seq ?_
 refine .sr ?_
 refine .m ?_
 refine .w (.bool (decide (k > 200))) ?_
 refine .done ?_
 refine .cond (b := decide (k > 200)) rfl (fun h11 => ?_) (fun h11 => ?_)
 ·have p11 := h11; try simp only [bs] at p11
  have hV : pkV cs n k s = (nxV cs n s * 256 + nxV cs n (nxS cs n s)) % k := by rw [pkV, if_neg (by omega), if_pos p11]
  have hS : pkS cs n k s = nxS cs n (nxS cs n s) := by rw [pkS, if_neg (by omega), if_pos p11]
  refine .region ?_
  refine .m ?_
  refine .u (.int .i64 ((nxV cs n s) * 256)) (.mul rfl rfl (by first | rfl | grind) (by omega) (by omega)) ?_
  refine .m ?_
  refine .step rfl (.callM (H1 := [.blk bc 73 [vc, .int .i64 ((((nxS cs n s).1 : Nat) : Int)), .int .u64 ((nxS cs n s).2)]]) (H2 := []) (vs := [.pointer (some ⟨bc, 0, none⟩)]) (caps := []) Tcall_97 rfl rfl (Weak.refl _) (fun w hs => next_spec (s := (nxS cs n s)) (by first | omega | (show s.1 + 1 < _; omega)) (hc.go hs) (hs.sub (List.sublist_append_left _ _)).self) ?_)
  rintro _ _ ⟨rfl, rfl⟩
  show Run _ _ (putF _ _ _ (.int .i64 (nxV cs n (nxS cs n s)))) [.blk bc 73 [vc, .int .i64 ((((nxS cs n (nxS cs n s)).1 : Nat) : Int)), .int .u64 ((nxS cs n (nxS cs n s)).2)]]
  have hr2 := nxV_range hcl hc.by_ (nxS cs n s)
  refine .u (.int .i64 (((nxV cs n s) * 256) + (nxV cs n (nxS cs n s)))) (.add rfl rfl rfl (by omega) (by omega)) ?_
  refine .m ?_
  refine .dsr ?_
  iterate 2 refine .m ?_
  refine .u (.int .i64 ((((nxV cs n s) * 256) + (nxV cs n (nxS cs n s))) % k)) (.rem rfl rfl (by omega) (by omega)) ?_
  refine .m ?_
  refine .done ?_
  refine .ret ?_
  refine ⟨.int .i64 ((((nxV cs n s) * 256) + (nxV cs n (nxS cs n s))) % k), [.blk bc 73 [vc, .int .i64 ((((pkS cs n k s).1 : Nat) : Int)), .int .u64 ((pkS cs n k s).2)]], Out.one rfl rfl, (Some'.weak (.takeEq (by rw [hS]) (.nil _))), ?_⟩
  exact ⟨by rw [hV], rfl⟩
 have p11 := h11; try simp only [bs] at p11
 have hV : pkV cs n k s = nxV cs n s % k := by rw [pkV, if_neg (by omega), if_neg (by omega)]
 have hS : pkS cs n k s = nxS cs n s := by rw [pkS, if_neg (by omega), if_neg (by omega)]
 refine .skip ?_
 refine .sr ?_
 iterate 2 refine .m ?_
 refine .u (.int .i64 ((nxV cs n s) % k)) (.rem rfl rfl (by omega) (by omega)) ?_
 refine .m ?_
 refine .done ?_
 refine .ret ?_
 refine ⟨.int .i64 ((nxV cs n s) % k), [.blk bc 73 [vc, .int .i64 ((((pkS cs n k s).1 : Nat) : Int)), .int .u64 ((pkS cs n k s).2)]], Out.one rfl rfl, (Some'.weak (.takeEq (by rw [hS]) (.nil _))), ?_⟩
 exact ⟨by rw [hV], rfl⟩

theorem pick_ex {k : Int} {bc n : Nat} {vc : Value} {cs : List Int} {s : Nat × Int} {w : World} (hat : s.1 < 2305843009213693950) (hc : Cur w bc vc n cs) (hst : St (Of [.blk bc 73 [vc, .int .i64 (((s.1 : Nat) : Int)), .int .u64 (s.2)]]) w w [.blk bc 73 [vc, .int .i64 (((s.1 : Nat) : Int)), .int .u64 (s.2)]]) : Calls Tryz.prog 71 #[.pointer (some ⟨bc, 0, none⟩), .int .i64 k] w (Post (Of [.blk bc 73 [vc, .int .i64 (((s.1 : Nat) : Int)), .int .u64 (s.2)]]) w fun v H => ∃ (x : Int) (s1 : Nat × Int), (0 ≤ x ∧ (x < k ∨ x = 0)) ∧ s1.1 ≤ s.1 + 2 ∧ v = .int .i64 x ∧ H = [.blk bc 73 [vc, .int .i64 (((s1.1 : Nat) : Int)), .int .u64 (s1.2)]]) :=
  (pick_spec hat hc hst).mono fun e w1 ⟨v, H, h1, h2, h3, h4⟩ => ⟨v, H, h1, h2, _, _, pkV_range cs n k s, pkS_le cs n k s, h3, h4⟩

set_option maxHeartbeats 1000000 in
set_option maxRecDepth 20000 in
theorem one_spec {k : Int} {bc n : Nat} {vc : Value} {cs : List Int} {s : Nat × Int} {w : World} (hat : s.1 < 2305843009213693950) (hc : Cur w bc vc n cs) (hst : St (Of [.blk bc 73 [vc, .int .i64 (((s.1 : Nat) : Int)), .int .u64 (s.2)]]) w w [.blk bc 73 [vc, .int .i64 (((s.1 : Nat) : Int)), .int .u64 (s.2)]]) : Calls Tryz.prog 72 #[.pointer (some ⟨bc, 0, none⟩), .int .i64 k] w (Post (Of [.blk bc 73 [vc, .int .i64 (((s.1 : Nat) : Int)), .int .u64 (s.2)]]) w fun v H => v = .bool (pkV cs n k s == 0) ∧ H = [.blk bc 73 [vc, .int .i64 ((((pkS cs n k s).1 : Nat) : Int)), .int .u64 ((pkS cs n k s).2)]]) := by
 refine enter (n := 9) (args := [.pointer (some ⟨bc, 0, none⟩), .int .i64 k]) Tryz.func72 rfl rfl (hst) ?_
 refine .sr ?_
 refine .m ?_
 refine .dsr ?_
 iterate 2 refine .m ?_
 refine .step rfl (.callM (H1 := [.blk bc 73 [vc, .int .i64 (((s.1 : Nat) : Int)), .int .u64 (s.2)]]) (H2 := []) (vs := [.pointer (some ⟨bc, 0, none⟩), .int .i64 k]) (caps := []) Tcall_71 rfl rfl (Weak.refl _) (fun w hs => pick_spec (s := s) hat (hc.go hs) (hs.sub (List.sublist_append_left _ _)).self) ?_)
 rintro _ _ ⟨rfl, rfl⟩
 show Run _ _ (putF _ _ _ (.int .i64 (pkV cs n k s))) [.blk bc 73 [vc, .int .i64 ((((pkS cs n k s).1 : Nat) : Int)), .int .u64 ((pkS cs n k s).2)]]
 refine .w (.bool ((pkV cs n k s) == 0)) ?_
 refine .m ?_
 refine .done ?_
 refine .ret ?_
 refine ⟨.bool ((pkV cs n k s) == 0), [.blk bc 73 [vc, .int .i64 ((((pkS cs n k s).1 : Nat) : Int)), .int .u64 ((pkS cs n k s).2)]], Out.one rfl rfl, (Some'.weak (.take (.nil _))), ?_⟩
 exact ⟨rfl, rfl⟩

theorem one_ex {k : Int} {bc n : Nat} {vc : Value} {cs : List Int} {s : Nat × Int} {w : World} (hat : s.1 < 2305843009213693950) (hc : Cur w bc vc n cs) (hst : St (Of [.blk bc 73 [vc, .int .i64 (((s.1 : Nat) : Int)), .int .u64 (s.2)]]) w w [.blk bc 73 [vc, .int .i64 (((s.1 : Nat) : Int)), .int .u64 (s.2)]]) : Calls Tryz.prog 72 #[.pointer (some ⟨bc, 0, none⟩), .int .i64 k] w (Post (Of [.blk bc 73 [vc, .int .i64 (((s.1 : Nat) : Int)), .int .u64 (s.2)]]) w fun v H => ∃ (x : Bool) (s1 : Nat × Int), s1.1 ≤ s.1 + 2 ∧ v = .bool x ∧ H = [.blk bc 73 [vc, .int .i64 (((s1.1 : Nat) : Int)), .int .u64 (s1.2)]]) :=
  (one_spec hat hc hst).mono fun e w1 ⟨v, H, h1, h2, h3, h4⟩ => ⟨v, H, h1, h2, _, _, pkS_le cs n k s, h3, h4⟩


theorem Cur.go2 {w0 w : World} {bc : Nat} {vc vl : Value} {n m size : Nat} {e : TypeId} {cs : List Int} {t : TypeId} {us ls : List Value} {H : List Res} (h : Cur w0 bc vc n cs) (ho : 0 < n → ∀ k, vc.ownBlock = some k → vl.ownBlock ≠ some k) (hs : St (Of [.blk bc t us, .own vl e size m ls]) w0 w H) : Cur w bc vc n cs :=
  ⟨hs.slOff h.sl fun h0 k hk ⟨r, hr, hrk⟩ => by
    simp only [List.mem_cons, List.not_mem_nil, or_false] at hr
    rcases hr with rfl | rfl
    · exact h.off h0 k hk hrk.symm
    · exact ho h0 k hk hrk, h.off, h.by_⟩

set_option maxHeartbeats 1000000 in
set_option maxRecDepth 20000 in
theorem among_spec {vl : Value} {m : Nat} {ls : List Int} {bc n : Nat} {vc : Value} {cs : List Int} {s : Nat × Int} {w : World} (hat : s.1 < 2305843009213693950) (hm : 0 < m) (hc : Cur w bc vc n cs) (hoff : 0 < n → ∀ k, vc.ownBlock = some k → vl.ownBlock ≠ some k) (hst : St (Of [.blk bc 73 [vc, .int .i64 (((s.1 : Nat) : Int)), .int .u64 (s.2)], .own vl 3 1 m (ints ls)]) w w [.blk bc 73 [vc, .int .i64 (((s.1 : Nat) : Int)), .int .u64 (s.2)], .own vl 3 1 m (ints ls)]) : Calls Tryz.prog 93 #[.pointer (some ⟨bc, 0, none⟩), vl] w (Post (Of [.blk bc 73 [vc, .int .i64 (((s.1 : Nat) : Int)), .int .u64 (s.2)], .own vl 3 1 m (ints ls)]) w fun v H => ∃ (i : Nat) (s1 : Nat × Int), i < m ∧ s1.1 ≤ s.1 + 2 ∧ v = .int .i64 (ix ls i) ∧ H = [.blk bc 73 [vc, .int .i64 (((s1.1 : Nat) : Int)), .int .u64 (s1.2)]]) := by
 have hll : ls.length = m := by have h := (hst.slOwn (.tail _ (.head _))).len; omega
 refine enter (n := 12) (args := [.pointer (some ⟨bc, 0, none⟩), vl]) Tryz.func93 rfl rfl (hst) ?_
 refine .sr ?_
 refine .m ?_
 refine .dsr ?_
 refine .w vl ?_
 refine .m ?_
 refine .w vl ?_
 refine Run.formOwn (.tail _ (.head _)) (fun A_vl1 c_vl1 hv hcapc_vl1 hmaxc_vl1 => ?_) (fun _ _ _ => ⟨nofun, nofun, nofun⟩)
 subst hv
 refine .u (.int .i64 (((m : Nat) : Int))) (.len Tsl_75 rfl) ?_
 have hoff2 := hoff
 refine .step rfl (.callM (H1 := [.blk bc 73 [vc, .int .i64 (((s.1 : Nat) : Int)), .int .u64 (s.2)]]) (H2 := [.own (.slice A_vl1 m c_vl1) 3 1 m (ints ls)]) (vs := [.pointer (some ⟨bc, 0, none⟩), .int .i64 (((m : Nat) : Int))]) (caps := []) Tcall_71 rfl rfl (Weak.refl _) (fun w hs => pick_ex (s := s) hat (Cur.go2 hc hoff2 hs) (hs.sub (List.sublist_append_left _ _)).self) ?_)
 rintro _ _ ⟨x1, s1, hx1, hs1, rfl, rfl⟩
 show Run _ _ (putF _ _ _ (.int .i64 x1)) [.blk bc 73 [vc, .int .i64 (((s1.1 : Nat) : Int)), .int .u64 (s1.2)], .own (.slice A_vl1 m c_vl1) 3 1 m (ints ls)]
 refine Run.openOwn (.tail _ (.head _)) (by omega) (fun gl cl hvgl hcapgl _ => ?_) (fun _ _ _ => ⟨nofun, nofun, nofun⟩)
 injection hvgl with hAgl _ hcgl; subst hAgl; subst hcgl
 refine .u (.pointer (some ⟨gl, x1.toNat, none⟩)) (.ix (x1.toNat) Tsl_75) ?_
 refine .u (.int .i64 (ix ls (x1.toNat))) (.load1 Tone_3 rfl (Cells.own0 (.tail _ (.head _)) (pre1 (by omega)))) ?_
 refine .m ?_
 refine .done ?_
 refine .ret ?_
 refine ⟨.int .i64 (ix ls (x1.toNat)), [.blk bc 73 [vc, .int .i64 (((s1.1 : Nat) : Int)), .int .u64 (s1.2)]], Out.one rfl rfl, (Some'.weak (.take (.nil _))), ?_⟩
 exact ⟨x1.toNat, s1, by omega, hs1, rfl, rfl⟩

end Go.Proofs.YtgpkpopbajkklaaGreatDoor
/- Walks: drawn texts of circuits. -/
set_option linter.unusedSimpArgs false
set_option linter.unusedVariables false
namespace Go.Proofs.YtgpkpopbajkklaaGreatDoor
open Go Go.RowKit
namespace TziT
theorem Tagg_24 : aggOf Tryz.prog 24 = some 2 := by kernel_rfl
theorem Tagg_69 : aggOf Tryz.prog 69 = some 3 := by kernel_rfl
theorem Tbytes_30 : bytesT Tryz.prog 30 = true := by kernel_rfl
theorem Tcall_111 : callable Tryz.prog 111 = true := by kernel_rfl
theorem Tcall_44 : callable Tryz.prog 44 = true := by kernel_rfl
theorem Tcall_68 : callable Tryz.prog 68 = true := by kernel_rfl
theorem Tcall_71 : callable Tryz.prog 71 = true := by kernel_rfl
theorem Tcall_92 : callable Tryz.prog 92 = true := by kernel_rfl
theorem Tcall_93 : callable Tryz.prog 93 = true := by kernel_rfl
theorem Tcall_98 : callable Tryz.prog 98 = true := by kernel_rfl
theorem Tfo_24_0 : fieldOff Tryz.prog 24 0 = some 0 := by kernel_rfl
theorem Tfo_24_1 : fieldOff Tryz.prog 24 1 = some 1 := by kernel_rfl
theorem Tfo_69_0 : fieldOff Tryz.prog 69 0 = some 0 := by kernel_rfl
theorem Tfo_69_1 : fieldOff Tryz.prog 69 1 = some 1 := by kernel_rfl
theorem Tfo_69_2 : fieldOff Tryz.prog 69 2 = some 2 := by kernel_rfl
theorem Tone_22 : oneOf Tryz.prog 22 = true := by kernel_rfl
theorem Tone_3 : oneOf Tryz.prog 3 = true := by kernel_rfl
theorem Tone_9 : oneOf Tryz.prog 9 = true := by kernel_rfl
theorem Tsize_22 : (Tryz.prog.info? 22).map (·.size) = some 1 := by kernel_rfl
theorem Tsize_24 : (Tryz.prog.info? 24).map (·.size) = some 2 := by kernel_rfl
theorem Tsize_3 : (Tryz.prog.info? 3).map (·.size) = some 1 := by kernel_rfl
theorem Tsize_69 : (Tryz.prog.info? 69).map (·.size) = some 3 := by kernel_rfl
theorem Tsl_22 : sliceOf Tryz.prog 22 = some (69, 3, 24, [.int .i64 0, .int .i64 0, .int .i64 0]) := by kernel_rfl
theorem Tsl_30 : sliceOf Tryz.prog 30 = some (5, 1, 1, [.int .u8 0]) := by kernel_rfl
theorem Tsl_40 : sliceOf Tryz.prog 40 = some (9, 1, 16, [sv ([])]) := by kernel_rfl
theorem Tsl_75 : sliceOf Tryz.prog 75 = some (3, 1, 8, [.int .i64 0]) := by kernel_rfl
theorem Tstr_9 : strT Tryz.prog 9 = true := by kernel_rfl
theorem Tzero_24 : zeroOf Tryz.prog 24 = some [.int .i64 0, .slice none 0 0] := by kernel_rfl
theorem Tzero_69 : zeroOf Tryz.prog 69 = some [.int .i64 0, .int .i64 0, .int .i64 0] := by kernel_rfl
end TziT
open TziT
theorem gok12 {N k a b : Int} (h : k = 12) (ha : a = 0) (hb : b = 0) : gateOk N k a b = true := by unfold gateOk; rw [decide_eq_true_iff]; omega
theorem gok1 {N k a : Int} (h : 1 ≤ k ∧ k ≤ 12) (h1 : ¬ k = 12) (h2 : ¬ (9 ≤ k ∧ k ≤ 11)) (ha : 0 ≤ a ∧ (a < N ∨ a = 0)) (hN : 1 ≤ N) : gateOk N k a 0 = true := by unfold gateOk; rw [decide_eq_true_iff]; omega
theorem gok0 {N : Int} (hN : 1 ≤ N) : gateOk N 1 0 0 = true := by unfold gateOk; rw [decide_eq_true_iff]; omega
theorem gok2 {N : Nat} {k a x : Int} (hN : 2 ≤ N ∧ N ≤ 6) (h2 : 9 ≤ k ∧ k ≤ 11) (ha : 0 ≤ a ∧ (a < (N : Int) ∨ a = 0)) (hx : 0 ≤ x ∧ (x < (N : Int) - 1 ∨ x = 0)) : gateOk N k a ((a + 1 + x) % N) = true := by
  unfold gateOk; rw [decide_eq_true_iff]
  rcases (by omega : N = 2 ∨ N = 3 ∨ N = 4 ∨ N = 5 ∨ N = 6) with rfl | rfl | rfl | rfl | rfl <;> omega
/-- The names of drawn definitions. -/
def nmS : List Bs := [[102], [103]]
theorem nmS_len (i : Nat) : (stx nmS i).length ≤ 1 := by
  match i with
  | 0 => decide
  | 1 => decide
  | i + 2 => simp [stx, nmS, List.getD]
theorem stx_le {L : List Bs} {m : Nat} (h : ∀ l ∈ L, l.length ≤ m) (i : Nat) : (stx L i).length ≤ m := by
  by_cases hi : i < L.length
  · have e : stx L i = L[i] := by simp [stx, List.getD, hi]
    rw [e]; exact h _ (List.getElem_mem hi)
  · simp [stx, List.getD, List.getElem?_eq_none (Nat.le_of_not_lt hi)]

set_option maxHeartbeats 1000000 in
set_option maxRecDepth 20000 in
theorem gateV_spec {N m : Nat} {vk : Value} {ks : List Int} {bc n : Nat} {vc : Value} {cs : List Int} {s : Nat × Int} {w : World} (hN : 1 ≤ N ∧ N ≤ 6) (hks : ∀ x ∈ ks, 1 ≤ x ∧ x ≤ 12) (hat : s.1 < 2305843009213000000) (hc : Cur w bc vc n cs) (hm : 0 < m ∧ m ≤ 100) (hoff : 0 < n → ∀ k, vc.ownBlock = some k → vk.ownBlock ≠ some k) (hst : St (Of [.blk bc 73 [vc, .int .i64 (((s.1 : Nat) : Int)), .int .u64 (s.2)], .own vk 3 1 m (ints ks)]) w w [.blk bc 73 [vc, .int .i64 (((s.1 : Nat) : Int)), .int .u64 (s.2)], .own vk 3 1 m (ints ks)]) : Calls Tryz.prog 98 #[.pointer (some ⟨bc, 0, none⟩), .int .i64 (N : Nat), vk] w (Post (Of [.blk bc 73 [vc, .int .i64 (((s.1 : Nat) : Int)), .int .u64 (s.2)], .own vk 3 1 m (ints ks)]) w fun v H => ∃ (k1 a1 b1 : Int) (s1 : Nat × Int), (s1.1 ≤ s.1 + 10 ∧ gateOk N k1 a1 b1 = true) ∧ v = .agg #[.int .i64 k1, .int .i64 a1, .int .i64 b1] ∧ H = [.blk bc 73 [vc, .int .i64 (s1.1 : Nat), .int .u64 s1.2], .own vk 3 1 m (ints ks)]) := by
 have hkl : ks.length = m := by have h := (hst.slOwn (.tail _ (.head _))).len; omega
 refine enter (n := 42) (args := [.pointer (some ⟨bc, 0, none⟩), .int .i64 (((N : Nat) : Int)), vk]) Tryz.func98 rfl rfl (hst) ?_
 refine .sr ?_
 refine .step rfl (.alloc (zs := [.int .i64 0, .int .i64 0, .int .i64 0]) Tzero_69 fun b1 => ?_)
 refine .done ?_
 refine .seq ?_
 refine Run.openOwn (.tail _ (.tail _ (.head _))) (by omega) (fun gk ck hvgk hcapgk _ => ?_) (fun _ _ _ => ⟨nofun, nofun, nofun⟩)
 subst hvgk
 refine .region ?_
 iterate 3 refine .m ?_
 refine .u (.int .i64 (((m : Nat) : Int))) (.len Tsl_75 rfl) ?_
 refine .step rfl (.callM (H1 := [.blk bc 73 [vc, .int .i64 (((s.1 : Nat) : Int)), .int .u64 (s.2)]]) (H2 := [.blk b1 69 [.int .i64 0, .int .i64 0, .int .i64 0], .own (.slice (some ⟨gk, 0, none⟩) m ck) 3 1 m (ints ks)]) (vs := [.pointer (some ⟨bc, 0, none⟩), .int .i64 (((m : Nat) : Int))]) (caps := []) Tcall_71 rfl rfl (Weak.selF [1]) (fun w hs => pick_ex (by omega) (Cur.go2 hc hoff hs) (hs.sub (List.sublist_append_left _ _)).self) ?_)
 rintro _ _ ⟨x1, s1, hx1, hs1, rfl, rfl⟩
 show Run _ _ (putF _ _ _ (.int .i64 x1)) [.blk bc 73 [vc, .int .i64 (((s1.1 : Nat) : Int)), .int .u64 (s1.2)], .blk b1 69 [.int .i64 0, .int .i64 0, .int .i64 0], .own (.slice (some ⟨gk, 0, none⟩) m ck) 3 1 m (ints ks)]
 refine .u (.pointer (some ⟨gk, x1.toNat, none⟩)) (.ix (x1.toNat) Tsl_75) ?_
 refine .u (.int .i64 (ix ks (x1.toNat))) (.load1 Tone_3 rfl (Cells.own0 (.tail _ (.tail _ (.head _))) (pre1 (by omega)))) ?_
 refine .u (.agg #[.int .i64 (ix ks (x1.toNat)), .int .i64 0, .int .i64 0]) (.build (cs := [.int .i64 (ix ks (x1.toNat)), .int .i64 0, .int .i64 0]) (by kernel_rfl)) ?_
 refine .step rfl (.alloc (zs := [.int .i64 0, .int .i64 0, .int .i64 0]) Tzero_69 fun b2 => ?_)
 refine .step rfl (.storeAll (us := [.int .i64 (ix ks (x1.toNat)), .int .i64 0, .int .i64 0]) Tsize_69 rfl rfl rfl (.here _) rfl ?_)
 refine .done ?_
 refine .seq ?_
 refine .sr ?_
 refine .fa Tfo_69_0 ?_
 refine .u (.int .i64 (ix ks (x1.toNat))) (.load1 Tone_3 rfl (.b (.head _))) ?_
 refine .w (.bool ((ix ks (x1.toNat)) == 12)) ?_
 refine .done ?_
 refine .cond (b := (ix ks (x1.toNat)) == 12) rfl (fun h18 => ?_) (fun h18 => ?_)
 ·have p18 := h18; try simp only [bs] at p18
  have hkk := hks _ (ix_mem (xs := ks) (i := x1.toNat) (by omega))
  refine .sr ?_
  refine .u (.agg #[.int .i64 (ix ks (x1.toNat)), .int .i64 0, .int .i64 0]) (.loadN (cs := [.int .i64 (ix ks (x1.toNat)), .int .i64 0, .int .i64 0]) Tagg_69 rfl (Cells.blk (.head _) ⟨rfl, rfl, rfl, trivial⟩)) ?_
  refine .step rfl (.storeAll (us := [.int .i64 (ix ks (x1.toNat)), .int .i64 0, .int .i64 0]) Tsize_69 rfl rfl rfl (.there _ (.there _ (.here _))) rfl ?_)
  refine .done ?_
  refine .ret ?_
  refine ⟨.agg #[.int .i64 (ix ks (x1.toNat)), .int .i64 0, .int .i64 0], [.blk bc 73 [vc, .int .i64 (((s1.1 : Nat) : Int)), .int .u64 (s1.2)], .own (.slice (some ⟨gk, 0, none⟩) m ck) 3 1 m (ints ks)], Out.cell1 rfl Tagg_69 rfl (Cells.blk (.tail _ (.tail _ (.head _))) ⟨rfl, rfl, rfl, trivial⟩), (Some'.weak (.skip (.take (.skip (.take (.nil _)))))), ?_⟩
  exact ⟨_, _, _, _, ⟨by omega, by first | exact gok12 p18 rfl rfl | exact gok0 (by omega)⟩, rfl, rfl⟩
 have p18 := h18; try simp only [bs] at p18
 have hkk := hks _ (ix_mem (xs := ks) (i := x1.toNat) (by omega))
 refine .skip ?_
 refine .sr ?_
 iterate 2 refine .m ?_
 refine .step rfl (.callM (H1 := [.blk bc 73 [vc, .int .i64 (((s1.1 : Nat) : Int)), .int .u64 (s1.2)]]) (H2 := [.blk b2 69 [.int .i64 (ix ks (x1.toNat)), .int .i64 0, .int .i64 0], .blk b1 69 [.int .i64 0, .int .i64 0, .int .i64 0], .own (.slice (some ⟨gk, 0, none⟩) m ck) 3 1 m (ints ks)]) (vs := [.pointer (some ⟨bc, 0, none⟩), .int .i64 (((N : Nat) : Int))]) (caps := []) Tcall_71 rfl rfl (Weak.selF [1]) (fun w hs => pick_ex (by omega) (Cur.go2 hc hoff hs) (hs.sub (List.sublist_append_left _ _)).self) ?_)
 rintro _ _ ⟨x2, s2, hx2, hs2, rfl, rfl⟩
 show Run _ _ (putF _ _ _ (.int .i64 x2)) [.blk bc 73 [vc, .int .i64 (((s2.1 : Nat) : Int)), .int .u64 (s2.2)], .blk b2 69 [.int .i64 (ix ks (x1.toNat)), .int .i64 0, .int .i64 0], .blk b1 69 [.int .i64 0, .int .i64 0, .int .i64 0], .own (.slice (some ⟨gk, 0, none⟩) m ck) 3 1 m (ints ks)]
 refine .fa Tfo_69_1 ?_
 refine .step rfl (.store (us := [.int .i64 x2]) Tsize_3 rfl rfl rfl (.there _ (.here _)) (by simp only [List.length_cons, List.length_nil]; omega) ?_)
 show Run _ _ _ [.blk bc 73 [vc, .int .i64 (((s2.1 : Nat) : Int)), .int .u64 (s2.2)], .blk b2 69 [.int .i64 (ix ks (x1.toNat)), .int .i64 x2, .int .i64 0], .blk b1 69 [.int .i64 0, .int .i64 0, .int .i64 0], .own (.slice (some ⟨gk, 0, none⟩) m ck) 3 1 m (ints ks)]
 refine .done ?_
 refine .seq ?_
 refine .sr ?_
 refine .fa Tfo_69_0 ?_
 refine .u (.int .i64 (ix ks (x1.toNat))) (.load1 Tone_3 rfl (.b (.tail _ (.head _)))) ?_
 refine .c (.bool (decide (9 ≤ (ix ks (x1.toNat)) ∧ (ix ks (x1.toNat)) ≤ 11))) [.int .i64 (ix ks (x1.toNat)), .int .i64 9, .int .i64 11] Tcall_68 (fun w hs => (by have h := l1In_spec (ix ks (x1.toNat)) 9 11 w; rw [within_dec] at h; exact h)) ?_
 refine .done ?_
 refine .cond (b := decide (9 ≤ (ix ks (x1.toNat)) ∧ (ix ks (x1.toNat)) ≤ 11)) rfl (fun h26 => ?_) (fun h26 => ?_)
 ·have p26 := h26; try simp only [bs] at p26
  refine .seq ?_
  refine .sr ?_
  refine .m ?_
  refine .w (.bool ((((N : Nat) : Int)) == 1)) ?_
  refine .done ?_
  refine .cond (b := (((N : Nat) : Int)) == 1) rfl (fun h28 => ?_) (fun h28 => ?_)
  ·have p28 := h28; try simp only [bs] at p28
   refine .sr ?_
   refine .u (.agg #[.int .i64 1, .int .i64 0, .int .i64 0]) (.build (cs := [.int .i64 1, .int .i64 0, .int .i64 0]) (by kernel_rfl)) ?_
   refine .step rfl (.storeAll (us := [.int .i64 1, .int .i64 0, .int .i64 0]) Tsize_69 rfl rfl rfl (.there _ (.there _ (.here _))) rfl ?_)
   refine .done ?_
   refine .ret ?_
   refine ⟨.agg #[.int .i64 1, .int .i64 0, .int .i64 0], [.blk bc 73 [vc, .int .i64 (((s2.1 : Nat) : Int)), .int .u64 (s2.2)], .own (.slice (some ⟨gk, 0, none⟩) m ck) 3 1 m (ints ks)], Out.cell1 rfl Tagg_69 rfl (Cells.blk (.tail _ (.tail _ (.head _))) ⟨rfl, rfl, rfl, trivial⟩), (Some'.weak (.take (.skip (.skip (.take (.nil _)))))), ?_⟩
   exact ⟨_, _, _, _, ⟨by omega, by first | exact gok12 p18 rfl rfl | exact gok1 hkk p18 p26 hx2 (by omega) | exact gok0 (by omega) | exact gok2 (by omega) p26 hx2 (by assumption)⟩, rfl, rfl⟩
  have p28 := h28; try simp only [bs] at p28
  refine .skip ?_
  refine .heldB (base := []) (by kernel_rfl) ?_
  refine DW.t 0 rfl (Some'.weak (.nil _)) (.pointer (some ⟨b2, 1, none⟩)) (.fieldAddr Tfo_69_1 rfl rfl) ?_
  refine DW.m 3 rfl (Some'.weak (.nil _)) ?_
  refine DW.m 4 rfl (Some'.weak (.nil _)) ?_
  refine DW.t 5 rfl (Some'.weak (.nil _)) (.int .i64 ((((N : Nat) : Int)) - 1)) (.sub rfl rfl rfl (by omega) (by omega)) ?_
  refine DW.m 8 rfl (Some'.weak (.nil _)) ?_
  refine DW.two (i := 1) (j := 6) (by kernel_rfl) rfl rfl rfl rfl ?_ ?_
  ·refine OpStep.q (v := .int .i64 x2) (OpQ.y (OpY.load1 Tone_3 rfl (.b (.tail _ (.head _))))) ?_
   refine ⟨(Some'.weak (.nil _)), ?_⟩
   refine DW.t 2 rfl (Some'.weak (.nil _)) (.int .i64 (x2 + 1)) (.add rfl rfl rfl (by omega) (by omega)) ?_
   refine DW.step (i := 6) (by kernel_rfl) rfl rfl (OpStep.callM (H1 := [.blk bc 73 [vc, .int .i64 (((s2.1 : Nat) : Int)), .int .u64 (s2.2)]]) (H2 := [.blk b2 69 [.int .i64 (ix ks (x1.toNat)), .int .i64 x2, .int .i64 0], .blk b1 69 [.int .i64 0, .int .i64 0, .int .i64 0], .own (.slice (some ⟨gk, 0, none⟩) m ck) 3 1 m (ints ks)]) (vs := [.pointer (some ⟨bc, 0, none⟩), .int .i64 ((((N : Nat) : Int)) - 1)]) (caps := []) Tcall_71 rfl rfl (Weak.refl _) (fun w hs => pick_ex (by omega) (Cur.go2 hc hoff hs) (hs.sub (List.sublist_append_left _ _)).self) ?_)
   rintro _ _ ⟨x3, s3, hx3, hs3, rfl, rfl⟩
   refine ⟨(Some'.weak (.nil _)), ?_⟩
   refine DW.t 7 rfl (Some'.weak (.nil _)) (.int .i64 ((x2 + 1) + x3)) (.add rfl rfl rfl (by omega) (by omega)) ?_
   have hem := Int.emod_nonneg ((x2 + 1) + x3) (show ((N : Nat) : Int) ≠ 0 by omega)
   refine DW.t 9 rfl (Some'.weak (.nil _)) (.int .i64 (((x2 + 1) + x3) % (((N : Nat) : Int)))) (.rem rfl rfl (by omega) (by omega)) ?_
   refine DW.t 10 rfl (Some'.weak (.nil _)) (.pointer (some ⟨b2, 2, none⟩)) (.fieldAddr Tfo_69_2 rfl rfl) ?_
   refine DW.step (i := 11) (by kernel_rfl) rfl rfl (OpStep.store (us := [.int .i64 (((x2 + 1) + x3) % (((N : Nat) : Int)))]) Tsize_3 rfl rfl rfl (.there _ (.here _)) (by simp only [List.length_cons, List.length_nil]; omega) ?_)
   show Weak [.blk bc 73 [vc, .int .i64 (((s3.1 : Nat) : Int)), .int .u64 (s3.2)], .blk b2 69 [.int .i64 (ix ks (x1.toNat)), .int .i64 x2, .int .i64 (((x2 + 1) + x3) % (((N : Nat) : Int)))], .blk b1 69 [.int .i64 0, .int .i64 0, .int .i64 0], .own (.slice (some ⟨gk, 0, none⟩) m ck) 3 1 m (ints ks)] _ ∧ DW _ _ _ _ _ _ _ [.blk bc 73 [vc, .int .i64 (((s3.1 : Nat) : Int)), .int .u64 (s3.2)], .blk b2 69 [.int .i64 (ix ks (x1.toNat)), .int .i64 x2, .int .i64 (((x2 + 1) + x3) % (((N : Nat) : Int)))], .blk b1 69 [.int .i64 0, .int .i64 0, .int .i64 0], .own (.slice (some ⟨gk, 0, none⟩) m ck) 3 1 m (ints ks)]
   refine ⟨(Some'.weak (.nil _)), ?_⟩
   refine DW.done (by kernel_rfl) ?_
   refine .sr ?_
   refine .u (.agg #[.int .i64 (ix ks (x1.toNat)), .int .i64 x2, .int .i64 (((x2 + 1) + x3) % (((N : Nat) : Int)))]) (.loadN (cs := [.int .i64 (ix ks (x1.toNat)), .int .i64 x2, .int .i64 (((x2 + 1) + x3) % (((N : Nat) : Int)))]) Tagg_69 rfl (Cells.blk (.tail _ (.head _)) ⟨rfl, rfl, rfl, trivial⟩)) ?_
   refine .step rfl (.storeAll (us := [.int .i64 (ix ks (x1.toNat)), .int .i64 x2, .int .i64 (((x2 + 1) + x3) % (((N : Nat) : Int)))]) Tsize_69 rfl rfl rfl (.there _ (.there _ (.here _))) rfl ?_)
   refine .done ?_
   refine .ret ?_
   refine ⟨.agg #[.int .i64 (ix ks (x1.toNat)), .int .i64 x2, .int .i64 (((x2 + 1) + x3) % (((N : Nat) : Int)))], [.blk bc 73 [vc, .int .i64 (((s3.1 : Nat) : Int)), .int .u64 (s3.2)], .own (.slice (some ⟨gk, 0, none⟩) m ck) 3 1 m (ints ks)], Out.cell1 rfl Tagg_69 rfl (Cells.blk (.tail _ (.tail _ (.head _))) ⟨rfl, rfl, rfl, trivial⟩), (Some'.weak (.take (.skip (.skip (.take (.nil _)))))), ?_⟩
   exact ⟨_, _, _, _, ⟨by omega, by first | exact gok12 p18 rfl rfl | exact gok1 hkk p18 p26 hx2 (by omega) | exact gok0 (by omega) | exact gok2 (by omega) p26 hx2 (by assumption)⟩, rfl, rfl⟩
  ·refine OpStep.callM (H1 := [.blk bc 73 [vc, .int .i64 (((s2.1 : Nat) : Int)), .int .u64 (s2.2)]]) (H2 := [.blk b2 69 [.int .i64 (ix ks (x1.toNat)), .int .i64 x2, .int .i64 0], .blk b1 69 [.int .i64 0, .int .i64 0, .int .i64 0], .own (.slice (some ⟨gk, 0, none⟩) m ck) 3 1 m (ints ks)]) (vs := [.pointer (some ⟨bc, 0, none⟩), .int .i64 ((((N : Nat) : Int)) - 1)]) (caps := []) Tcall_71 rfl rfl (Weak.refl _) (fun w hs => pick_ex (by omega) (Cur.go2 hc hoff hs) (hs.sub (List.sublist_append_left _ _)).self) ?_
   rintro _ _ ⟨x4, s4, hx4, hs4, rfl, rfl⟩
   refine ⟨(Some'.weak (.nil _)), ?_⟩
   refine DW.step (i := 1) (by kernel_rfl) rfl rfl (OpStep.q (v := .int .i64 x2) (OpQ.y (OpY.load1 Tone_3 rfl (.b (.tail _ (.head _))))) ?_)
   refine ⟨(Some'.weak (.nil _)), ?_⟩
   refine DW.t 2 rfl (Some'.weak (.nil _)) (.int .i64 (x2 + 1)) (.add rfl rfl rfl (by omega) (by omega)) ?_
   refine DW.t 7 rfl (Some'.weak (.nil _)) (.int .i64 ((x2 + 1) + x4)) (.add rfl rfl rfl (by omega) (by omega)) ?_
   have hem := Int.emod_nonneg ((x2 + 1) + x4) (show ((N : Nat) : Int) ≠ 0 by omega)
   refine DW.t 9 rfl (Some'.weak (.nil _)) (.int .i64 (((x2 + 1) + x4) % (((N : Nat) : Int)))) (.rem rfl rfl (by omega) (by omega)) ?_
   refine DW.t 10 rfl (Some'.weak (.nil _)) (.pointer (some ⟨b2, 2, none⟩)) (.fieldAddr Tfo_69_2 rfl rfl) ?_
   refine DW.step (i := 11) (by kernel_rfl) rfl rfl (OpStep.store (us := [.int .i64 (((x2 + 1) + x4) % (((N : Nat) : Int)))]) Tsize_3 rfl rfl rfl (.there _ (.here _)) (by simp only [List.length_cons, List.length_nil]; omega) ?_)
   show Weak [.blk bc 73 [vc, .int .i64 (((s4.1 : Nat) : Int)), .int .u64 (s4.2)], .blk b2 69 [.int .i64 (ix ks (x1.toNat)), .int .i64 x2, .int .i64 (((x2 + 1) + x4) % (((N : Nat) : Int)))], .blk b1 69 [.int .i64 0, .int .i64 0, .int .i64 0], .own (.slice (some ⟨gk, 0, none⟩) m ck) 3 1 m (ints ks)] _ ∧ DW _ _ _ _ _ _ _ [.blk bc 73 [vc, .int .i64 (((s4.1 : Nat) : Int)), .int .u64 (s4.2)], .blk b2 69 [.int .i64 (ix ks (x1.toNat)), .int .i64 x2, .int .i64 (((x2 + 1) + x4) % (((N : Nat) : Int)))], .blk b1 69 [.int .i64 0, .int .i64 0, .int .i64 0], .own (.slice (some ⟨gk, 0, none⟩) m ck) 3 1 m (ints ks)]
   refine ⟨(Some'.weak (.nil _)), ?_⟩
   refine DW.done (by kernel_rfl) ?_
   refine .sr ?_
   refine .u (.agg #[.int .i64 (ix ks (x1.toNat)), .int .i64 x2, .int .i64 (((x2 + 1) + x4) % (((N : Nat) : Int)))]) (.loadN (cs := [.int .i64 (ix ks (x1.toNat)), .int .i64 x2, .int .i64 (((x2 + 1) + x4) % (((N : Nat) : Int)))]) Tagg_69 rfl (Cells.blk (.tail _ (.head _)) ⟨rfl, rfl, rfl, trivial⟩)) ?_
   refine .step rfl (.storeAll (us := [.int .i64 (ix ks (x1.toNat)), .int .i64 x2, .int .i64 (((x2 + 1) + x4) % (((N : Nat) : Int)))]) Tsize_69 rfl rfl rfl (.there _ (.there _ (.here _))) rfl ?_)
   refine .done ?_
   refine .ret ?_
   refine ⟨.agg #[.int .i64 (ix ks (x1.toNat)), .int .i64 x2, .int .i64 (((x2 + 1) + x4) % (((N : Nat) : Int)))], [.blk bc 73 [vc, .int .i64 (((s4.1 : Nat) : Int)), .int .u64 (s4.2)], .own (.slice (some ⟨gk, 0, none⟩) m ck) 3 1 m (ints ks)], Out.cell1 rfl Tagg_69 rfl (Cells.blk (.tail _ (.tail _ (.head _))) ⟨rfl, rfl, rfl, trivial⟩), (Some'.weak (.take (.skip (.skip (.take (.nil _)))))), ?_⟩
   exact ⟨_, _, _, _, ⟨by omega, by first | exact gok12 p18 rfl rfl | exact gok1 hkk p18 p26 hx2 (by omega) | exact gok0 (by omega) | exact gok2 (by omega) p26 hx2 (by assumption)⟩, rfl, rfl⟩
 have p26 := h26; try simp only [bs] at p26
 refine .skip ?_
 refine .sr ?_
 refine .u (.agg #[.int .i64 (ix ks (x1.toNat)), .int .i64 x2, .int .i64 0]) (.loadN (cs := [.int .i64 (ix ks (x1.toNat)), .int .i64 x2, .int .i64 0]) Tagg_69 rfl (Cells.blk (.tail _ (.head _)) ⟨rfl, rfl, rfl, trivial⟩)) ?_
 refine .step rfl (.storeAll (us := [.int .i64 (ix ks (x1.toNat)), .int .i64 x2, .int .i64 0]) Tsize_69 rfl rfl rfl (.there _ (.there _ (.here _))) rfl ?_)
 refine .done ?_
 refine .ret ?_
 refine ⟨.agg #[.int .i64 (ix ks (x1.toNat)), .int .i64 x2, .int .i64 0], [.blk bc 73 [vc, .int .i64 (((s2.1 : Nat) : Int)), .int .u64 (s2.2)], .own (.slice (some ⟨gk, 0, none⟩) m ck) 3 1 m (ints ks)], Out.cell1 rfl Tagg_69 rfl (Cells.blk (.tail _ (.tail _ (.head _))) ⟨rfl, rfl, rfl, trivial⟩), (Some'.weak (.take (.skip (.skip (.take (.nil _)))))), ?_⟩
 exact ⟨_, _, _, _, ⟨by omega, by first | exact gok12 p18 rfl rfl | exact gok1 hkk p18 p26 hx2 (by omega) | exact gok0 (by omega) | exact gok2 (by omega) p26 hx2 (by assumption)⟩, rfl, rfl⟩

set_option maxHeartbeats 1000000 in
set_option maxRecDepth 20000 in
theorem of_spec {vl : Value} {m : Nat} {ls : List Bs} {bc n : Nat} {vc : Value} {cs : List Int} {s : Nat × Int} {w : World} (hat : s.1 < 2305843009213693950) (hm : 0 < m) (hc : Cur w bc vc n cs) (hoff : 0 < n → ∀ k, vc.ownBlock = some k → vl.ownBlock ≠ some k) (hst : St (Of [.blk bc 73 [vc, .int .i64 (((s.1 : Nat) : Int)), .int .u64 (s.2)], .own vl 9 1 m (strs ls)]) w w [.blk bc 73 [vc, .int .i64 (((s.1 : Nat) : Int)), .int .u64 (s.2)], .own vl 9 1 m (strs ls)]) : Calls Tryz.prog 74 #[.pointer (some ⟨bc, 0, none⟩), vl] w (Post (Of [.blk bc 73 [vc, .int .i64 (((s.1 : Nat) : Int)), .int .u64 (s.2)], .own vl 9 1 m (strs ls)]) w fun v H => ∃ (i : Nat) (s1 : Nat × Int), s1.1 ≤ s.1 + 2 ∧ v = sv (stx ls i) ∧ H = [.blk bc 73 [vc, .int .i64 (((s1.1 : Nat) : Int)), .int .u64 (s1.2)]]) := by
 have hll : ls.length = m := (hst.slOwn (.tail _ (.head _))).lenS
 refine enter (n := 12) (args := [.pointer (some ⟨bc, 0, none⟩), vl]) Tryz.func74 rfl rfl (hst) ?_
 refine .sr ?_
 refine .w (sv ([])) ?_
 refine .dsr ?_
 refine .w vl ?_
 refine .m ?_
 refine .w vl ?_
 refine Run.formOwn (.tail _ (.head _)) (fun A_vl1 c_vl1 hv hcapc_vl1 hmaxc_vl1 => ?_) (fun _ _ _ => ⟨nofun, nofun, nofun⟩)
 subst hv
 refine .u (.int .i64 (((m : Nat) : Int))) (.len Tsl_40 rfl) ?_
 have hoff2 := hoff
 refine .step rfl (.callM (H1 := [.blk bc 73 [vc, .int .i64 (((s.1 : Nat) : Int)), .int .u64 (s.2)]]) (H2 := [.own (.slice A_vl1 m c_vl1) 9 1 m (strs ls)]) (vs := [.pointer (some ⟨bc, 0, none⟩), .int .i64 (((m : Nat) : Int))]) (caps := []) Tcall_71 rfl rfl (Weak.refl _) (fun w hs => pick_ex (s := s) hat (Cur.go2 hc hoff2 hs) (hs.sub (List.sublist_append_left _ _)).self) ?_)
 rintro _ _ ⟨x1, s1, hx1, hs1, rfl, rfl⟩
 show Run _ _ (putF _ _ _ (.int .i64 x1)) [.blk bc 73 [vc, .int .i64 (((s1.1 : Nat) : Int)), .int .u64 (s1.2)], .own (.slice A_vl1 m c_vl1) 9 1 m (strs ls)]
 refine Run.openOwn (.tail _ (.head _)) (by omega) (fun gl cl hvgl hcapgl _ => ?_) (fun _ _ _ => ⟨nofun, nofun, nofun⟩)
 injection hvgl with hAgl _ hcgl; subst hAgl; subst hcgl
 refine .u (.pointer (some ⟨gl, x1.toNat, none⟩)) (.ix (x1.toNat) Tsl_40) ?_
 refine .u (sv (stx ls (x1.toNat))) (.load1 Tone_9 rfl (Cells.own0 (.tail _ (.head _)) (preS (by omega)))) ?_
 refine .w (sv (stx ls (x1.toNat))) ?_
 refine .done ?_
 refine .ret ?_
 refine ⟨sv (stx ls (x1.toNat)), [.blk bc 73 [vc, .int .i64 (((s1.1 : Nat) : Int)), .int .u64 (s1.2)]], Out.one rfl rfl, (Some'.weak (.take (.nil _))), ?_⟩
 exact ⟨x1.toNat, s1, hs1, rfl, rfl⟩

set_option maxHeartbeats 1000000 in
set_option maxRecDepth 20000 in
theorem lineOf_spec {N : Nat} {bc n : Nat} {vc : Value} {cs : List Int} {s : Nat × Int} {w : World} (hN : 2 ≤ N ∧ N ≤ 5) (hat : s.1 < 2305843009212900000) (hc : Cur w bc vc n cs) (hst : St (Of [.blk bc 73 [vc, .int .i64 (((s.1 : Nat) : Int)), .int .u64 (s.2)]]) w w [.blk bc 73 [vc, .int .i64 (((s.1 : Nat) : Int)), .int .u64 (s.2)]]) : Calls Tryz.prog 73 #[.pointer (some ⟨bc, 0, none⟩), .int .i64 ((N : Nat) : Int)] w (Post (Of [.blk bc 73 [vc, .int .i64 (((s.1 : Nat) : Int)), .int .u64 (s.2)]]) w fun v H => ∃ (x : Bs) (s1 : Nat × Int), (s1.1 ≤ s.1 + 10 ∧ x.length ≤ 11) ∧ v = sv x ∧ H = [.blk bc 73 [vc, .int .i64 (((s1.1 : Nat) : Int)), .int .u64 (s1.2)]]) := by
 refine enter (n := 11) (args := [.pointer (some ⟨bc, 0, none⟩), .int .i64 (((N : Nat) : Int))]) Tryz.func73 rfl rfl (hst) ?_
 refine .sr ?_
 refine .w (sv ([])) ?_
 refine .dsr ?_
 iterate 2 refine .m ?_
 refine .step rfl (.buildSlice (us := [.int .i64 1, .int .i64 2, .int .i64 4, .int .i64 5, .int .i64 7, .int .i64 9, .int .i64 9, .int .i64 10, .int .i64 11, .int .i64 12]) Tsl_75 (by decide) (by decide) ⟨rfl, [.int .i64 1], _, rfl, rfl, rfl, ⟨rfl, [.int .i64 2], _, rfl, rfl, rfl, ⟨rfl, [.int .i64 4], _, rfl, rfl, rfl, ⟨rfl, [.int .i64 5], _, rfl, rfl, rfl, ⟨rfl, [.int .i64 7], _, rfl, rfl, rfl, ⟨rfl, [.int .i64 9], _, rfl, rfl, rfl, ⟨rfl, [.int .i64 9], _, rfl, rfl, rfl, ⟨rfl, [.int .i64 10], _, rfl, rfl, rfl, ⟨rfl, [.int .i64 11], _, rfl, rfl, rfl, ⟨rfl, [.int .i64 12], _, rfl, rfl, rfl, rfl⟩⟩⟩⟩⟩⟩⟩⟩⟩⟩ rfl fun b1 => ?_)
 refine .step rfl (.callM (H1 := [.blk bc 73 [vc, .int .i64 (((s.1 : Nat) : Int)), .int .u64 (s.2)], .own (.slice (some ⟨b1, 0, none⟩) 10 10) 3 1 10 (ints [1, 2, 4, 5, 7, 9, 9, 10, 11, 12])]) (H2 := []) (vs := [.pointer (some ⟨bc, 0, none⟩), .int .i64 (((N : Nat) : Int)), .slice (some ⟨b1, 0, none⟩) 10 10]) (caps := []) Tcall_98 rfl rfl (Weak.selF [1, 0]) (fun w hs => gateV_spec (by omega) (by decide) (by omega) (hc.go hs) (by decide) (hc.apart hs (.tail _ (.head _))) (hs.sub (List.sublist_append_left _ _)).self) ?_)
 rintro _ _ ⟨kg, ag, bg, s1, ⟨hs1, hok⟩, rfl, rfl⟩
 show Run _ _ (putF _ _ _ (.agg #[.int .i64 kg, .int .i64 ag, .int .i64 bg])) [.blk bc 73 [vc, .int .i64 (((s1.1 : Nat) : Int)), .int .u64 (s1.2)], .own (.slice (some ⟨b1, 0, none⟩) 10 10) 3 1 10 (ints [1, 2, 4, 5, 7, 9, 9, 10, 11, 12])]
 have hgl := gtx_len (kg, ag, bg)
 refine .c (sv (gtx (kg, ag, bg))) [.agg #[.int .i64 kg, .int .i64 ag, .int .i64 bg]] Tcall_44 (fun w hs => l4Text_spec (gateOk_five hok (by omega)) _) ?_
 refine .u (sv ((gtx (kg, ag, bg)) ++ ([10]))) (.addS rfl rfl (by first | omega | (simp only [List.length_append, List.length_cons, List.length_nil]; omega))) ?_
 refine .w (sv ((gtx (kg, ag, bg)) ++ ([10]))) ?_
 refine .done ?_
 refine .ret ?_
 refine ⟨sv ((gtx (kg, ag, bg)) ++ ([10])), [.blk bc 73 [vc, .int .i64 (((s1.1 : Nat) : Int)), .int .u64 (s1.2)]], Out.one rfl rfl, (Some'.weak (.take (.nil _))), ?_⟩
 exact ⟨_, _, ⟨by omega, by rw [List.length_append]; simp only [List.length_cons, List.length_nil]; omega⟩, rfl, rfl⟩

set_option maxHeartbeats 1000000 in
set_option maxRecDepth 20000 in
theorem spoilt_spec {t u : Bs} {bc n : Nat} {vc : Value} {cs : List Int} {s : Nat × Int} {w : World} (hu : 0 < u.length ∧ u.length ≤ 100) (ht : t.length ≤ 1000000) (hat : s.1 < 2305843009212900000) (hc : Cur w bc vc n cs) (hst : St (Of [.blk bc 73 [vc, .int .i64 (((s.1 : Nat) : Int)), .int .u64 (s.2)]]) w w [.blk bc 73 [vc, .int .i64 (((s.1 : Nat) : Int)), .int .u64 (s.2)]]) : Calls Tryz.prog 75 #[.pointer (some ⟨bc, 0, none⟩), sv t, sv u] w (Post (Of [.blk bc 73 [vc, .int .i64 (((s.1 : Nat) : Int)), .int .u64 (s.2)]]) w fun v H => ∃ (x : Bs) (s1 : Nat × Int), (s1.1 ≤ s.1 + 50 ∧ x.length ≤ t.length + 2) ∧ v = sv x ∧ H = [.blk bc 73 [vc, .int .i64 (((s1.1 : Nat) : Int)), .int .u64 (s1.2)]]) := by
 refine enter (n := 68) (args := [.pointer (some ⟨bc, 0, none⟩), sv t, sv u]) Tryz.func75 rfl rfl (hst) ?_
 refine .sr ?_
 refine .w (sv ([])) ?_
 refine .done ?_
 refine .seq ?_
 refine .sr ?_
 refine .m ?_
 refine .step rfl (.callM (H1 := [.blk bc 73 [vc, .int .i64 (((s.1 : Nat) : Int)), .int .u64 (s.2)]]) (H2 := []) (vs := [.pointer (some ⟨bc, 0, none⟩), .int .i64 2]) (caps := []) Tcall_71 rfl rfl (Weak.refl _) (fun w hs => pick_ex (by omega) (hc.go hs) (hs.sub (List.sublist_append_left _ _)).self) ?_)
 rintro _ _ ⟨x1, s1, hx1, hs1, rfl, rfl⟩
 show Run _ _ (putF _ _ _ (.int .i64 x1)) [.blk bc 73 [vc, .int .i64 (((s1.1 : Nat) : Int)), .int .u64 (s1.2)]]
 refine .u (.int .i64 (1 + x1)) (.add rfl rfl rfl (by omega) (by omega)) ?_
 refine .m ?_
 refine .done ?_
 obtain ⟨i0, hi0⟩ : ∃ i0 : Nat, 1 + x1 = ((i0 : Nat) : Int) := ⟨(1 + x1).toNat, by omega⟩
 rw [hi0]
 refine .block ?_
 refine Run.loop (ι := Nat × Bs × (Nat × Int)) ([1, 7, 8, 9, 13, 14, 15, 16, 17, 18, 19, 20, 21, 22, 23, 24, 25, 26, 27, 28, 29, 30, 31, 32, 33, 34, 35, 36, 37, 38, 39, 40, 41, 42, 43, 44, 45, 46, 47, 48, 49, 50, 51, 52, 53, 54, 55, 56, 57, 58] ++ [59, 60, 61, 62, 63, 64, 65, 66]) (fun ⟨i, x, sc⟩ => [(1, sv x), (7, .int .i64 (((i : Nat) : Int)))]) (fun ⟨i, x, sc⟩ => [.blk bc 73 [vc, .int .i64 (((sc.1 : Nat) : Int)), .int .u64 (sc.2)]]) (fun ⟨i, x, sc⟩ => x.length + i ≤ t.length + 2 ∧ sc.1 + 8 * i ≤ s.1 + 40) (fun ⟨i, x, sc⟩ => i) (i0, t, s1) ?_ ?_ ?_ ?_
 ·exact ⟨by omega, by omega⟩
 ·exact ⟨rfl, rfl, trivial⟩
 ·exact ((Weak.refl _).trans (Some'.weak (.takeEq (by first | rfl | simp) (.nil _))))
 rintro ⟨i, x, sc⟩ fr hinv
 show Run _ _ (over _ _ [(1, sv x), (7, .int .i64 (((i : Nat) : Int)))] fr) [.blk bc 73 [vc, .int .i64 (((sc.1 : Nat) : Int)), .int .u64 (sc.2)]]
 try dsimp only at hinv
 obtain ⟨hxi, hsi⟩ := hinv
 refine .seq ?_
 refine .sr ?_
 refine .m ?_
 refine .w (.bool (decide ((((i : Nat) : Int)) > 0))) ?_
 rcases Bool.eq_false_or_eq_true (decide ((((i : Nat) : Int)) > 0)) with h15 | h15
 ·refine .mb h15 ?_
  have p15 := h15; try simp only [bs] at p15
  refine .w (sv x) ?_
  refine .u (.int .i64 (((x.length : Nat) : Int))) (.lenS Tstr_9 rfl) ?_
  refine .w (.bool (decide ((((x.length : Nat) : Int)) > 0))) ?_
  refine .w (.bool (decide ((((x.length : Nat) : Int)) > 0))) ?_
  refine .done ?_
  refine .cond (b := decide ((((x.length : Nat) : Int)) > 0)) rfl (fun h19 => ?_) (fun h19 => ?_)
  ·have p19 := h19; try simp only [bs] at p19
   refine .skip ?_
   refine .seq ?_
   refine .block ?_
   refine .sr ?_
   refine .m ?_
   refine .w (sv x) ?_
   refine .u (.int .i64 (((x.length : Nat) : Int))) (.lenS Tstr_9 rfl) ?_
   refine .step rfl (.callM (H1 := [.blk bc 73 [vc, .int .i64 (((sc.1 : Nat) : Int)), .int .u64 (sc.2)]]) (H2 := []) (vs := [.pointer (some ⟨bc, 0, none⟩), .int .i64 (((x.length : Nat) : Int))]) (caps := []) Tcall_71 rfl rfl (Weak.refl _) (fun w hs => pick_ex (by omega) (hc.go hs) (hs.sub (List.sublist_append_left _ _)).self) ?_)
   rintro _ _ ⟨x2, s2, hx2, hs2, rfl, rfl⟩
   show Run _ _ (putF _ _ _ (.int .i64 x2)) [.blk bc 73 [vc, .int .i64 (((s2.1 : Nat) : Int)), .int .u64 (s2.2)]]
   refine .m ?_
   refine .dsr ?_
   refine .w (sv u) ?_
   refine .m ?_
   refine .w (sv u) ?_
   refine .u (.int .i64 (((u.length : Nat) : Int))) (.lenS Tstr_9 rfl) ?_
   refine .step rfl (.callM (H1 := [.blk bc 73 [vc, .int .i64 (((s2.1 : Nat) : Int)), .int .u64 (s2.2)]]) (H2 := []) (vs := [.pointer (some ⟨bc, 0, none⟩), .int .i64 (((u.length : Nat) : Int))]) (caps := []) Tcall_71 rfl rfl (Weak.refl _) (fun w hs => pick_ex (by omega) (hc.go hs) (hs.sub (List.sublist_append_left _ _)).self) ?_)
   rintro _ _ ⟨x3, s3, hx3, hs3, rfl, rfl⟩
   show Run _ _ (putF _ _ _ (.int .i64 x3)) [.blk bc 73 [vc, .int .i64 (((s3.1 : Nat) : Int)), .int .u64 (s3.2)]]
   refine .u (.int .u8 (byx u ((x3).toNat))) (.indexS (j := (x3).toNat) Tstr_9 rfl rfl (by first | rfl | omega) (by omega)) ?_
   refine .step rfl (.buildSlice (us := [.int .u8 (byx u ((x3).toNat))]) Tsl_30 (by decide) (by decide) ⟨rfl, [.int .u8 (byx u ((x3).toNat))], _, rfl, rfl, rfl, rfl⟩ rfl fun b1 => ?_)
   refine .u (sv ([chr (byx u ((x3).toNat))])) (.bytesS (xs := [byx u ((x3).toNat)]) Tbytes_30 Tstr_9 rfl rfl (Cells.own0 (.head _) ⟨rfl, trivial⟩)) ?_
   refine .w (sv ([chr (byx u ((x3).toNat))])) ?_
   refine .dsr ?_
   refine .m ?_
   refine .step rfl (.callM (H1 := [.blk bc 73 [vc, .int .i64 (((s3.1 : Nat) : Int)), .int .u64 (s3.2)]]) (H2 := [.own (.slice (some ⟨b1, 0, none⟩) 1 1) 5 1 1 ([.int .u8 (byx u ((x3).toNat))])]) (vs := [.pointer (some ⟨bc, 0, none⟩), .int .i64 3]) (caps := []) Tcall_71 rfl rfl (Weak.selF [1]) (fun w hs => pick_ex (by omega) (hc.go hs) (hs.sub (List.sublist_append_left _ _)).self) ?_)
   rintro _ _ ⟨x4, s4, hx4, hs4, rfl, rfl⟩
   show Run _ _ (putF _ _ _ (.int .i64 x4)) [.blk bc 73 [vc, .int .i64 (((s4.1 : Nat) : Int)), .int .u64 (s4.2)], .own (.slice (some ⟨b1, 0, none⟩) 1 1) 5 1 1 ([.int .u8 (byx u ((x3).toNat))])]
   refine .done ?_
   have hx8 : x2 < x.length := by omega
   refine .block ?_
   refine .sr ?_
   refine .w (.bool (x4 == 0)) ?_
   refine .m ?_
   refine .done ?_
   refine .cond (b := x4 == 0) rfl (fun h44 => ?_) (fun h44 => ?_)
   ·have p44 := h44; try simp only [bs] at p44
    have hq0 := ssub_length (l := x) (a := 0) (b := (x2).toNat) (by omega)
    have hq1 := ssub_length (l := x) (a := (x2).toNat) (b := x.length) (by omega)
    refine .draws (by kernel_rfl) (by kernel_rfl) ?_
    refine .w (sv x) ?_
    refine .m ?_
    refine .u (sv (ssub x 0 ((x2).toNat))) (.sliceSH (b := (x2).toNat) Tstr_9 rfl rfl (by first | rfl | omega) (by omega)) ?_
    refine .w (sv ([chr (byx u ((x3).toNat))])) ?_
    refine .u (sv ((ssub x 0 ((x2).toNat)) ++ ([chr (byx u ((x3).toNat))]))) (.addS rfl rfl (by first | omega | (simp only [List.length_append, List.length_cons, List.length_nil]; omega))) ?_
    refine .w (sv x) ?_
    refine .m ?_
    refine .u (sv (ssub x ((x2).toNat) x.length)) (.sliceSL (a := (x2).toNat) Tstr_9 rfl rfl (by first | rfl | omega) (by omega)) ?_
    refine .u (sv (((ssub x 0 ((x2).toNat)) ++ ([chr (byx u ((x3).toNat))])) ++ (ssub x ((x2).toNat) x.length))) (.addS rfl rfl (by first | omega | (simp only [List.length_append, List.length_cons, List.length_nil]; omega))) ?_
    refine .w (sv (((ssub x 0 ((x2).toNat)) ++ ([chr (byx u ((x3).toNat))])) ++ (ssub x ((x2).toNat) x.length))) ?_
    refine .done ?_
    iterate 2 refine .blockEnd ?_
    refine .region ?_
    refine .m ?_
    refine .u (.int .i64 ((((i : Nat) : Int)) - 1)) (.sub rfl rfl rfl (by omega) (by omega)) ?_
    refine .m ?_
    refine .done ?_
    refine .goal ⟨(by repeat (first | exact Same.refl _ _ | refine Same.put rfl ?_ | refine Same.over rfl rfl ?_)), (i - 1, ((ssub x 0 ((x2).toNat)) ++ ([chr (byx u ((x3).toNat))])) ++ (ssub x ((x2).toNat) x.length), s4), ?_, ?_, ?_, ?_⟩
    ·exact ⟨by (simp only [List.length_append, List.length_cons, List.length_nil]; omega), by omega⟩
    ·show i - 1 < i; omega
    ·exact ⟨(by first | rfl | (congr 1; omega) | simp), (by show Value.int _ _ = Value.int _ _; congr 1; omega), trivial⟩
    ·exact ((Weak.refl _).trans (Some'.weak (.takeEq (by first | rfl | simp) (.nil _))))
   have p44 := h44; try simp only [bs] at p44
   refine .sr ?_
   refine .w (.bool (x4 == 1)) ?_
   refine .m ?_
   refine .done ?_
   refine .cond (b := x4 == 1) rfl (fun h55 => ?_) (fun h55 => ?_)
   ·have p55 := h55; try simp only [bs] at p55
    have hq0 := ssub_length (l := x) (a := 0) (b := (x2).toNat) (by omega)
    have hq1 := ssub_length (l := x) (a := (x2 + 1).toNat) (b := x.length) (by omega)
    refine .draws (by kernel_rfl) (by kernel_rfl) ?_
    refine .w (sv x) ?_
    refine .m ?_
    refine .u (sv (ssub x 0 ((x2).toNat))) (.sliceSH (b := (x2).toNat) Tstr_9 rfl rfl (by first | rfl | omega) (by omega)) ?_
    refine .w (sv ([chr (byx u ((x3).toNat))])) ?_
    refine .u (sv ((ssub x 0 ((x2).toNat)) ++ ([chr (byx u ((x3).toNat))]))) (.addS rfl rfl (by first | omega | (simp only [List.length_append, List.length_cons, List.length_nil]; omega))) ?_
    refine .w (sv x) ?_
    refine .m ?_
    refine .u (.int .i64 (x2 + 1)) (.add rfl rfl rfl (by omega) (by omega)) ?_
    refine .u (sv (ssub x ((x2 + 1).toNat) x.length)) (.sliceSL (a := (x2 + 1).toNat) Tstr_9 rfl rfl (by first | rfl | omega) (by omega)) ?_
    refine .u (sv (((ssub x 0 ((x2).toNat)) ++ ([chr (byx u ((x3).toNat))])) ++ (ssub x ((x2 + 1).toNat) x.length))) (.addS rfl rfl (by first | omega | (simp only [List.length_append, List.length_cons, List.length_nil]; omega))) ?_
    refine .w (sv (((ssub x 0 ((x2).toNat)) ++ ([chr (byx u ((x3).toNat))])) ++ (ssub x ((x2 + 1).toNat) x.length))) ?_
    refine .done ?_
    iterate 2 refine .blockEnd ?_
    refine .region ?_
    refine .m ?_
    refine .u (.int .i64 ((((i : Nat) : Int)) - 1)) (.sub rfl rfl rfl (by omega) (by omega)) ?_
    refine .m ?_
    refine .done ?_
    refine .goal ⟨(by repeat (first | exact Same.refl _ _ | refine Same.put rfl ?_ | refine Same.over rfl rfl ?_)), (i - 1, ((ssub x 0 ((x2).toNat)) ++ ([chr (byx u ((x3).toNat))])) ++ (ssub x ((x2 + 1).toNat) x.length), s4), ?_, ?_, ?_, ?_⟩
    ·exact ⟨by (simp only [List.length_append, List.length_cons, List.length_nil]; omega), by omega⟩
    ·show i - 1 < i; omega
    ·exact ⟨(by first | rfl | (congr 1; omega) | simp), (by show Value.int _ _ = Value.int _ _; congr 1; omega), trivial⟩
    ·exact ((Weak.refl _).trans (Some'.weak (.takeEq (by first | rfl | simp) (.nil _))))
   have p55 := h55; try simp only [bs] at p55
   have hq0 := ssub_length (l := x) (a := 0) (b := (x2).toNat) (by omega)
   have hq1 := ssub_length (l := x) (a := (x2 + 1).toNat) (b := x.length) (by omega)
   refine .draws (by kernel_rfl) (by kernel_rfl) ?_
   refine .w (sv x) ?_
   refine .m ?_
   refine .u (sv (ssub x 0 ((x2).toNat))) (.sliceSH (b := (x2).toNat) Tstr_9 rfl rfl (by first | rfl | omega) (by omega)) ?_
   refine .w (sv x) ?_
   refine .m ?_
   refine .u (.int .i64 (x2 + 1)) (.add rfl rfl rfl (by omega) (by omega)) ?_
   refine .u (sv (ssub x ((x2 + 1).toNat) x.length)) (.sliceSL (a := (x2 + 1).toNat) Tstr_9 rfl rfl (by first | rfl | omega) (by omega)) ?_
   refine .u (sv ((ssub x 0 ((x2).toNat)) ++ (ssub x ((x2 + 1).toNat) x.length))) (.addS rfl rfl (by first | omega | (simp only [List.length_append, List.length_cons, List.length_nil]; omega))) ?_
   refine .w (sv ((ssub x 0 ((x2).toNat)) ++ (ssub x ((x2 + 1).toNat) x.length))) ?_
   refine .done ?_
   iterate 2 refine .blockEnd ?_
   refine .region ?_
   refine .m ?_
   refine .u (.int .i64 ((((i : Nat) : Int)) - 1)) (.sub rfl rfl rfl (by omega) (by omega)) ?_
   refine .m ?_
   refine .done ?_
   refine .goal ⟨(by repeat (first | exact Same.refl _ _ | refine Same.put rfl ?_ | refine Same.over rfl rfl ?_)), (i - 1, (ssub x 0 ((x2).toNat)) ++ (ssub x ((x2 + 1).toNat) x.length), s4), ?_, ?_, ?_, ?_⟩
   ·exact ⟨by (simp only [List.length_append, List.length_cons, List.length_nil]; omega), by omega⟩
   ·show i - 1 < i; omega
   ·exact ⟨(by first | rfl | (congr 1; omega) | simp), (by show Value.int _ _ = Value.int _ _; congr 1; omega), trivial⟩
   ·exact ((Weak.refl _).trans (Some'.weak (.takeEq (by first | rfl | simp) (.nil _))))
  have p19 := h19; try simp only [bs] at p19
  refine .exit rfl ?_
  refine .sr ?_
  refine .w (sv x) ?_
  refine .w (sv x) ?_
  refine .done ?_
  refine .ret ?_
  refine ⟨sv x, [.blk bc 73 [vc, .int .i64 (((sc.1 : Nat) : Int)), .int .u64 (sc.2)]], Out.one rfl rfl, (Some'.weak (.take (.nil _))), ?_⟩
  exact ⟨_, _, ⟨by omega, by omega⟩, rfl, rfl⟩
 refine .mb h15 ?_
 have p15 := h15; try simp only [bs] at p15
 iterate 3 refine .pass rfl ?_
 refine .w (.bool false) ?_
 refine .done ?_
 refine .cond (b := false) rfl (fun h => nomatch h) (fun _ => ?_)
 refine .exit rfl ?_
 refine .sr ?_
 refine .w (sv x) ?_
 refine .w (sv x) ?_
 refine .done ?_
 refine .ret ?_
 refine ⟨sv x, [.blk bc 73 [vc, .int .i64 (((sc.1 : Nat) : Int)), .int .u64 (sc.2)]], Out.one rfl rfl, (Some'.weak (.take (.nil _))), ?_⟩
 exact ⟨_, _, ⟨by omega, by omega⟩, rfl, rfl⟩

set_option maxHeartbeats 1000000 in
set_option maxRecDepth 20000 in
theorem built_spec {N m K : Nat} {vk : Value} {ks : List Int} {bc n : Nat} {vc : Value} {cs : List Int} {s : Nat × Int} {w : World} (hN : 1 ≤ N ∧ N ≤ 6) (hks : ∀ x ∈ ks, 1 ≤ x ∧ x ≤ 12) (hK : K ≤ 100) (hat : s.1 < 2305843009212000000) (hc : Cur w bc vc n cs) (hm : 0 < m ∧ m ≤ 100) (hoff : 0 < n → ∀ k, vc.ownBlock = some k → vk.ownBlock ≠ some k) (hst : St (Of [.blk bc 73 [vc, .int .i64 (((s.1 : Nat) : Int)), .int .u64 (s.2)], .own vk 3 1 m (ints ks)]) w w [.blk bc 73 [vc, .int .i64 (((s.1 : Nat) : Int)), .int .u64 (s.2)], .own vk 3 1 m (ints ks)]) : Calls Tryz.prog 111 #[.pointer (some ⟨bc, 0, none⟩), .int .i64 (N : Nat), .int .i64 (K : Nat), vk] w (Post (Of [.blk bc 73 [vc, .int .i64 (((s.1 : Nat) : Int)), .int .u64 (s.2)], .own vk 3 1 m (ints ks)]) w fun v H => ∃ (u : Value) (g : Nat) (gx : List Int) (s1 : Nat × Int), (g ≤ K ∧ s1.1 ≤ s.1 + 2 + 10 * K) ∧ v = .agg #[.int .i64 (N : Nat), u] ∧ H = [.own u 69 3 g (ints gx), .blk bc 73 [vc, .int .i64 (s1.1 : Nat), .int .u64 s1.2], .own vk 3 1 m (ints ks)]) := by
 refine enter (n := 31) (args := [.pointer (some ⟨bc, 0, none⟩), .int .i64 (((N : Nat) : Int)), .int .i64 (((K : Nat) : Int)), vk]) Tryz.func111 rfl rfl (hst) ?_
 refine .sr ?_
 refine .step rfl (.alloc (zs := [.int .i64 0, .slice none 0 0]) Tzero_24 fun b1 => ?_)
 refine .dsr ?_
 refine .m ?_
 refine .u (.agg #[.int .i64 (((N : Nat) : Int)), .slice none 0 0]) (.build (cs := [.int .i64 (((N : Nat) : Int)), .slice none 0 0]) (by kernel_rfl)) ?_
 refine .step rfl (.alloc (zs := [.int .i64 0, .slice none 0 0]) Tzero_24 fun b2 => ?_)
 refine .step rfl (.storeAll (us := [.int .i64 (((N : Nat) : Int)), .slice none 0 0]) Tsize_24 rfl rfl rfl (.here _) rfl ?_)
 refine .done ?_
 refine .seq ?_
 refine .sr ?_
 iterate 2 refine .m ?_
 refine .u (.int .i64 (((K + 1 : Nat) : Int))) (.add rfl rfl (by omega) (by omega) (by omega)) ?_
 refine .step rfl (.callM (H1 := [.blk bc 73 [vc, .int .i64 (((s.1 : Nat) : Int)), .int .u64 (s.2)]]) (H2 := [.blk b2 24 [.int .i64 (((N : Nat) : Int)), .slice none 0 0], .blk b1 24 [.int .i64 0, .slice none 0 0], .own vk 3 1 m (ints ks)]) (vs := [.pointer (some ⟨bc, 0, none⟩), .int .i64 (((K + 1 : Nat) : Int))]) (caps := []) Tcall_71 rfl rfl (Weak.selF [2]) (fun w hs => pick_ex (by omega) (Cur.go2 hc hoff hs) (hs.sub (List.sublist_append_left _ _)).self) ?_)
 rintro _ _ ⟨x1, s1, hx1, hs1, rfl, rfl⟩
 show Run _ _ (putF _ _ _ (.int .i64 x1)) [.blk bc 73 [vc, .int .i64 (((s1.1 : Nat) : Int)), .int .u64 (s1.2)], .blk b2 24 [.int .i64 (((N : Nat) : Int)), .slice none 0 0], .blk b1 24 [.int .i64 0, .slice none 0 0], .own vk 3 1 m (ints ks)]
 refine .m ?_
 refine .done ?_
 obtain ⟨i0, hi0⟩ : ∃ i0 : Nat, x1 = ((i0 : Nat) : Int) := ⟨(x1).toNat, by omega⟩
 rw [hi0]
 refine Run.weak (H' := [.own (.slice none 0 0) 69 3 0 ([]), .blk bc 73 [vc, .int .i64 (((s1.1 : Nat) : Int)), .int .u64 (s1.2)], .blk b2 24 [.int .i64 (((N : Nat) : Int)), .slice none 0 0], .blk b1 24 [.int .i64 0, .slice none 0 0], .own vk 3 1 m (ints ks)]) (Weak.nilOwn _ _) ?_ ⟨_, _, rfl, fun _ => nofun, fun _ => nofun⟩
 refine .block ?_
 refine Run.loop (ι := Nat × (Nat × Int) × Nat × List Int × Value) [10, 17, 18, 19, 20, 21, 22, 23, 24, 25, 26, 27, 28, 29] (fun ⟨i, sc, g, gx, vg⟩ => [(10, .int .i64 (((i : Nat) : Int)))]) (fun ⟨i, sc, g, gx, vg⟩ => [.own vg 69 3 g (ints gx), .own vk 3 1 m (ints ks), .blk b2 24 [.int .i64 (((N : Nat) : Int)), vg], .blk b1 24 [.int .i64 0, .slice none 0 0], .blk bc 73 [vc, .int .i64 (((sc.1 : Nat) : Int)), .int .u64 (sc.2)]]) (fun ⟨i, sc, g, gx, vg⟩ => g + i ≤ K ∧ sc.1 + 10 * i ≤ s.1 + 2 + 10 * K) (fun ⟨i, sc, g, gx, vg⟩ => i) (i0, s1, 0, [], .slice none 0 0) ?_ ?_ ?_ ?_
 ·exact ⟨by omega, by omega⟩
 ·exact ⟨rfl, trivial⟩
 ·exact ((Weak.selF [0, 3, 1, 1, 0]).trans (Some'.weak (.takeEq (by first | rfl | simp [ints]) (.take (.takeEq (by first | rfl | simp [ints]) (.take (.takeEq (by first | rfl | simp [ints]) (.nil _))))))))
 rintro ⟨i, sc, g, gx, vg⟩ fr hinv
 show Run _ _ (over _ _ [(10, .int .i64 (((i : Nat) : Int)))] fr) [.own vg 69 3 g (ints gx), .own vk 3 1 m (ints ks), .blk b2 24 [.int .i64 (((N : Nat) : Int)), vg], .blk b1 24 [.int .i64 0, .slice none 0 0], .blk bc 73 [vc, .int .i64 (((sc.1 : Nat) : Int)), .int .u64 (sc.2)]]
 try dsimp only at hinv
 obtain ⟨hgi, hsi⟩ := hinv
 refine .seq ?_
 refine .sr ?_
 refine .m ?_
 refine .w (.bool (decide ((((i : Nat) : Int)) > 0))) ?_
 refine .done ?_
 refine .cond (b := decide ((((i : Nat) : Int)) > 0)) rfl (fun h18 => ?_) (fun h18 => ?_)
 ·have p18 := h18; try simp only [bs] at p18
  refine .skip ?_
  refine .seq ?_
  refine .block ?_
  refine .lastlyB [9] [.blk b2 24 [.int .i64 (((N : Nat) : Int)), vg], .blk b1 24 [.int .i64 0, .slice none 0 0]] (by kernel_rfl) ?_
  refine DL.tP 0 rfl (.pointer (some ⟨b2, 1, none⟩)) (fun _ => OpY.fieldAddr Tfo_24_1 rfl rfl) ?_
  refine DL.t 1 rfl (Some'.weak (.skip (.skip (.take (.take (.nil _)))))) vg (.load1 Tone_22 rfl (.b (.head _))) ?_
  refine DL.m 2 rfl ?_
  refine DL.m 3 rfl ?_
  refine DL.tP 4 rfl vk (fun _ => OpY.pure rfl) ?_
  refine DL.stepS (i := 5) (by kernel_rfl) rfl rfl (OpStep.callM (H1 := [.blk bc 73 [vc, .int .i64 (((sc.1 : Nat) : Int)), .int .u64 (sc.2)], .own vk 3 1 m (ints ks)]) (H2 := [.own vg 69 3 g (ints gx), .blk b2 24 [.int .i64 (((N : Nat) : Int)), vg], .blk b1 24 [.int .i64 0, .slice none 0 0]]) (vs := [.pointer (some ⟨bc, 0, none⟩), .int .i64 (((N : Nat) : Int)), vk]) (caps := []) Tcall_98 rfl rfl (Weak.selF [4, 1]) (fun w hs => gateV_spec hN hks (by omega) (Cur.go2 hc hoff hs) hm hoff (hs.sub (List.sublist_append_left _ _)).self) ?_)
  rintro _ _ ⟨k1, a1, b3, s2, ⟨hs2, _⟩, rfl, rfl⟩
  refine ⟨(Some'.weak (.skip (.skip (.skip (.take (.take (.nil _))))))), ?_⟩
  refine DL.stepS (i := 6) (by kernel_rfl) rfl rfl (OpStep.buildSlice (us := [.int .i64 k1, .int .i64 a1, .int .i64 b3]) Tsl_22 (by decide) (by decide) ⟨rfl, [.int .i64 k1, .int .i64 a1, .int .i64 b3], _, rfl, rfl, rfl, rfl⟩ rfl fun b4 => ?_)
  refine ⟨(Some'.weak (.skip (.skip (.skip (.skip (.take (.take (.nil _)))))))), ?_⟩
  refine DL.stepS (i := 7) (by kernel_rfl) rfl rfl (OpStep.append (H1 := [.own (.slice (some ⟨b4, 0, none⟩) 1 1) 69 3 1 ([.int .i64 k1, .int .i64 a1, .int .i64 b3]), .blk bc 73 [vc, .int .i64 (((s2.1 : Nat) : Int)), .int .u64 (s2.2)], .own vk 3 1 m (ints ks)]) (H2 := [.blk b2 24 [.int .i64 (((N : Nat) : Int)), vg], .blk b1 24 [.int .i64 0, .slice none 0 0]]) (v := vg) (u := .slice (some ⟨b4, 0, none⟩) 1 1) (n := g) (m := 1) (xs := ints gx) (ys := [.int .i64 k1, .int .i64 a1, .int .i64 b3]) Tsl_22 (by decide) rfl rfl rfl rfl (fun w hs => hs.slOwn (.head _)) (by simp [Value.oneCell']) (by omega) (by simp only [maxLen]; omega) fun av1 hnav1 => ?_)
  refine DL.weakS (H' := [.own (.slice (some ⟨b4, 0, none⟩) 1 1) 69 3 1 ([.int .i64 k1, .int .i64 a1, .int .i64 b3]), .blk bc 73 [vc, .int .i64 (((s2.1 : Nat) : Int)), .int .u64 (s2.2)], .own vk 3 1 m (ints ks), .own av1 69 3 (g + 1) (ints (gx ++ [k1, a1, b3])), .blk b2 24 [.int .i64 (((N : Nat) : Int)), vg], .blk b1 24 [.int .i64 0, .slice none 0 0]]) (Some'.weak (.take (.take (.take (.takeEq (by simp [ints]) (.take (.take (.nil _)))))))) ?_
  refine ⟨(Some'.weak (.skip (.skip (.skip (.skip (.take (.take (.nil _)))))))), ?_⟩
  refine DL.tP 8 rfl (.pointer (some ⟨b2, 1, none⟩)) (fun _ => OpY.fieldAddr Tfo_24_1 rfl rfl) ?_
  refine DL.formOwn (.tail _ (.tail _ (.tail _ (.head _)))) (fun A_av11 c_av11 hv hcapc_av11 hmaxc_av11 => ?_)
  subst hv
  refine DL.step (i := 9) (by kernel_rfl) (by kernel_rfl) rfl rfl (OpStep.store (us := [.slice A_av11 (g + 1) c_av11]) Tsize_22 rfl rfl rfl (.there _ (.there _ (.there _ (.there _ (.here _))))) (by simp only [List.length_cons, List.length_nil]; omega) ?_)
  show DL _ _ _ _ _ _ _ _ [.own (.slice (some ⟨b4, 0, none⟩) 1 1) 69 3 1 ([.int .i64 k1, .int .i64 a1, .int .i64 b3]), .blk bc 73 [vc, .int .i64 (((s2.1 : Nat) : Int)), .int .u64 (s2.2)], .own vk 3 1 m (ints ks), .own (.slice A_av11 (g + 1) c_av11) 69 3 (g + 1) (ints (gx ++ [k1, a1, b3])), .blk b2 24 [.int .i64 (((N : Nat) : Int)), .slice A_av11 (g + 1) c_av11], .blk b1 24 [.int .i64 0, .slice none 0 0]]
  refine DL.done (by kernel_rfl) ?_
  refine .blockEnd ?_
  refine .region ?_
  refine .m ?_
  refine .u (.int .i64 (((i - 1 : Nat) : Int))) (.sub rfl rfl (by omega) (by omega) (by omega)) ?_
  refine .m ?_
  refine .done ?_
  refine .goal ⟨(by repeat (first | exact Same.refl _ _ | refine Same.put rfl ?_ | refine Same.over rfl rfl ?_)), (i - 1, s2, g + 1, (gx ++ [k1, a1, b3]), .slice A_av11 (g + 1) c_av11), ?_, ?_, ?_, ?_⟩
  ·exact ⟨by omega, by omega⟩
  ·show i - 1 < i; omega
  ·exact ⟨(by first | rfl | (congr 1; omega) | simp), trivial⟩
  ·exact ((Weak.selF [3, 2, 2, 2, 1]).trans (Some'.weak (.takeEq (by first | rfl | simp [ints]) (.takeEq (by first | rfl | simp [ints]) (.takeEq (by first | rfl | simp [ints]) (.take (.takeEq (by first | rfl | simp [ints]) (.nil _))))))))
 have p18 := h18; try simp only [bs] at p18
 refine .exit rfl ?_
 refine .sr ?_
 refine .u (.agg #[.int .i64 (((N : Nat) : Int)), vg]) (.loadN (cs := [.int .i64 (((N : Nat) : Int)), vg]) Tagg_24 rfl (Cells.blk (.tail _ (.tail _ (.head _))) ⟨rfl, rfl, trivial⟩)) ?_
 refine Run.formOwn (.head _) (fun A_vg1 c_vg1 hv hcapc_vg1 hmaxc_vg1 => ?_) (fun _ _ _ => ⟨nofun, nofun, nofun⟩)
 subst hv
 refine .step rfl (.storeAll (us := [.int .i64 (((N : Nat) : Int)), .slice A_vg1 g c_vg1]) Tsize_24 rfl rfl rfl (.there _ (.there _ (.there _ (.here _)))) rfl ?_)
 refine .done ?_
 refine .ret ?_
 refine ⟨.agg #[.int .i64 (((N : Nat) : Int)), .slice A_vg1 g c_vg1], [.own (.slice A_vg1 g c_vg1) 69 3 g (ints gx), .blk bc 73 [vc, .int .i64 (((sc.1 : Nat) : Int)), .int .u64 (sc.2)], .own vk 3 1 m (ints ks)], Out.cell1 rfl Tagg_24 rfl (Cells.blk (.tail _ (.tail _ (.tail _ (.head _)))) ⟨rfl, rfl, trivial⟩), ((Weak.selF [0, 3, 0]).trans (Some'.weak (.take (.take (.take (.nil _)))))), ?_⟩
 exact ⟨_, _, _, _, ⟨by omega, by omega⟩, rfl, rfl⟩

set_option maxHeartbeats 1000000 in
set_option maxRecDepth 20000 in
theorem circuit_spec {bc n : Nat} {vc : Value} {cs : List Int} {s : Nat × Int} {w : World} (hat : s.1 < 2305843009211000000) (hc : Cur w bc vc n cs) (hst : St (Of [.blk bc 73 [vc, .int .i64 (((s.1 : Nat) : Int)), .int .u64 (s.2)]]) w w [.blk bc 73 [vc, .int .i64 (((s.1 : Nat) : Int)), .int .u64 (s.2)]]) : Calls Tryz.prog 92 #[.pointer (some ⟨bc, 0, none⟩)] w (Post (Of [.blk bc 73 [vc, .int .i64 (((s.1 : Nat) : Int)), .int .u64 (s.2)]]) w fun v H => ∃ (Q : Int) (u : Value) (g : Nat) (gx : List Int) (s1 : Nat × Int), (g ≤ 8 ∧ s1.1 ≤ s.1 + 100) ∧ v = .agg #[.int .i64 Q, u] ∧ H = [.own u 69 3 g (ints gx), .blk bc 73 [vc, .int .i64 (s1.1 : Nat), .int .u64 s1.2]]) := by
 refine enter (n := 9) (args := [.pointer (some ⟨bc, 0, none⟩)]) Tryz.func92 rfl rfl (hst) ?_
 refine .sr ?_
 refine .step rfl (.alloc (zs := [.int .i64 0, .slice none 0 0]) Tzero_24 fun b1 => ?_)
 refine .dsr ?_
 iterate 2 refine .m ?_
 refine .step rfl (.buildSlice (us := [.int .i64 1, .int .i64 2, .int .i64 2, .int .i64 3]) Tsl_75 (by decide) (by decide) ⟨rfl, [.int .i64 1], _, rfl, rfl, rfl, ⟨rfl, [.int .i64 2], _, rfl, rfl, rfl, ⟨rfl, [.int .i64 2], _, rfl, rfl, rfl, ⟨rfl, [.int .i64 3], _, rfl, rfl, rfl, rfl⟩⟩⟩⟩ rfl fun b2 => ?_)
 refine .step rfl (.callM (H1 := [.blk bc 73 [vc, .int .i64 (((s.1 : Nat) : Int)), .int .u64 (s.2)], .own (.slice (some ⟨b2, 0, none⟩) 4 4) 3 1 4 (ints [1, 2, 2, 3])]) (H2 := [.blk b1 24 [.int .i64 0, .slice none 0 0]]) (vs := [.pointer (some ⟨bc, 0, none⟩), .slice (some ⟨b2, 0, none⟩) 4 4]) (caps := []) Tcall_93 rfl rfl (Weak.selF [2, 0]) (fun w hs => among_spec (by omega) (by decide) (hc.go hs) (hc.apart hs (.tail _ (.head _))) (hs.sub (List.sublist_append_left _ _)).self) ?_)
 rintro _ _ ⟨i1, s1, hi1, hs1, rfl, rfl⟩
 show Run _ _ (putF _ _ _ (.int .i64 (ix [1, 2, 2, 3] i1))) [.blk bc 73 [vc, .int .i64 (((s1.1 : Nat) : Int)), .int .u64 (s1.2)], .blk b1 24 [.int .i64 0, .slice none 0 0]]
 have hixi1 : 1 ≤ ix [1, 2, 2, 3] i1 ∧ ix [1, 2, 2, 3] i1 ≤ 3 := by
  rcases (by omega : i1 = 0 ∨ i1 = 1 ∨ i1 = 2 ∨ i1 = 3) with rfl | rfl | rfl | rfl <;> simp [ix]
 refine .step rfl (.buildSlice (us := [.int .i64 1, .int .i64 2, .int .i64 3, .int .i64 4, .int .i64 5, .int .i64 6, .int .i64 7, .int .i64 8, .int .i64 9, .int .i64 9, .int .i64 10, .int .i64 11, .int .i64 12, .int .i64 7, .int .i64 1]) Tsl_75 (by decide) (by decide) ⟨rfl, [.int .i64 1], _, rfl, rfl, rfl, ⟨rfl, [.int .i64 2], _, rfl, rfl, rfl, ⟨rfl, [.int .i64 3], _, rfl, rfl, rfl, ⟨rfl, [.int .i64 4], _, rfl, rfl, rfl, ⟨rfl, [.int .i64 5], _, rfl, rfl, rfl, ⟨rfl, [.int .i64 6], _, rfl, rfl, rfl, ⟨rfl, [.int .i64 7], _, rfl, rfl, rfl, ⟨rfl, [.int .i64 8], _, rfl, rfl, rfl, ⟨rfl, [.int .i64 9], _, rfl, rfl, rfl, ⟨rfl, [.int .i64 9], _, rfl, rfl, rfl, ⟨rfl, [.int .i64 10], _, rfl, rfl, rfl, ⟨rfl, [.int .i64 11], _, rfl, rfl, rfl, ⟨rfl, [.int .i64 12], _, rfl, rfl, rfl, ⟨rfl, [.int .i64 7], _, rfl, rfl, rfl, ⟨rfl, [.int .i64 1], _, rfl, rfl, rfl, rfl⟩⟩⟩⟩⟩⟩⟩⟩⟩⟩⟩⟩⟩⟩⟩ rfl fun b3 => ?_)
 obtain ⟨N0, hN0⟩ : ∃ N0 : Nat, ix [1, 2, 2, 3] i1 = ((N0 : Nat) : Int) := ⟨(ix [1, 2, 2, 3] i1).toNat, by omega⟩
 rw [hN0]
 refine .step rfl (.callM (H1 := [.blk bc 73 [vc, .int .i64 (((s1.1 : Nat) : Int)), .int .u64 (s1.2)], .own (.slice (some ⟨b3, 0, none⟩) 15 15) 3 1 15 (ints [1, 2, 3, 4, 5, 6, 7, 8, 9, 9, 10, 11, 12, 7, 1])]) (H2 := [.blk b1 24 [.int .i64 0, .slice none 0 0]]) (vs := [.pointer (some ⟨bc, 0, none⟩), .int .i64 (((N0 : Nat) : Int)), .int .i64 8, .slice (some ⟨b3, 0, none⟩) 15 15]) (caps := []) Tcall_111 rfl rfl (Weak.selF [1, 0]) (fun w hs => built_spec (K := 8) (by omega) (by decide) (by decide) (by omega) (hc.go hs) (by decide) (hc.apart hs (.tail _ (.head _))) (hs.sub (List.sublist_append_left _ _)).self) ?_)
 rintro _ _ ⟨u, g, gx, s8, ⟨hg8, hs8⟩, rfl, rfl⟩
 show Run _ _ (putF _ _ _ (.agg #[.int .i64 (((N0 : Nat) : Int)), u])) [.own u 69 3 g (ints gx), .blk bc 73 [vc, .int .i64 (((s8.1 : Nat) : Int)), .int .u64 (s8.2)], .own (.slice (some ⟨b3, 0, none⟩) 15 15) 3 1 15 (ints [1, 2, 3, 4, 5, 6, 7, 8, 9, 9, 10, 11, 12, 7, 1]), .blk b1 24 [.int .i64 0, .slice none 0 0]]
 refine Run.formOwn (.head _) (fun A_u1 c_u1 hv hcapc_u1 hmaxc_u1 => ?_) (fun _ _ _ => ⟨nofun, nofun, nofun⟩)
 subst hv
 refine .step rfl (.storeAll (us := [.int .i64 (((N0 : Nat) : Int)), .slice A_u1 g c_u1]) Tsize_24 rfl rfl rfl (.there _ (.there _ (.there _ (.here _)))) rfl ?_)
 refine .done ?_
 refine .ret ?_
 refine ⟨.agg #[.int .i64 (((N0 : Nat) : Int)), .slice A_u1 g c_u1], [.own (.slice A_u1 g c_u1) 69 3 g (ints gx), .blk bc 73 [vc, .int .i64 (((s8.1 : Nat) : Int)), .int .u64 (s8.2)]], Out.cell1 rfl Tagg_24 rfl (Cells.blk (.tail _ (.tail _ (.tail _ (.head _)))) ⟨rfl, rfl, trivial⟩), (Some'.weak (.take (.take (.nil _)))), ?_⟩
 exact ⟨_, _, _, _, _, ⟨by omega, by omega⟩, rfl, rfl⟩

set_option maxHeartbeats 1000000 in
set_option maxRecDepth 20000 in
theorem anyCircuit_spec {bc n : Nat} {vc : Value} {cs : List Int} {s : Nat × Int} {w : World} (hat : s.1 < 2305843009210000000) (hc : Cur w bc vc n cs) (hst : St (Of [.blk bc 73 [vc, .int .i64 (((s.1 : Nat) : Int)), .int .u64 (s.2)]]) w w [.blk bc 73 [vc, .int .i64 (((s.1 : Nat) : Int)), .int .u64 (s.2)]]) : Calls Tryz.prog 61 #[.pointer (some ⟨bc, 0, none⟩)] w (Post (Of [.blk bc 73 [vc, .int .i64 (((s.1 : Nat) : Int)), .int .u64 (s.2)]]) w fun v H => ∃ (Q : Int) (u : Value) (g : Nat) (gx : List Int) (s1 : Nat × Int), (g ≤ 9 ∧ s1.1 ≤ s.1 + 200) ∧ v = .agg #[.int .i64 Q, u] ∧ H = [.own u 69 3 g (ints gx), .blk bc 73 [vc, .int .i64 (s1.1 : Nat), .int .u64 s1.2]]) := by
 refine enter (n := 31) (args := [.pointer (some ⟨bc, 0, none⟩)]) Tryz.func61 rfl rfl (hst) ?_
 refine .sr ?_
 refine .step rfl (.alloc (zs := [.int .i64 0, .slice none 0 0]) Tzero_24 fun b1 => ?_)
 refine .dsr ?_
 refine .m ?_
 refine .step rfl (.callM (H1 := [.blk bc 73 [vc, .int .i64 (((s.1 : Nat) : Int)), .int .u64 (s.2)]]) (H2 := [.blk b1 24 [.int .i64 0, .slice none 0 0]]) (vs := [.pointer (some ⟨bc, 0, none⟩)]) (caps := []) Tcall_92 rfl rfl (Weak.selF [1]) (fun w hs => circuit_spec (by omega) (hc.go hs) (hs.sub (List.sublist_append_left _ _)).self) ?_)
 rintro _ _ ⟨Q, u, g, gx, s8, ⟨hg8, hs8⟩, rfl, rfl⟩
 show Run _ _ (putF _ _ _ (.agg #[.int .i64 Q, u])) [.own u 69 3 g (ints gx), .blk bc 73 [vc, .int .i64 (((s8.1 : Nat) : Int)), .int .u64 (s8.2)], .blk b1 24 [.int .i64 0, .slice none 0 0]]
 refine .step rfl (.alloc (zs := [.int .i64 0, .slice none 0 0]) Tzero_24 fun b2 => ?_)
 refine Run.formOwn (.tail _ (.head _)) (fun A_u1 c_u1 hv hcapc_u1 hmaxc_u1 => ?_) (fun _ _ _ => ⟨nofun, nofun, nofun⟩)
 subst hv
 refine .step rfl (.storeAll (us := [.int .i64 Q, .slice A_u1 g c_u1]) Tsize_24 rfl rfl rfl (.here _) rfl ?_)
 refine .done ?_
 refine .seq ?_
 refine .sr ?_
 refine .m ?_
 refine .step rfl (.callM (H1 := [.blk bc 73 [vc, .int .i64 (((s8.1 : Nat) : Int)), .int .u64 (s8.2)]]) (H2 := [.blk b2 24 [.int .i64 Q, .slice A_u1 g c_u1], .own (.slice A_u1 g c_u1) 69 3 g (ints gx), .blk b1 24 [.int .i64 0, .slice none 0 0]]) (vs := [.pointer (some ⟨bc, 0, none⟩), .int .i64 14]) (caps := []) Tcall_71 rfl rfl (Weak.selF [2]) (fun w hs => pick_ex (by omega) (hc.go hs) (hs.sub (List.sublist_append_left _ _)).self) ?_)
 rintro _ _ ⟨x1, s1, hx1, hs1, rfl, rfl⟩
 show Run _ _ (putF _ _ _ (.int .i64 x1)) [.blk bc 73 [vc, .int .i64 (((s1.1 : Nat) : Int)), .int .u64 (s1.2)], .blk b2 24 [.int .i64 Q, .slice A_u1 g c_u1], .own (.slice A_u1 g c_u1) 69 3 g (ints gx), .blk b1 24 [.int .i64 0, .slice none 0 0]]
 refine .done ?_
 refine .block ?_
 refine .sr ?_
 refine .w (.bool (x1 == 0)) ?_
 refine .m ?_
 refine .done ?_
 refine .cond (b := x1 == 0) rfl (fun h8 => ?_) (fun h8 => ?_)
 ·have p8 := h8; try simp only [bs] at p8
  refine .region ?_
  refine .m ?_
  refine .step rfl (.buildSlice (us := [.int .i64 0, .int .i64 1, .int .i64 5, .int .i64 6]) Tsl_75 (by decide) (by decide) ⟨rfl, [.int .i64 0], _, rfl, rfl, rfl, ⟨rfl, [.int .i64 1], _, rfl, rfl, rfl, ⟨rfl, [.int .i64 5], _, rfl, rfl, rfl, ⟨rfl, [.int .i64 6], _, rfl, rfl, rfl, rfl⟩⟩⟩⟩ rfl fun b3 => ?_)
  refine .step rfl (.callM (H1 := [.blk bc 73 [vc, .int .i64 (((s1.1 : Nat) : Int)), .int .u64 (s1.2)], .own (.slice (some ⟨b3, 0, none⟩) 4 4) 3 1 4 (ints [0, 1, 5, 6])]) (H2 := [.blk b2 24 [.int .i64 Q, .slice A_u1 g c_u1], .own (.slice A_u1 g c_u1) 69 3 g (ints gx), .blk b1 24 [.int .i64 0, .slice none 0 0]]) (vs := [.pointer (some ⟨bc, 0, none⟩), .slice (some ⟨b3, 0, none⟩) 4 4]) (caps := []) Tcall_93 rfl rfl (Weak.selF [1, 0]) (fun w hs => among_spec (by omega) (by decide) (hc.go hs) (hc.apart hs (.tail _ (.head _))) (hs.sub (List.sublist_append_left _ _)).self) ?_)
  rintro _ _ ⟨i1, s2, hi1, hs2, rfl, rfl⟩
  show Run _ _ (putF _ _ _ (.int .i64 (ix [0, 1, 5, 6] i1))) [.blk bc 73 [vc, .int .i64 (((s2.1 : Nat) : Int)), .int .u64 (s2.2)], .blk b2 24 [.int .i64 Q, .slice A_u1 g c_u1], .own (.slice A_u1 g c_u1) 69 3 g (ints gx), .blk b1 24 [.int .i64 0, .slice none 0 0]]
  have hixi1 : 0 ≤ ix [0, 1, 5, 6] i1 ∧ ix [0, 1, 5, 6] i1 ≤ 6 := by
   rcases (by omega : i1 = 0 ∨ i1 = 1 ∨ i1 = 2 ∨ i1 = 3) with rfl | rfl | rfl | rfl <;> simp [ix]
  refine .fa Tfo_24_0 ?_
  refine .step rfl (.store (us := [.int .i64 (ix [0, 1, 5, 6] i1)]) Tsize_3 rfl rfl rfl (.there _ (.here _)) (by simp only [List.length_cons, List.length_nil]; omega) ?_)
  show Run _ _ _ [.blk bc 73 [vc, .int .i64 (((s2.1 : Nat) : Int)), .int .u64 (s2.2)], .blk b2 24 [.int .i64 (ix [0, 1, 5, 6] i1), .slice A_u1 g c_u1], .own (.slice A_u1 g c_u1) 69 3 g (ints gx), .blk b1 24 [.int .i64 0, .slice none 0 0]]
  refine .done ?_
  refine .blockEnd ?_
  refine .sr ?_
  refine .u (.agg #[.int .i64 (ix [0, 1, 5, 6] i1), .slice A_u1 g c_u1]) (.loadN (cs := [.int .i64 (ix [0, 1, 5, 6] i1), .slice A_u1 g c_u1]) Tagg_24 rfl (Cells.blk (.tail _ (.head _)) ⟨rfl, rfl, trivial⟩)) ?_
  refine .step rfl (.storeAll (us := [.int .i64 (ix [0, 1, 5, 6] i1), .slice A_u1 g c_u1]) Tsize_24 rfl rfl rfl (.there _ (.there _ (.there _ (.here _)))) rfl ?_)
  refine .done ?_
  refine .ret ?_
  refine ⟨.agg #[.int .i64 (ix [0, 1, 5, 6] i1), .slice A_u1 g c_u1], [.own (.slice A_u1 g c_u1) 69 3 g (ints gx), .blk bc 73 [vc, .int .i64 (((s2.1 : Nat) : Int)), .int .u64 (s2.2)]], Out.cell1 rfl Tagg_24 rfl (Cells.blk (.tail _ (.tail _ (.tail _ (.head _)))) ⟨rfl, rfl, trivial⟩), ((Weak.selF [2, 0]).trans (Some'.weak (.take (.take (.nil _))))), ?_⟩
  exact ⟨_, _, _, _, _, ⟨by omega, by omega⟩, rfl, rfl⟩
 have p8 := h8; try simp only [bs] at p8
 refine .sr ?_
 refine .w (.bool (x1 == 1)) ?_
 refine .m ?_
 refine .done ?_
 refine .cond (b := x1 == 1) rfl (fun h14 => ?_) (fun h14 => ?_)
 ·have p14 := h14; try simp only [bs] at p14
  refine .lastlyB [14] [.blk b2 24 [.int .i64 Q, .slice A_u1 g c_u1], .blk b1 24 [.int .i64 0, .slice none 0 0]] (by kernel_rfl) ?_
  refine DL.tP 0 rfl (.pointer (some ⟨b2, 1, none⟩)) (fun _ => OpY.fieldAddr Tfo_24_1 rfl rfl) ?_
  refine DL.t 1 rfl (Some'.weak (.skip (.take (.skip (.take (.nil _)))))) (.slice A_u1 g c_u1) (.load1 Tone_22 rfl (.b (.head _))) ?_
  refine DL.m 2 rfl ?_
  refine DL.m 4 rfl ?_
  refine DL.m 7 rfl ?_
  refine DL.stepS (i := 3) (by kernel_rfl) rfl rfl (OpStep.callM (H1 := [.blk bc 73 [vc, .int .i64 (((s1.1 : Nat) : Int)), .int .u64 (s1.2)]]) (H2 := [.blk b2 24 [.int .i64 Q, .slice A_u1 g c_u1], .own (.slice A_u1 g c_u1) 69 3 g (ints gx), .blk b1 24 [.int .i64 0, .slice none 0 0]]) (vs := [.pointer (some ⟨bc, 0, none⟩), .int .i64 14]) (caps := []) Tcall_71 rfl rfl (Weak.refl _) (fun w hs => pick_ex (by omega) (hc.go hs) (hs.sub (List.sublist_append_left _ _)).self) ?_)
  rintro _ _ ⟨x2, s3, hx2, hs3, rfl, rfl⟩
  refine ⟨(Some'.weak (.skip (.take (.skip (.take (.nil _)))))), ?_⟩
  refine DL.stepS (i := 5) (by kernel_rfl) rfl rfl (OpStep.callM (H1 := [.blk bc 73 [vc, .int .i64 (((s3.1 : Nat) : Int)), .int .u64 (s3.2)]]) (H2 := [.blk b2 24 [.int .i64 Q, .slice A_u1 g c_u1], .own (.slice A_u1 g c_u1) 69 3 g (ints gx), .blk b1 24 [.int .i64 0, .slice none 0 0]]) (vs := [.pointer (some ⟨bc, 0, none⟩), .int .i64 4]) (caps := []) Tcall_71 rfl rfl (Weak.refl _) (fun w hs => pick_ex (by omega) (hc.go hs) (hs.sub (List.sublist_append_left _ _)).self) ?_)
  rintro _ _ ⟨x3, s4, hx3, hs4, rfl, rfl⟩
  refine ⟨(Some'.weak (.skip (.take (.skip (.take (.nil _)))))), ?_⟩
  refine DL.tP 6 rfl (.int .i64 (x3 - 1)) (fun _ => OpY.sub rfl rfl rfl (by omega) (by omega)) ?_
  refine DL.stepS (i := 8) (by kernel_rfl) rfl rfl (OpStep.callM (H1 := [.blk bc 73 [vc, .int .i64 (((s4.1 : Nat) : Int)), .int .u64 (s4.2)]]) (H2 := [.blk b2 24 [.int .i64 Q, .slice A_u1 g c_u1], .own (.slice A_u1 g c_u1) 69 3 g (ints gx), .blk b1 24 [.int .i64 0, .slice none 0 0]]) (vs := [.pointer (some ⟨bc, 0, none⟩), .int .i64 4]) (caps := []) Tcall_71 rfl rfl (Weak.refl _) (fun w hs => pick_ex (by omega) (hc.go hs) (hs.sub (List.sublist_append_left _ _)).self) ?_)
  rintro _ _ ⟨x4, s5, hx4, hs5, rfl, rfl⟩
  refine ⟨(Some'.weak (.skip (.take (.skip (.take (.nil _)))))), ?_⟩
  refine DL.tP 9 rfl (.int .i64 (x4 - 1)) (fun _ => OpY.sub rfl rfl rfl (by omega) (by omega)) ?_
  refine DL.tP 10 rfl (.agg #[.int .i64 x2, .int .i64 (x3 - 1), .int .i64 (x4 - 1)]) (fun _ => OpY.build (cs := [.int .i64 x2, .int .i64 (x3 - 1), .int .i64 (x4 - 1)]) (by kernel_rfl)) ?_
  refine DL.stepS (i := 11) (by kernel_rfl) rfl rfl (OpStep.buildSlice (us := [.int .i64 x2, .int .i64 (x3 - 1), .int .i64 (x4 - 1)]) Tsl_22 (by decide) (by decide) ⟨rfl, [.int .i64 x2, .int .i64 (x3 - 1), .int .i64 (x4 - 1)], _, rfl, rfl, rfl, rfl⟩ rfl fun b4 => ?_)
  refine ⟨(Some'.weak (.skip (.skip (.take (.skip (.take (.nil _))))))), ?_⟩
  refine DL.stepS (i := 12) (by kernel_rfl) rfl rfl (OpStep.append (H1 := [.own (.slice (some ⟨b4, 0, none⟩) 1 1) 69 3 1 ([.int .i64 x2, .int .i64 (x3 - 1), .int .i64 (x4 - 1)]), .blk bc 73 [vc, .int .i64 (((s5.1 : Nat) : Int)), .int .u64 (s5.2)], .blk b2 24 [.int .i64 Q, .slice A_u1 g c_u1]]) (H2 := [.blk b1 24 [.int .i64 0, .slice none 0 0]]) (v := .slice A_u1 g c_u1) (u := .slice (some ⟨b4, 0, none⟩) 1 1) (n := g) (m := 1) (xs := ints gx) (ys := [.int .i64 x2, .int .i64 (x3 - 1), .int .i64 (x4 - 1)]) Tsl_22 (by decide) rfl rfl rfl rfl (fun w hs => hs.slOwn (.head _)) (by simp [Value.oneCell']) (by omega) (by simp only [maxLen]; omega) fun av1 hnav1 => ?_)
  refine DL.weakS (H' := [.own (.slice (some ⟨b4, 0, none⟩) 1 1) 69 3 1 ([.int .i64 x2, .int .i64 (x3 - 1), .int .i64 (x4 - 1)]), .blk bc 73 [vc, .int .i64 (((s5.1 : Nat) : Int)), .int .u64 (s5.2)], .blk b2 24 [.int .i64 Q, .slice A_u1 g c_u1], .own av1 69 3 (g + 1) (ints (gx ++ [x2, x3 - 1, x4 - 1])), .blk b1 24 [.int .i64 0, .slice none 0 0]]) (Some'.weak (.take (.take (.take (.takeEq (by simp [ints]) (.take (.nil _))))))) ?_
  refine ⟨(Some'.weak (.skip (.skip (.take (.skip (.take (.nil _))))))), ?_⟩
  refine DL.tP 13 rfl (.pointer (some ⟨b2, 1, none⟩)) (fun _ => OpY.fieldAddr Tfo_24_1 rfl rfl) ?_
  refine DL.formOwn (.tail _ (.tail _ (.tail _ (.head _)))) (fun A_av11 c_av11 hv hcapc_av11 hmaxc_av11 => ?_)
  subst hv
  refine DL.step (i := 14) (by kernel_rfl) (by kernel_rfl) rfl rfl (OpStep.store (us := [.slice A_av11 (g + 1) c_av11]) Tsize_22 rfl rfl rfl (.there _ (.there _ (.here _))) (by simp only [List.length_cons, List.length_nil]; omega) ?_)
  show DL _ _ _ _ _ _ _ _ [.own (.slice (some ⟨b4, 0, none⟩) 1 1) 69 3 1 ([.int .i64 x2, .int .i64 (x3 - 1), .int .i64 (x4 - 1)]), .blk bc 73 [vc, .int .i64 (((s5.1 : Nat) : Int)), .int .u64 (s5.2)], .blk b2 24 [.int .i64 Q, .slice A_av11 (g + 1) c_av11], .own (.slice A_av11 (g + 1) c_av11) 69 3 (g + 1) (ints (gx ++ [x2, x3 - 1, x4 - 1])), .blk b1 24 [.int .i64 0, .slice none 0 0]]
  refine DL.done (by kernel_rfl) ?_
  refine .blockEnd ?_
  refine .sr ?_
  refine .u (.agg #[.int .i64 Q, .slice A_av11 (g + 1) c_av11]) (.loadN (cs := [.int .i64 Q, .slice A_av11 (g + 1) c_av11]) Tagg_24 rfl (Cells.blk (.tail _ (.tail _ (.head _))) ⟨rfl, rfl, trivial⟩)) ?_
  refine .step rfl (.storeAll (us := [.int .i64 Q, .slice A_av11 (g + 1) c_av11]) Tsize_24 rfl rfl rfl (.there _ (.there _ (.there _ (.there _ (.here _))))) rfl ?_)
  refine .done ?_
  refine .ret ?_
  refine ⟨.agg #[.int .i64 Q, .slice A_av11 (g + 1) c_av11], [.own (.slice A_av11 (g + 1) c_av11) 69 3 (g + 1) (ints (gx ++ [x2, x3 - 1, x4 - 1])), .blk bc 73 [vc, .int .i64 (((s5.1 : Nat) : Int)), .int .u64 (s5.2)]], Out.cell1 rfl Tagg_24 rfl (Cells.blk (.tail _ (.tail _ (.tail _ (.tail _ (.head _))))) ⟨rfl, rfl, trivial⟩), ((Weak.selF [3, 1]).trans (Some'.weak (.take (.take (.nil _))))), ?_⟩
  exact ⟨_, _, _, _, _, ⟨by omega, by omega⟩, rfl, rfl⟩
 have p14 := h14; try simp only [bs] at p14
 refine .skip ?_
 refine .blockEnd ?_
 refine .sr ?_
 refine .u (.agg #[.int .i64 Q, .slice A_u1 g c_u1]) (.loadN (cs := [.int .i64 Q, .slice A_u1 g c_u1]) Tagg_24 rfl (Cells.blk (.tail _ (.head _)) ⟨rfl, rfl, trivial⟩)) ?_
 refine .step rfl (.storeAll (us := [.int .i64 Q, .slice A_u1 g c_u1]) Tsize_24 rfl rfl rfl (.there _ (.there _ (.there _ (.here _)))) rfl ?_)
 refine .done ?_
 refine .ret ?_
 refine ⟨.agg #[.int .i64 Q, .slice A_u1 g c_u1], [.own (.slice A_u1 g c_u1) 69 3 g (ints gx), .blk bc 73 [vc, .int .i64 (((s1.1 : Nat) : Int)), .int .u64 (s1.2)]], Out.cell1 rfl Tagg_24 rfl (Cells.blk (.tail _ (.tail _ (.tail _ (.head _)))) ⟨rfl, rfl, trivial⟩), ((Weak.selF [2, 0]).trans (Some'.weak (.take (.take (.nil _))))), ?_⟩
 exact ⟨_, _, _, _, _, ⟨by omega, by omega⟩, rfl, rfl⟩


end Go.Proofs.YtgpkpopbajkklaaGreatDoor
