/- Walks: the laws' own functions on slices of slices of int. -/
import Derived.Test.YtekikmdjldincaaQ10
import Derived.Test.YtekikmdjldincaaProg
import Derived.Test.YtekikmdjldincaaQ5
set_option linter.unusedSimpArgs false
set_option linter.unusedVariables false
namespace Go.Proofs.Ytekikmdjldincaa
open Go Go.RowKit
def vx (ps : List (Value × List Int)) (i : Nat) : Value := (ps.map (·.1)).getD i undef
def lx (ps : List (Value × List Int)) (i : Nat) : List Int := (ps.map (·.2)).getD i []
theorem preO {ps : List (Value × List Int)} {i : Nat} (h : i < ps.length) : Pre (oc ps) i [vx ps i] := ⟨by simp [oc, vx, List.getD, h], trivial⟩
/-- Each member can be read. -/
def GrpSl (w : World) (ps : List (Value × List Int)) : Prop := ∀ i, i < ps.length → Sl w (vx ps i) 1 (lx ps i).length (ints (lx ps i))
theorem px_eq {ps : List (Value × List Int)} {i : Nat} (h : i < ps.length) : (vx ps i, lx ps i) ∈ ps := by
  have : (vx ps i, lx ps i) = ps[i] := by simp [vx, lx, List.getD, h]
  rw [this]; exact List.getElem_mem h
theorem St.grpSl {M : Nat → Prop} {w0 w : World} {H : List Res} {e : TypeId} {ps : List (Value × List Int)} (hs : St M w0 w H) (hm : Res.grp e 1 (gl ps) ∈ H) : GrpSl w ps :=
  fun _ hi => hs.slGrp hm (px_eq hi)
theorem GrpSl.go {w0 w : World} {H : List Res} {ps : List (Value × List Int)} (h : GrpSl w0 ps) (hs : St No w0 w H) : GrpSl w ps := fun i hi => hs.sl (h i hi)
/-- The lists written over with k, k + 1, .. -/
def mkps : Int → List (Value × List Int) → List (Value × List Int)
  | _, [] => []
  | k, p :: ps => (p.1, mks k p.2.length) :: mkps (k + (p.2.length : Nat)) ps
@[simp] theorem mkps_length : ∀ (ps : List (Value × List Int)) (k : Int), (mkps k ps).length = ps.length
  | [], _ => rfl
  | p :: ps, k => by simp [mkps, mkps_length ps]
end Go.Proofs.Ytekikmdjldincaa
/- Plain laws: the components of a graph. -/
set_option linter.unusedSimpArgs false
set_option linter.unusedVariables false
namespace Go.Proofs.Ytekikmdjldincaa
open Go Go.RowKit
theorem hasI_mem {xs : List Int} {x : Int} : hasI xs x xs.length = decide (x ∈ xs) := by
  rw [Bool.eq_iff_iff, decide_eq_true_iff, hasI, anyI_iff]
  constructor
  · rintro ⟨i, h1, h2⟩
    rw [decide_eq_true_eq] at h2; rw [← h2]; exact ix_mem h1
  · intro h
    obtain ⟨i, h1, h2⟩ := List.getElem_of_mem h
    exact ⟨i, h1, by rw [decide_eq_true_eq, ← h2]; simp [ix, List.getD, h1]⟩
end Go.Proofs.Ytekikmdjldincaa
/- Plain laws: the queue, the table and the way back of the reference's search for routes. -/
set_option linter.unusedSimpArgs false
set_option linter.unusedVariables false
namespace Go.Proofs.Ytekikmdjldincaa
open Go Go.RowKit
/-- Two may come up; the base goes on to hold. -/
theorem DL.two {E : Env} {ops : Array Oper} {Z : List Nat} {base : List Res} {k : List It} {fuel : Nat} {listed : Array Bool} {f : Fr} {H : List Res} {i j : Nat} {o o' : Oper} (hr : Region.ready .any ops listed = [i, j]) (hi : ops[i]? = some o) (hj : ops[j]? = some o') (hw : wantedF ops f o = true) (hw' : wantedF ops f o' = true)
    (h : OpStep E o f H fun f' H' => Weak H' base ∧ DL E ops Z base k fuel (listed.setIfInBounds i true) f' H')
    (h' : OpStep E o' f H fun f' H' => Weak H' base ∧ DL E ops Z base k fuel (listed.setIfInBounds j true) f' H') : DL E ops Z base k (fuel + 1) listed f H := by
  intro a w ha hst
  refine ⟨fun h0 => absurd (hr.symm.trans h0) (by simp), fun q hq => ?_⟩
  rw [hr] at hq
  simp only [List.mem_cons, List.not_mem_nil, or_false] at hq
  rcases hq with rfl | rfl
  · unfold wpOp
    simp only [hi]
    rw [wantedF_eq ha, hw, if_pos rfl]
    exact .inl (h a w ha hst _ _ fun f' H' a' w' h1 h2 h3 => ⟨fun _ _ => h3.1 _ _ _ h2, h3.2 a' w' h1 h2⟩)
  · unfold wpOp
    simp only [hj]
    rw [wantedF_eq ha, hw', if_pos rfl]
    exact .inl (h' a w ha hst _ _ fun f' H' a' w' h1 h2 h3 => ⟨fun _ _ => h3.1 _ _ _ h2, h3.2 a' w' h1 h2⟩)
/-- Three may come up; the base goes on to hold. -/
theorem DL.three {E : Env} {ops : Array Oper} {Z : List Nat} {base : List Res} {k : List It} {fuel : Nat} {listed : Array Bool} {f : Fr} {H : List Res} {i j l : Nat} {o o' o2 : Oper} (hr : Region.ready .any ops listed = [i, j, l]) (hi : ops[i]? = some o) (hj : ops[j]? = some o') (hl : ops[l]? = some o2) (hw : wantedF ops f o = true) (hw' : wantedF ops f o' = true) (hw2 : wantedF ops f o2 = true)
    (h : OpStep E o f H fun f' H' => Weak H' base ∧ DL E ops Z base k fuel (listed.setIfInBounds i true) f' H')
    (h' : OpStep E o' f H fun f' H' => Weak H' base ∧ DL E ops Z base k fuel (listed.setIfInBounds j true) f' H')
    (h2 : OpStep E o2 f H fun f' H' => Weak H' base ∧ DL E ops Z base k fuel (listed.setIfInBounds l true) f' H') : DL E ops Z base k (fuel + 1) listed f H := by
  intro a w ha hst
  refine ⟨fun h0 => absurd (hr.symm.trans h0) (by simp), fun q hq => ?_⟩
  rw [hr] at hq
  simp only [List.mem_cons, List.not_mem_nil, or_false] at hq
  rcases hq with rfl | rfl | rfl
  · unfold wpOp
    simp only [hi]
    rw [wantedF_eq ha, hw, if_pos rfl]
    exact .inl (h a w ha hst _ _ fun f' H' a' w' h1 h2 h3 => ⟨fun _ _ => h3.1 _ _ _ h2, h3.2 a' w' h1 h2⟩)
  · unfold wpOp
    simp only [hj]
    rw [wantedF_eq ha, hw', if_pos rfl]
    exact .inl (h' a w ha hst _ _ fun f' H' a' w' h1 h2 h3 => ⟨fun _ _ => h3.1 _ _ _ h2, h3.2 a' w' h1 h2⟩)
  · unfold wpOp
    simp only [hl]
    rw [wantedF_eq ha, hw2, if_pos rfl]
    exact .inl (h2 a w ha hst _ _ fun f' H' a' w' h1 h2 h3 => ⟨fun _ _ => h3.1 _ _ _ h2, h3.2 a' w' h1 h2⟩)
theorem Weak.nilGrp {H : List Res} {e : TypeId} {size : Nat} : ∀ N, Weak H (.grp e size (gl (List.replicate N ((.slice none 0 0 : Value), ([] : List Int)))) :: H)
  | 0 => Weak.grpNil _ _
  | N + 1 => by
    refine (Weak.nilGrp (e := e) (size := size) N).trans ((Weak.nilOwn e size).trans ?_)
    have h := Weak.grpIn (H := H) (e := e) (size := size) (v := .slice none 0 0) (n := 0) (xs := []) (l := gl (List.replicate N ((.slice none 0 0 : Value), ([] : List Int))))
    exact h
theorem oc_rep (N : Nat) : (List.replicate N ([.slice none 0 0] : List Value)).flatten = oc (List.replicate N ((.slice none 0 0 : Value), ([] : List Int))) := by
  induction N with
  | zero => rfl
  | succ N ih => rw [List.replicate_succ, List.flatten_cons, ih, List.replicate_succ]; rfl
theorem oc_set {T : List (Value × List Int)} {c : Nat} {v : Value} {l : List Int} (h : c < T.length) : spl (oc T) c [v] = oc (T.set c (v, l)) := by
  show (oc T).set c v = _
  simp [oc, List.map_set]
theorem lx_set {T : List (Value × List Int)} {c : Nat} {p : Value × List Int} (h : c < T.length) (d : Nat) : lx (T.set c p) d = if d = c then p.2 else lx T d := by
  simp only [lx, List.map_set, List.getD, List.getElem?_set, List.length_map]
  by_cases e : d = c
  · subst e; simp [h]
  · rw [if_neg (fun h => e h.symm), if_neg e]
theorem tb_split {T : List (Value × List Int)} {c : Nat} (h : c < T.length) : ∃ A B, T = A ++ (vx T c, lx T c) :: B ∧ ∀ p, T.set c p = A ++ p :: B := by
  refine ⟨T.take c, T.drop (c + 1), ?_, fun p => List.set_eq_take_append_cons_drop.trans (if_pos h)⟩
  have e : (vx T c, lx T c) = T[c] := by simp [vx, lx, List.getD, h]
  rw [e, List.getElem_cons_drop, List.take_append_drop]
theorem Ap.grp {M : Nat → Prop} {H0 R : List Res} {w0 w : World} {e : TypeId} {size : Nat} {l : List (Value × Nat × List Value)} {p : Value × Nat × List Value} (hm : Res.grp e size l ∈ R) (hp : p ∈ l) (hs : St M w0 w (H0 ++ R)) : Ap H0 w p.1 size p.2.1 p.2.2 := by
  obtain ⟨A, B, rfl⟩ := List.append_of_mem hp
  obtain ⟨R1, R2, rfl⟩ := List.append_of_mem hm
  have h1 : St M w0 w (Res.grp e size (A ++ p :: B) :: (H0 ++ (R1 ++ R2))) := by
    have h := hs.perm (H' := Res.grp e size (A ++ p :: B) :: (H0 ++ (R1 ++ R2))) (by rw [← List.append_assoc, ← List.append_assoc]; exact List.perm_middle)
    exact h
  have h2 := Weak.grpTakeR _ _ _ h1
  have h3 : St M w0 w (H0 ++ (Res.own p.1 e size p.2.1 p.2.2 :: Res.grp e size (A ++ B) :: (R1 ++ R2))) := by
    have h := h2.perm (H' := H0 ++ (Res.own p.1 e size p.2.1 p.2.2 :: Res.grp e size (A ++ B) :: (R1 ++ R2))) (by
      refine List.Perm.trans ?_ List.perm_middle.symm
      exact List.Perm.cons _ List.perm_middle.symm)
    exact h
  exact Ap.own (.head _) h3
theorem mkD_all {ds : List Bool} {n : Nat} : mkD ds n = 2 ^ n - 1 ↔ allD ds n = true := by
  have hiff : allD ds n = true ↔ ∀ j, j < n → bx ds j = true := by
    unfold allD
    constructor
    · intro h j hj
      cases hb : bx ds j with
      | true => rfl
      | false => rw [anyI_true hj (by rw [hb]; rfl)] at h; exact absurd h (by decide)
    · intro h
      rw [anyI_false fun j hj => by rw [h j hj]; rfl]; rfl
  rw [hiff]
  constructor
  · intro h j hj
    have h2 := congrArg (fun x => x.testBit j) h
    simp only [mkD_bit, Nat.testBit_two_pow_sub_one] at h2
    simpa [hj] using h2
  · intro h
    refine Nat.eq_of_testBit_eq fun j => ?_
    rw [mkD_bit, Nat.testBit_two_pow_sub_one]
    by_cases hj : j < n
    · simp [hj, h j hj]
    · simp [hj]
abbrev NZ := Value × Value × Value × Int × List T3 × RK × List Nat
def ncell (z : NZ) : List Value := [z.1, z.2.1, .int .i64 z.2.2.2.1, z.2.2.1]
def ncells (zs : List NZ) : List Value := (zs.map ncell).flatten
def nk (zs : List NZ) : List (RK × List Nat) := zs.map fun z => z.2.2.2.2.2
theorem ncells_snoc (zs : List NZ) (z : NZ) : ncells (zs ++ [z]) = ncells zs ++ ncell z := by simp [ncells]
theorem nk_snoc (zs : List NZ) (z : NZ) : nk (zs ++ [z]) = nk zs ++ [z.2.2.2.2.2] := by simp [nk]
theorem ncells_length (zs : List NZ) : (ncells zs).length = zs.length * 4 := by
  induction zs with
  | nil => rfl
  | cons z zs ih => simp only [ncells, List.map_cons, List.flatten_cons, List.length_append] at ih ⊢; rw [ih]; simp [ncell]; omega
theorem preN {zs : List NZ} {i : Nat} {z : NZ} (h : zs[i]? = some z) : Pre (ncells zs) (i * 4) (ncell z) := by
  obtain ⟨hi, he⟩ := List.getElem?_eq_some_iff.1 h
  have e : zs = zs.take i ++ z :: zs.drop (i + 1) := by rw [← he, List.getElem_cons_drop, List.take_append_drop]
  refine Pre.of fun j v hv => ?_
  have hj : j < (ncell z).length := (List.getElem?_eq_some_iff.1 hv).1
  have hl : (ncells (zs.take i)).length = i * 4 := by rw [ncells_length, List.length_take, Nat.min_eq_left (by omega)]
  have e2 : ncells zs = ncells (zs.take i) ++ (ncell z ++ ncells (zs.drop (i + 1))) := by
    conv => lhs; rw [e]
    simp [ncells]
  rw [e2, List.getElem?_append_right (by omega), hl, show i * 4 + j - i * 4 = j by omega, List.getElem?_append_left hj]
  exact hv
theorem preN_sub {cs : List Value} : ∀ {xs : List Value} {b o : Nat} {v : Value}, Pre cs b xs → xs[o]? = some v → Pre cs (b + o) [v]
  | x :: xs, b, 0, v, h, hv => ⟨by simp only [List.getElem?_cons_zero, Option.some.injEq] at hv; rw [← hv]; exact h.1, trivial⟩
  | x :: xs, b, o + 1, v, h, hv => by
    have := preN_sub (o := o) h.2 (by simpa using hv)
    rwa [show b + 1 + o = b + (o + 1) by omega] at this
  | [], _, _, _, _, hv => by simp at hv
def pmN (pn : Nat) (z : NZ) : Value × Nat × List Value := (z.1, pn, ints z.2.2.2.2.2.1.1)
def dmN (n : Nat) (z : NZ) : Value × Nat × List Value := (z.2.1, n, bls z.2.2.2.2.2.1.2)
def smN (z : NZ) : Value × Nat × List Value := (z.2.2.1, z.2.2.2.2.1.length, ints (fl3 z.2.2.2.2.1))
def pgN (pn : Nat) (zs : List NZ) : List (Value × Nat × List Value) := zs.map (pmN pn)
def dgN (n : Nat) (zs : List NZ) : List (Value × Nat × List Value) := zs.map (dmN n)
def sgN (zs : List NZ) : List (Value × Nat × List Value) := zs.map smN
theorem pgN_mem {pn : Nat} {zs : List NZ} {z : NZ} (h : z ∈ zs) : pmN pn z ∈ pgN pn zs := List.mem_map.2 ⟨z, h, rfl⟩
theorem dgN_mem {n : Nat} {zs : List NZ} {z : NZ} (h : z ∈ zs) : dmN n z ∈ dgN n zs := List.mem_map.2 ⟨z, h, rfl⟩
theorem sgN_mem {zs : List NZ} {z : NZ} (h : z ∈ zs) : smN z ∈ sgN zs := List.mem_map.2 ⟨z, h, rfl⟩
theorem Weak.pgNSnoc {H : List Res} {e : TypeId} {pn : Nat} {zs : List NZ} {z : NZ} : Weak (.own z.1 e 1 pn (ints z.2.2.2.2.2.1.1) :: .grp e 1 (pgN pn zs) :: H) (.grp e 1 (pgN pn (zs ++ [z])) :: H) := by
  have h := Weak.grpSnocR (H := H) (e := e) (size := 1) (v := z.1) (n := pn) (xs := ints z.2.2.2.2.2.1.1) (l := pgN pn zs)
  have e2 : pgN pn (zs ++ [z]) = pgN pn zs ++ [(z.1, pn, ints z.2.2.2.2.2.1.1)] := by simp [pgN, pmN]
  rw [e2]; exact h
theorem Weak.dgNSnoc {H : List Res} {e : TypeId} {n : Nat} {zs : List NZ} {z : NZ} : Weak (.own z.2.1 e 1 n (bls z.2.2.2.2.2.1.2) :: .grp e 1 (dgN n zs) :: H) (.grp e 1 (dgN n (zs ++ [z])) :: H) := by
  have h := Weak.grpSnocR (H := H) (e := e) (size := 1) (v := z.2.1) (n := n) (xs := bls z.2.2.2.2.2.1.2) (l := dgN n zs)
  have e2 : dgN n (zs ++ [z]) = dgN n zs ++ [(z.2.1, n, bls z.2.2.2.2.2.1.2)] := by simp [dgN, dmN]
  rw [e2]; exact h
theorem Weak.sgNSnoc {H : List Res} {e : TypeId} {zs : List NZ} {z : NZ} : Weak (.own z.2.2.1 e 3 z.2.2.2.2.1.length (ints (fl3 z.2.2.2.2.1)) :: .grp e 3 (sgN zs) :: H) (.grp e 3 (sgN (zs ++ [z])) :: H) := by
  have h := Weak.grpSnocR (H := H) (e := e) (size := 3) (v := z.2.2.1) (n := z.2.2.2.2.1.length) (xs := ints (fl3 z.2.2.2.2.1)) (l := sgN zs)
  have e2 : sgN (zs ++ [z]) = sgN zs ++ [(z.2.2.1, z.2.2.2.2.1.length, ints (fl3 z.2.2.2.2.1))] := by simp [sgN, smN]
  rw [e2]; exact h
/-- The table of what has been met. -/
structure TbOk (N pn n : Nat) (T : List (Value × List Int)) (q : List (RK × List Nat)) : Prop where
  len : T.length = N
  few : ∀ c, c < N → (lx T c).length ≤ q.length
  has : ∀ c, c < N → ∀ x, x ∈ lx T c ↔ ∃ y ∈ q, cdP y.1.1 pn = (c : Int) ∧ x = ((mkD y.1.2 n : Nat) : Int)
theorem TbOk.start (N pn n : Nat) : TbOk N pn n (List.replicate N ((.slice none 0 0 : Value), ([] : List Int))) [] := by
  have h : ∀ c, lx (List.replicate N ((.slice none 0 0 : Value), ([] : List Int))) c = [] := by
    intro c
    simp only [lx, List.map_replicate, List.getD, List.getElem?_replicate]
    split <;> rfl
  exact ⟨by simp, fun c _ => by rw [h]; simp, fun c _ x => by rw [h]; simp⟩
theorem TbOk.snoc {N pn n : Nat} {T : List (Value × List Int)} {q : List (RK × List Nat)} {v : Value} {c : Nat} {k : RK} {p : List Nat} (h : TbOk N pn n T q) (hc : cdP k.1 pn = (c : Int)) (hcN : c < N) : TbOk N pn n (T.set c (v, lx T c ++ [((mkD k.2 n : Nat) : Int)])) (q ++ [(k, p)]) := by
  have hl := h.len
  refine ⟨by rw [List.length_set]; exact hl, fun d hd => ?_, fun d hd x => ?_⟩
  · rw [lx_set (by omega), List.length_append]
    have := h.few d hd
    split
    · rename_i e; subst e; simp only [List.length_append, List.length_cons, List.length_nil]; omega
    · simp only [List.length_cons, List.length_nil]; omega
  · rw [lx_set (by omega)]
    have hh := h.has d hd x
    by_cases e : d = c
    · subst e
      rw [if_pos rfl]
      show x ∈ lx T d ++ [_] ↔ _
      rw [List.mem_append, hh]
      simp only [List.mem_singleton, List.mem_append]
      constructor
      · rintro (⟨y, hy, h1, h2⟩ | rfl)
        · exact ⟨y, .inl hy, h1, h2⟩
        · exact ⟨_, .inr rfl, hc, rfl⟩
      · rintro ⟨y, hy | rfl, h1, h2⟩
        · exact .inl ⟨y, hy, h1, h2⟩
        · exact .inr h2
    · rw [if_neg e, hh]
      simp only [List.mem_append, List.mem_singleton]
      constructor
      · rintro ⟨y, hy, h1, h2⟩; exact ⟨y, .inl hy, h1, h2⟩
      · rintro ⟨y, hy | rfl, h1, h2⟩
        · exact ⟨y, hy, h1, h2⟩
        · exfalso; simp only at h1; omega
theorem key_eq {N Q : Int} {xs : List Int} {n pn : Nat} (hN : N ≤ 5) {k l : RK} (h : KOk N Q pn n xs k) (h' : KOk N Q pn n xs l) (h1 : cdP k.1 pn = cdP l.1 pn) (h2 : mkD k.2 n = mkD l.2 n) : k = l := by
  have hp := cdP_inj (pl_range hN h.po) (pl_range hN h'.po) pn (Nat.le_refl _) h1
  exact Prod.ext (list_ext_ix (by rw [h.pl, h'.pl]) fun j hj => hp j (by rw [← h.pl]; exact hj)) (mkD_inj h.dl h'.dl h2)
theorem cd_at {N Q : Int} {xs : List Int} {n pn : Nat} (hN : N ≤ 5) (h5 : pn ≤ 5) {k : RK} (h : KOk N Q pn n xs k) : ∃ c : Nat, c < 3125 ∧ cdP k.1 pn = (c : Int) := by
  have h1 := cdP_range (pl_range hN h.po) pn (Nat.le_refl _)
  have h2 := pow5_le h5
  exact ⟨(cdP k.1 pn).toNat, by omega, by omega⟩
theorem TbOk.met {N : Nat} {N' Q : Int} {xs : List Int} {pn n : Nat} {T : List (Value × List Int)} {q : List (RK × List Nat)} {c : Nat} {k : RK} (h : TbOk N pn n T q) (hN : N' ≤ 5) (hq : ∀ y ∈ q, KOk N' Q pn n xs y.1) (hk : KOk N' Q pn n xs k) (hc : cdP k.1 pn = (c : Int)) (hcN : c < N) : hasI (lx T c) ((mkD k.2 n : Nat) : Int) (lx T c).length = decide (k ∈ q.map (·.1)) := by
  rw [hasI_mem, decide_eq_decide, h.has c hcN]
  constructor
  · rintro ⟨y, hy, h1, h2⟩
    exact List.mem_map.2 ⟨y, hy, key_eq hN (hq y hy) hk (h1.trans hc.symm) (by omega)⟩
  · intro hm
    obtain ⟨y, hy, rfl⟩ := List.mem_map.1 hm
    exact ⟨y, hy, hc, rfl⟩
/-- The steps of one edge. -/
def owS (es : List Int) (m : Nat) (xs : List Int) (n : Nat) (k : RK) (e : Nat) : List T3 := (advS (goB es m xs (swL (ix es (e * 2)) (ix es (e * 2 + 1)) k.1)) n k.2 [((-1, ix es (e * 2), ix es (e * 2 + 1)) : T3)]).2
theorem adv_app (g : List Bool → Nat → Bool) (n : Nat) : ∀ f ds L M, (adv g n f ds (L ++ M)).2 = L ++ (adv g n f ds M).2
  | 0, ds, L, M => rfl
  | f + 1, ds, L, M => by
    rw [adv, adv]
    split
    · rfl
    · rw [List.append_assoc, adv_app g n f]
/-- The steps of a start and a path. -/
def fulS (es : List Int) (m : Nat) (xs : List Int) (n : Nat) (sts : List (List Int)) : List Nat → List T3
  | [] => []
  | s :: u => stp es m xs n (rS es m xs n (sts.getD s [])) (rL es m xs n (sts.getD s [])) u
theorem fulS_snoc {es : List Int} {m : Nat} {xs : List Int} {n : Nat} {sts : List (List Int)} {s : Nat} {u : List Nat} {k : RK} {e : Nat} (h : k = bev (kstep es m xs n) (rS es m xs n (sts.getD s [])) u) : fulS es m xs n sts (s :: u ++ [e]) = fulS es m xs n sts (s :: u) ++ owS es m xs n k e := by
  rw [List.cons_append, fulS, stp_snoc, fulS, ← h]
  exact adv_app _ _ _ _ _ _
abbrev NF (es : List Int) (m : Nat) (xs : List Int) (n : Nat) (sts : List (List Int)) (k : RK) (p : List Nat) : Prop := ∃ s u, p = s :: u ∧ s < sts.length ∧ k = bev (kstep es m xs n) (rS es m xs n (sts.getD s [])) u ∧ ∀ e ∈ u, e < m
/-- Each entry names the one it comes from. -/
def LkN (es : List Int) (m : Nat) (xs : List Int) (n : Nat) (sts : List (List Int)) (zs : List NZ) : Prop := ∀ (j : Nat) (z : NZ), zs[j]? = some z →
  (z.2.2.2.1 = -1 ∧ ∃ s, z.2.2.2.2.2.2 = [s] ∧ z.2.2.2.2.2.1.1 = sts.getD s [] ∧ z.2.2.2.2.1 = rL es m xs n (sts.getD s [])) ∨
  ∃ (f : Nat) (e : Nat) (y : NZ), z.2.2.2.1 = (f : Int) ∧ f < j ∧ zs[f]? = some y ∧ z.2.2.2.2.2.2 = y.2.2.2.2.2.2 ++ [e] ∧ z.2.2.2.2.1 = owS es m xs n y.2.2.2.2.2.1 e
theorem LkN.snoc {es : List Int} {m : Nat} {xs : List Int} {n : Nat} {sts : List (List Int)} {zs : List NZ} {z : NZ} (h : LkN es m xs n sts zs)
    (hz : (z.2.2.2.1 = -1 ∧ ∃ s, z.2.2.2.2.2.2 = [s] ∧ z.2.2.2.2.2.1.1 = sts.getD s [] ∧ z.2.2.2.2.1 = rL es m xs n (sts.getD s [])) ∨ ∃ (f : Nat) (e : Nat) (y : NZ), z.2.2.2.1 = (f : Int) ∧ zs[f]? = some y ∧ z.2.2.2.2.2.2 = y.2.2.2.2.2.2 ++ [e] ∧ z.2.2.2.2.1 = owS es m xs n y.2.2.2.2.2.1 e) : LkN es m xs n sts (zs ++ [z]) := by
  intro j y hy
  have hup : ∀ (f : Nat) (y : NZ), zs[f]? = some y → (zs ++ [z])[f]? = some y := fun f y h => by rw [List.getElem?_append_left (List.getElem?_eq_some_iff.1 h).1]; exact h
  by_cases hj : j < zs.length
  · rw [List.getElem?_append_left hj] at hy
    rcases h j y hy with h1 | ⟨f, e, x, h1, h2, h3, h4, h5⟩
    · exact .inl h1
    · exact .inr ⟨f, e, x, h1, h2, hup f x h3, h4, h5⟩
  · rw [List.getElem?_append_right (by omega)] at hy
    have hj2 : j = zs.length := by
      have := (List.getElem?_eq_some_iff.1 hy).1
      simp only [List.length_cons, List.length_nil] at this; omega
    subst hj2
    rw [Nat.sub_self, List.getElem?_cons_zero, Option.some.injEq] at hy
    subst hy
    rcases hz with h1 | ⟨f, e, x, h1, h3, h4, h5⟩
    · exact .inl h1
    · exact .inr ⟨f, e, x, h1, (List.getElem?_eq_some_iff.1 h3).1, hup f x h3, h4, h5⟩
/-- On the way back. -/
def OutN (es : List Int) (m : Nat) (xs : List Int) (n : Nat) (sts : List (List Int)) (zs : List NZ) (w : List Nat) (kk : Int) (T : List T3) (S : List Int) : Prop :=
  (∃ (f : Nat) (y : NZ) (r : List Nat), kk = (f : Int) ∧ zs[f]? = some y ∧ w = y.2.2.2.2.2.2 ++ r ∧ fulS es m xs n sts w = fulS es m xs n sts y.2.2.2.2.2.2 ++ T) ∨
  (kk = -1 ∧ fulS es m xs n sts w = T ∧ S = sts.getD (w.headD 0) [])
theorem OutN.step {es : List Int} {m : Nat} {xs : List Int} {n : Nat} {sts : List (List Int)} {zs : List NZ} {w r : List Nat} {f : Nat} {T : List T3} {y : NZ} (hl : LkN es m xs n sts zs) (hf : ∀ z ∈ zs, NF es m xs n sts z.2.2.2.2.2.1 z.2.2.2.2.2.2) (hy : zs[f]? = some y) (hw : w = y.2.2.2.2.2.2 ++ r) (hT : fulS es m xs n sts w = fulS es m xs n sts y.2.2.2.2.2.2 ++ T) :
    OutN es m xs n sts zs w y.2.2.2.1 (y.2.2.2.2.1 ++ T) y.2.2.2.2.2.1.1 ∧ -1 ≤ y.2.2.2.1 ∧ y.2.2.2.1 < f ∧ y.2.2.2.2.1.length + T.length ≤ (fulS es m xs n sts w).length := by
  rcases hl f y hy with ⟨h1, s, h2, h3, h4⟩ | ⟨g, e, x, h1, h2, h3, h4, h5⟩
  · have h6 : fulS es m xs n sts y.2.2.2.2.2.2 = y.2.2.2.2.1 := by rw [h2, h4]; rfl
    rw [h6] at hT
    refine ⟨.inr ⟨h1, hT, ?_⟩, by omega, by omega, ?_⟩
    · rw [hw, h2, h3]; rfl
    · rw [hT, List.length_append]; exact Nat.le_refl _
  · obtain ⟨s, u, h6, _, h7, _⟩ := hf x (List.mem_of_getElem? h3)
    have h8 : fulS es m xs n sts y.2.2.2.2.2.2 = fulS es m xs n sts x.2.2.2.2.2.2 ++ y.2.2.2.2.1 := by
      rw [h4, h6, fulS_snoc h7, h5]
    rw [h8, List.append_assoc] at hT
    refine ⟨.inl ⟨g, x, [e] ++ r, h1, h3, ?_, hT⟩, by omega, by omega, ?_⟩
    · rw [hw, h4, List.append_assoc]
    · rw [hT]; simp only [List.length_append]; omega

end Go.Proofs.Ytekikmdjldincaa
