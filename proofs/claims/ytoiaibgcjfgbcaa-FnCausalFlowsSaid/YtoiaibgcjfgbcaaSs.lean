/- Walks: the laws' own functions on slices of slices of int. -/
import Derived.Test.YtoiaibgcjfgbcaaGs
import Derived.Test.YtoiaibgcjfgbcaaProg
set_option linter.unusedSimpArgs false
set_option linter.unusedVariables false
namespace Go.Proofs.Ytoiaibgcjfgbcaa
open Go Go.RowKit

def vx (ps : List (Value × List Int)) (i : Nat) : Value := (ps.map (·.1)).getD i undef
def lx (ps : List (Value × List Int)) (i : Nat) : List Int := (ps.map (·.2)).getD i []
theorem preO {ps : List (Value × List Int)} {i : Nat} (h : i < ps.length) : Pre (oc ps) i [vx ps i] := ⟨by simp [oc, vx, List.getD, h], trivial⟩
/-- Each member can be read. -/
def GrpSl (w : World) (ps : List (Value × List Int)) : Prop := ∀ i, i < ps.length → Sl w (vx ps i) 1 (lx ps i).length (ints (lx ps i))
theorem px_eq {ps : List (Value × List Int)} {i : Nat} (h : i < ps.length) : (vx ps i, lx ps i) ∈ ps := by
  have : (vx ps i, lx ps i) = ps[i] := by simp [vx, lx, List.getD, h]
  rw [this]; exact List.getElem_mem h
theorem St.grpSl {M : Nat → Prop} {w0 w : World} {H : List Res} {e : TypeId} {ps : List (Value × List Int)} (hs : St M w0 w H) (hm : Res.grp e 1 (gl ps) ∈ H) : GrpSl w ps :=
  fun _ hi => hs.slGrp hm (px_eq hi)
theorem GrpSl.go {w0 w : World} {H : List Res} {ps : List (Value × List Int)} (h : GrpSl w0 ps) (hs : St No w0 w H) : GrpSl w ps := fun i hi => hs.sl (h i hi)
theorem lx_of {ps qs : List (Value × List Int)} (h : ps.map (·.2) = qs.map (·.2)) (i : Nat) : lx ps i = lx qs i := by simp only [lx, h]
theorem len_of {ps qs : List (Value × List Int)} (h : ps.map (·.2) = qs.map (·.2)) : ps.length = qs.length := by
  have := congrArg List.length h; simpa using this
/-- The number of all elements. -/
def tot (ps : List (Value × List Int)) : Nat := (ps.map (·.2.length)).sum
/-- The lists written over with k, k + 1, .. -/
def mkps : Int → List (Value × List Int) → List (Value × List Int)
  | _, [] => []
  | k, p :: ps => (p.1, mks k p.2.length) :: mkps (k + (p.2.length : Nat)) ps
@[simp] theorem mkps_length : ∀ (ps : List (Value × List Int)) (k : Int), (mkps k ps).length = ps.length
  | [], _ => rfl
  | p :: ps, k => by simp [mkps, mkps_length ps]
theorem mkps_fst : ∀ (ps : List (Value × List Int)) (k : Int), (mkps k ps).map (·.1) = ps.map (·.1)
  | [], _ => rfl
  | p :: ps, k => by simp [mkps, mkps_fst ps]
theorem oc_mkps (ps : List (Value × List Int)) (k : Int) : oc (mkps k ps) = oc ps := mkps_fst ps k
theorem tot_mkps : ∀ (ps : List (Value × List Int)) (k : Int), tot (mkps k ps) = tot ps
  | [], _ => rfl
  | p :: ps, k => by have := tot_mkps ps (k + (p.2.length : Nat)); simp only [tot, mkps, List.map_cons, List.sum_cons, mks_length] at this ⊢; omega
theorem tot_take_succ {ps : List (Value × List Int)} {i : Nat} (h : i < ps.length) : tot (ps.take (i + 1)) = tot (ps.take i) + (lx ps i).length := by
  have e : ps.take (i + 1) = ps.take i ++ [ps[i]] := (List.take_append_getElem h).symm
  have e2 : lx ps i = ps[i].2 := by simp [lx, List.getD, h]
  rw [e, e2]
  simp only [tot, List.map_append, List.sum_append, List.map_cons, List.map_nil, List.sum_cons, List.sum_nil]; omega
theorem tot_take_le {ps : List (Value × List Int)} : ∀ {i : Nat}, tot (ps.take i) ≤ tot ps := by
  intro i
  have : tot ps = tot (ps.take i) + tot (ps.drop i) := by
    conv => lhs; rw [← List.take_append_drop i ps]
    simp only [tot, List.map_append, List.sum_append]
  omega
theorem tot_all (ps : List (Value × List Int)) : tot (ps.take ps.length) = tot ps := by rw [List.take_length]
theorem lx_le {ps : List (Value × List Int)} {i : Nat} (h : i < ps.length) : tot (ps.take i) + (lx ps i).length ≤ tot ps := by
  rw [← tot_take_succ h]; exact tot_take_le
theorem lx_mkps : ∀ {ps : List (Value × List Int)} {k : Int} {i : Nat}, i < ps.length → lx (mkps k ps) i = mks (k + (tot (ps.take i) : Nat)) (lx ps i).length
  | [], _, _, h => by simp at h
  | p :: ps, k, 0, _ => by simp [lx, mkps, tot, List.getD]
  | p :: ps, k, i + 1, h => by
    have ih := lx_mkps (ps := ps) (k := k + (p.2.length : Nat)) (i := i) (by simpa using h)
    have e1 : lx (mkps k (p :: ps)) (i + 1) = lx (mkps (k + (p.2.length : Nat)) ps) i := by simp [lx, mkps, List.getD]
    have e2 : lx (p :: ps) (i + 1) = lx ps i := by simp [lx, List.getD]
    have e3 : tot ((p :: ps).take (i + 1)) = p.2.length + tot (ps.take i) := by simp [tot]
    rw [e1, e2, e3, ih]; congr 1; omega
/-- The lists hold k, k + 1, .. -/
def IsMk (k : Int) (ps : List (Value × List Int)) : Prop := ∀ i, i < ps.length → lx ps i = mks (k + (tot (ps.take i) : Nat)) (lx ps i).length
theorem mkps_take : ∀ (ps : List (Value × List Int)) (k : Int) (i : Nat), (mkps k ps).take i = mkps k (ps.take i)
  | [], _, i => by simp [mkps]
  | p :: ps, k, 0 => by simp [mkps]
  | p :: ps, k, i + 1 => by simp [mkps, mkps_take ps]
theorem isMk_mkps {ps : List (Value × List Int)} {k : Int} : IsMk k (mkps k ps) := by
  intro i hi
  rw [mkps_length] at hi
  rw [lx_mkps hi, mkps_take, tot_mkps, mks_length]
theorem vx_split {A B ps : List (Value × List Int)} {p : Value × List Int} (h : A.map (·.1) ++ (p :: B).map (·.1) = ps.map (·.1)) : vx ps A.length = p.1 := by
  simp only [vx, ← h, List.getD, List.map_cons]
  rw [List.getElem?_append_right (by simp)]
  simp
theorem Weak.putBack {e : TypeId} {v : Value} {l : List Int} {O : Res} {A B : List (Value × List Int)} : Weak [.own v e 1 l.length (ints l), .grp e 1 (gl (A ++ B)), O] [O, .grp e 1 (gl ((A ++ [(v, l)]) ++ B))] := by
  refine Weak.trans (Weak.grpPut (p := (v, l))) ?_
  refine Weak.trans (Weak.front [Res.grp e 1 (gl (A ++ (v, l) :: B))] O []) ?_
  exact Some'.weak (.take (.takeEq (by simp) (.nil _)))
theorem tot_snoc (A : List (Value × List Int)) (v : Value) (l : List Int) : tot (A ++ [(v, l)]) = tot A + l.length := by simp [tot]
theorem mk_round {A B ps : List (Value × List Int)} {p : Value × List Int} {k : Int} (h : mkps k ps = A ++ mkps (k + (tot A : Nat)) (p :: B)) :
    mkps k ps = (A ++ [(p.1, mks (k + (tot A : Nat)) p.2.length)]) ++ mkps (k + (tot (A ++ [(p.1, mks (k + (tot A : Nat)) p.2.length)]) : Nat)) B := by
  rw [h, mkps, tot_snoc, mks_length]
  simp only [List.append_assoc, List.singleton_append]
  congr 3; omega
theorem tot_bound {A B ps : List (Value × List Int)} {k : Int} (h : mkps k ps = A ++ mkps (k + (tot A : Nat)) B) : tot ps = tot A + tot B := by
  have := congrArg tot h
  rw [tot_mkps] at this
  rw [this]
  have e : tot (A ++ mkps (k + (tot A : Nat)) B) = tot A + tot (mkps (k + (tot A : Nat)) B) := by simp [tot]
  rw [e, tot_mkps]
theorem tot_cons (p : Value × List Int) (B : List (Value × List Int)) : tot (p :: B) = p.2.length + tot B := by simp [tot]
theorem mk_fst {A B ps : List (Value × List Int)} {k : Int} (h : mkps k ps = A ++ mkps (k + (tot A : Nat)) B) : A.map (·.1) ++ B.map (·.1) = ps.map (·.1) := by
  have := congrArg (List.map (·.1)) h
  rw [mkps_fst, List.map_append, mkps_fst] at this
  exact this.symm
theorem mk_len {A B ps : List (Value × List Int)} {k : Int} (h : mkps k ps = A ++ mkps (k + (tot A : Nat)) B) : ps.length = A.length + B.length := by
  have := congrArg List.length h
  simpa using this

end Go.Proofs.Ytoiaibgcjfgbcaa
