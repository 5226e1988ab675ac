/- The queue of the program's search for routes: its cells and the groups of its slices. -/
import Derived.Test.YtekikmdjldincaaLsk
import Derived.Test.YtekikmdjldincaaProg
set_option linter.unusedSimpArgs false
set_option linter.unusedVariables false
namespace Go.Proofs.Ytekikmdjldincaa
open Go Go.RowKit

theorem Pre.of {cs : List Value} : ∀ {xs : List Value} {o : Nat}, (∀ j v, xs[j]? = some v → cs[o + j]? = some v) → Pre cs o xs
  | [], _, _ => trivial
  | x :: xs, o, h => ⟨by simpa using h 0 x rfl, Pre.of fun j v hv => by have := h (j + 1) v (by simpa using hv); rwa [show o + (j + 1) = o + 1 + j by omega] at this⟩
theorem Weak.grpTakeR {H : List Res} {e : TypeId} {size : Nat} {p : Value × Nat × List Value} {A B : List (Value × Nat × List Value)} : Weak (.grp e size (A ++ p :: B) :: H) (.own p.1 e size p.2.1 p.2.2 :: .grp e size (A ++ B) :: H) :=
  (Weak.grpPerm (l' := p :: (A ++ B)) List.perm_middle).trans Weak.grpOut
theorem Weak.grpSnocR {H : List Res} {e : TypeId} {size n : Nat} {v : Value} {xs : List Value} {l : List (Value × Nat × List Value)} : Weak (.own v e size n xs :: .grp e size l :: H) (.grp e size (l ++ [(v, n, xs)]) :: H) :=
  Weak.grpIn.trans (Weak.grpPerm (List.perm_append_singleton _ _).symm)
theorem St.slGrpR {M : Nat → Prop} {w0 w : World} {H : List Res} {e : TypeId} {size : Nat} {l : List (Value × Nat × List Value)} (hs : St M w0 w H) (hm : Res.grp e size l ∈ H) {p : Value × Nat × List Value} (hp : p ∈ l) : Sl w p.1 size p.2.1 p.2.2 := by
  obtain ⟨A, B, rfl⟩ := List.append_of_mem hp
  obtain ⟨H1, H2, rfl⟩ := List.append_of_mem hm
  have h1 := hs.perm (List.perm_middle (a := Res.grp e size (A ++ p :: B)) (l₁ := H1) (l₂ := H2))
  exact (Weak.grpTakeR _ _ _ h1).slOwn (.head _)
theorem Run.formMem {E : Env} {k : List It} {f : Fr} {H : List Res} {e : TypeId} {size : Nat} {l : List (Value × Nat × List Value)} (hm : Res.grp e size l ∈ H) {p : Value × Nat × List Value} (hp : p ∈ l)
    (h : ∀ A c, p.1 = .slice A p.2.1 c → Run E k f H) (hk : ∀ G i k', k ≠ .goal G :: k' ∧ k ≠ .block i :: k' ∧ k ≠ []) : Run E k f H := by
  have key : ∀ w, St E.M E.w0 w H → Run E k f H := by
    intro w hs
    obtain ⟨A, c, he, _, _⟩ := (hs.slGrpR hm hp).form0
    exact h A c he
  match k, hk with
  | [], hk => exact absurd rfl (hk (fun _ _ => True) 0 []).2.2
  | .goal G :: k', hk => exact absurd rfl (hk G 0 k').1
  | .block i :: k', hk => exact absurd rfl (hk (fun _ _ => True) i k').2.1
  | .rounds c n :: k', _ => exact fun a w ha hs => key w hs a w ha hs
  | .ops ops l :: k', _ => exact fun a w ha hs => key w hs a w ha hs
  | .code c :: k', _ => exact fun a w ha hs => key w hs a w ha hs
abbrev RZ := Value × Value × Value × RK × List Nat
/-- A node of the program's search: three slices, the state, the path. -/
def rcell (N : Int) (vg : Value) (Q : Int) (vc : Value) (z : RZ) : List Value := [.int .i64 N, vg, .int .i64 Q, vc, z.1, z.2.1, z.2.2.1]
def rcells (N : Int) (vg : Value) (Q : Int) (vc : Value) (zs : List RZ) : List Value := (zs.map (rcell N vg Q vc)).flatten
def rk (zs : List RZ) : List (RK × List Nat) := zs.map fun z => z.2.2.2
theorem rcells_snoc (N : Int) (vg : Value) (Q : Int) (vc : Value) (zs : List RZ) (z : RZ) : rcells N vg Q vc (zs ++ [z]) = rcells N vg Q vc zs ++ rcell N vg Q vc z := by simp [rcells]
theorem rcells_length (N : Int) (vg : Value) (Q : Int) (vc : Value) (zs : List RZ) : (rcells N vg Q vc zs).length = zs.length * 7 := by
  induction zs with
  | nil => rfl
  | cons z zs ih => simp only [rcells, List.map_cons, List.flatten_cons, List.length_append] at ih ⊢; rw [ih]; simp [rcell]; omega
def pm (pn : Nat) (z : RZ) : Value × Nat × List Value := (z.1, pn, ints z.2.2.2.1.1)
def dm (n : Nat) (z : RZ) : Value × Nat × List Value := (z.2.1, n, bls z.2.2.2.1.2)
def sm (S : List Nat → List T3) (z : RZ) : Value × Nat × List Value := (z.2.2.1, (S z.2.2.2.2).length, ints (fl3 (S z.2.2.2.2)))
def pgp (pn : Nat) (zs : List RZ) : List (Value × Nat × List Value) := zs.map (pm pn)
def dgp (n : Nat) (zs : List RZ) : List (Value × Nat × List Value) := zs.map (dm n)
def sgp (S : List Nat → List T3) (zs : List RZ) : List (Value × Nat × List Value) := zs.map (sm S)
theorem preR {N : Int} {vg : Value} {Q : Int} {vc : Value} {zs : List RZ} {i : Nat} {z : RZ} (h : zs[i]? = some z) : Pre (rcells N vg Q vc zs) (i * 7) (rcell N vg Q vc z) := by
  obtain ⟨hi, he⟩ := List.getElem?_eq_some_iff.1 h
  have e : zs = zs.take i ++ z :: zs.drop (i + 1) := by rw [← he, List.getElem_cons_drop, List.take_append_drop]
  refine Pre.of fun j v hv => ?_
  have hj : j < (rcell N vg Q vc z).length := (List.getElem?_eq_some_iff.1 hv).1
  have hl : (rcells N vg Q vc (zs.take i)).length = i * 7 := by rw [rcells_length, List.length_take, Nat.min_eq_left (by omega)]
  have e2 : rcells N vg Q vc zs = rcells N vg Q vc (zs.take i) ++ (rcell N vg Q vc z ++ rcells N vg Q vc (zs.drop (i + 1))) := by
    conv => lhs; rw [e]
    simp [rcells]
  rw [e2, List.getElem?_append_right (by omega), hl, show i * 7 + j - i * 7 = j by omega, List.getElem?_append_left hj]
  exact hv
theorem pg_mem {pn : Nat} {zs : List RZ} {z : RZ} (h : z ∈ zs) : pm pn z ∈ pgp pn zs := List.mem_map.2 ⟨z, h, rfl⟩
theorem dg_mem {n : Nat} {zs : List RZ} {z : RZ} (h : z ∈ zs) : dm n z ∈ dgp n zs := List.mem_map.2 ⟨z, h, rfl⟩
theorem sg_mem {S : List Nat → List T3} {zs : List RZ} {z : RZ} (h : z ∈ zs) : sm S z ∈ sgp S zs := List.mem_map.2 ⟨z, h, rfl⟩
theorem Weak.pgSnoc {H : List Res} {e : TypeId} {pn : Nat} {zs : List RZ} {z : RZ} : Weak (.own z.1 e 1 pn (ints z.2.2.2.1.1) :: .grp e 1 (pgp pn zs) :: H) (.grp e 1 (pgp pn (zs ++ [z])) :: H) := by
  have h := Weak.grpSnocR (H := H) (e := e) (size := 1) (v := z.1) (n := pn) (xs := ints z.2.2.2.1.1) (l := pgp pn zs)
  have e2 : pgp pn (zs ++ [z]) = pgp pn zs ++ [(z.1, pn, ints z.2.2.2.1.1)] := by simp [pgp, pm]
  rw [e2]; exact h
theorem Weak.dgSnoc {H : List Res} {e : TypeId} {n : Nat} {zs : List RZ} {z : RZ} : Weak (.own z.2.1 e 1 n (bls z.2.2.2.1.2) :: .grp e 1 (dgp n zs) :: H) (.grp e 1 (dgp n (zs ++ [z])) :: H) := by
  have h := Weak.grpSnocR (H := H) (e := e) (size := 1) (v := z.2.1) (n := n) (xs := bls z.2.2.2.1.2) (l := dgp n zs)
  have e2 : dgp n (zs ++ [z]) = dgp n zs ++ [(z.2.1, n, bls z.2.2.2.1.2)] := by simp [dgp, dm]
  rw [e2]; exact h
theorem Weak.sgSnoc {H : List Res} {e : TypeId} {S : List Nat → List T3} {zs : List RZ} {z : RZ} : Weak (.own z.2.2.1 e 3 (S z.2.2.2.2).length (ints (fl3 (S z.2.2.2.2))) :: .grp e 3 (sgp S zs) :: H) (.grp e 3 (sgp S (zs ++ [z])) :: H) := by
  have h := Weak.grpSnocR (H := H) (e := e) (size := 3) (v := z.2.2.1) (n := (S z.2.2.2.2).length) (xs := ints (fl3 (S z.2.2.2.2))) (l := sgp S zs)
  have e2 : sgp S (zs ++ [z]) = sgp S zs ++ [(z.2.2.1, (S z.2.2.2.2).length, ints (fl3 (S z.2.2.2.2)))] := by simp [sgp, sm]
  rw [e2]; exact h

end Go.Proofs.Ytekikmdjldincaa
