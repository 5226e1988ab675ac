/- Groups of slices of int; the laws' own functions on [][]int. -/
import Derived.Test.YtoiaibgcjfgbcaaInts
import Derived.Test.YtoiaibgcjfgbcaaProg
set_option linter.unusedSimpArgs false
set_option linter.unusedVariables false
namespace Go.Proofs.Ytoiaibgcjfgbcaa
open Go Go.RowKit

/-- A group of slices of int, with their numbers. -/
def gl (ps : List (Value × List Int)) : List (Value × Nat × List Value) := ps.map fun p => (p.1, p.2.length, ints p.2)
/-- The outer slice's cells. -/
def oc (ps : List (Value × List Int)) : List Value := ps.map (·.1)
@[simp] theorem oc_length (ps : List (Value × List Int)) : (oc ps).length = ps.length := by simp [oc]
theorem oc_snoc (ps : List (Value × List Int)) (v : Value) (l : List Int) : oc ps ++ [v] = oc (ps ++ [(v, l)]) := by simp [oc]
theorem Weak.grpSnoc {H : List Res} {e : TypeId} {size : Nat} {v : Value} {l : List Int} {ps : List (Value × List Int)} : Weak (.own v e size l.length (ints l) :: .grp e size (gl ps) :: H) (.grp e size (gl (ps ++ [(v, l)])) :: H) :=
  Weak.grpIn.trans (Weak.grpPerm (by unfold gl; rw [List.map_append]; exact (List.perm_append_singleton _ _).symm))
theorem Weak.grpTake {H : List Res} {e : TypeId} {size : Nat} {p : Value × List Int} {A B : List (Value × List Int)} : Weak (.grp e size (gl (A ++ p :: B)) :: H) (.own p.1 e size p.2.length (ints p.2) :: .grp e size (gl (A ++ B)) :: H) :=
  (Weak.grpPerm (l' := gl (p :: (A ++ B))) (List.perm_middle.map _)).trans Weak.grpOut
theorem Weak.grpPut {H : List Res} {e : TypeId} {size : Nat} {p : Value × List Int} {A B : List (Value × List Int)} : Weak (.own p.1 e size p.2.length (ints p.2) :: .grp e size (gl (A ++ B)) :: H) (.grp e size (gl (A ++ p :: B)) :: H) :=
  Weak.grpIn.trans (Weak.grpPerm (l := gl (p :: (A ++ B))) (List.perm_middle.map _).symm)
theorem St.slGrp {M : Nat → Prop} {w0 w : World} {H : List Res} {e : TypeId} {size : Nat} {ps : List (Value × List Int)} (hs : St M w0 w H) (hm : Res.grp e size (gl ps) ∈ H) {p : Value × List Int} (hp : p ∈ ps) : Sl w p.1 size p.2.length (ints p.2) := by
  obtain ⟨A, B, rfl⟩ := List.append_of_mem hp
  obtain ⟨H1, H2, rfl⟩ := List.append_of_mem hm
  have h1 := hs.perm (List.perm_middle (a := Res.grp e size (gl (A ++ p :: B))) (l₁ := H1) (l₂ := H2))
  exact (Weak.grpTake _ _ _ h1).slOwn (.head _)

end Go.Proofs.Ytoiaibgcjfgbcaa
