/- How the laws' arguments are read: numbers, slices of numbers and of structs of numbers, structs. -/
import Derived.Test.YtnnkoeknejeieaaBase
import Derived.Deep.Slices
import Derived.ChangeShapes
import Derived.WideShapes
import Derived.ChangeSame
import Derived.ChangeArms
import Derived.Lib.SmallJoins
import Derived.Deep.Fields
import Derived.DataReads
set_option linter.unusedSimpArgs false
set_option linter.unusedVariables false
namespace Go.Proofs.Ytnnkoeknejeieaa
open Go Go.RowKit

open Go.ChangeShapes Go.WideShapes Go.Deep
theorem in64_wf {n : Int} (h : (Lit.int .i64 n).wf = true) : In64 n := by
  have h' : (decide (-9223372036854775808 ≤ n) && decide (n ≤ 9223372036854775807)) = true := by
    first | exact h | simpa [Lit.wf, IntKind.min, IntKind.max] using h
  simpa [In64] using h'
/-- A type that is laid out as k numbers. -/
def FlatT (P : Program) (t : TypeId) (k : Nat) : Prop :=
  P.cellsOf t = k ∧ ∀ (H : Type) (enc : TypeId × Value → H) (w : World) (base : Nat) (spare : Nat → Bool) (held : Bool) (fuel : Nat) (cs : List Value) (x : DataW H × List MemPlace),
    DataW.trod enc P w base spare held fuel t cs = some x → ∀ j, j < k → ∃ n, cs[j]? = some (.int .i64 n) ∧ In64 n
theorem FlatT.int {P : Program} {t : TypeId} (hc : P.cellsOf t = 1) (h : P.underlying t = some (.int .i64)) : FlatT P t 1 := by
  refine ⟨hc, fun H enc w base spare held fuel cs x hx j hj => ?_⟩
  obtain ⟨n, rfl, _, hw⟩ := DataW.trod_int h hx
  obtain rfl : j = 0 := by omega
  exact ⟨n, rfl, in64_wf hw⟩
/-- Every field is a number of its own cell. -/
def intFields (P : Program) (fs : Array Field) : Bool :=
  (List.range fs.size).all fun i => match fs[i]? with
    | some f => f.offset == i && P.cellsOf f.type == 1 && (match P.underlying f.type with | some (.int .i64) => true | _ => false)
    | none => false
theorem FlatT.struct {P : Program} {t : TypeId} {fs : Array Field} {k : Nat} (hk : fs.size = k) (hc : P.cellsOf t = k) (h : P.underlying t = some (.struct fs)) (hf : intFields P fs = true) : FlatT P t k := by
  refine ⟨hc, fun H enc w base spare held fuel cs x hx j hj => ?_⟩
  obtain ⟨xs, n, _, _, hl, hxs, hg⟩ := DataW.trod_struct h hx
  have h1 := List.all_eq_true.1 hf j (by simp; omega)
  split at h1
  · rename_i f hfj
    simp only [Bool.and_eq_true, beq_iff_eq] at h1
    obtain ⟨⟨ho, hcc⟩, hu⟩ := h1
    have hu' : P.underlying f.type = some (.int .i64) := by
      split at hu
      · assumption
      · cases hu
    have h2 := hg j f hfj
    rw [ho, hcc] at h2
    obtain ⟨y, hy⟩ : ∃ y, xs[j]? = some y := ⟨_, List.getElem?_eq_getElem (by omega)⟩
    rw [hy] at h2
    obtain ⟨m, he, _, hw⟩ := DataW.trod_int hu' h2
    refine ⟨m, ?_, in64_wf hw⟩
    have : (cs.drop j)[0]? = some (.int .i64 m) := by
      have h3 : ((cs.drop j).take 1)[0]? = some (Value.int .i64 m) := by rw [he]; rfl
      rwa [List.getElem?_take_of_lt (by omega)] at h3
    simpa using this
  · cases h1

/-- A slice of such elements. -/
theorem open_flat {H : Type} {enc : TypeId × Value → H} {P : Program} {w : World} {base : Nat} {spare : Nat → Bool} {held : Bool} {t e : TypeId} {k fuel : Nat} {v : Value} {x : DataW H × List MemPlace}
    (ht : P.underlying t = some (.slice e)) (he : FlatT P e k) (hk : 0 < k) (h : DataW.trod enc P w base spare held fuel t [v] = some x) :
    ∃ n xs, Sl w v k n (ints xs) ∧ ∀ i ∈ xs, In64 i := by
  rcases open_slice ht h with ⟨hv, _⟩ | ⟨a, len, cap, m, n, D, Pl, hcs, hb, hl, hm, hmm, hx, hi⟩
  · simp only [List.cons.injEq, and_true] at hv
    subst hv
    exact ⟨0, [], ⟨by simp [ints], none, 0, rfl, Nat.le_refl _, by simp, fun h => absurd h (by omega)⟩, by simp⟩
  · simp only [List.cons.injEq, and_true] at hcs
    subst hcs
    obtain ⟨hc, hF⟩ := he
    rw [hc] at hi
    have hle : len ≤ m := by rw [hmm]; split <;> omega
    have key : ∀ j, j < len * k → ∃ n, w.cell? ((a.add (j / k * k)).add (j % k)) = some (.int .i64 n) ∧ In64 n := by
      intro j hj
      have h1 : j / k < len := Nat.div_lt_of_lt_mul (by rw [Nat.mul_comm]; exact hj)
      obtain ⟨cs', hcells, htr⟩ := hi (j / k) (by omega)
      obtain ⟨_, hlen, hat⟩ := World.cells?_some hcells
      obtain ⟨n', hn', hr⟩ := hF _ _ _ _ _ _ _ _ _ htr (j % k) (Nat.mod_lt _ hk)
      exact ⟨n', (hat (j % k) (Nat.mod_lt _ hk)).trans hn', hr⟩
    have hnil : ∀ {a : Addr} {u : Value}, w.cell? a = some u → ∃ b o, a = ⟨b, o, none⟩ ∧ b < w.heap.size := by
      rintro ⟨b, o, sp⟩ u hu
      unfold World.cell? at hu
      split at hu
      · rename_i c _ _ hb
        cases sp with
        | none => exact ⟨b, o, rfl, (Array.getElem?_eq_some_iff.1 hb).1⟩
        | some s => simp at hu
      · cases hu
    rcases Nat.eq_zero_or_pos len with hl0 | hl0
    · subst hl0
      exact ⟨0, [], ⟨by simp [ints], some a, cap, rfl, by omega, hm, fun h => absurd h (by omega)⟩, by simp⟩
    · obtain ⟨n0, h0, _⟩ := key 0 (Nat.mul_pos hl0 hk)
      simp only [Nat.zero_div, Nat.zero_mul, Nat.zero_mod] at h0
      have h00 : w.cell? a = some (.int .i64 n0) := by simpa [Addr.add] using h0
      obtain ⟨b, o, rfl, hbs⟩ := hnil h00
      have key2 : ∀ j, j < len * k → ∃ n, w.cell? ⟨b, o + j, none⟩ = some (.int .i64 n) ∧ In64 n := by
        intro j hj
        obtain ⟨n, h1, h2⟩ := key j hj
        rw [Addr.add_mid, Addr.add_mid] at h1
        have e : o + j / k * k + j % k = o + j := by have := Nat.div_add_mod j k; rw [Nat.mul_comm] at this; omega
        rw [e] at h1
        exact ⟨n, h1, h2⟩
      let g : Nat → Int := fun j => match w.cell? ⟨b, o + j, none⟩ with | some (.int _ n) => n | _ => 0
      have hg : ∀ j, j < len * k → w.cell? ⟨b, o + j, none⟩ = some (.int .i64 (g j)) ∧ In64 (g j) := by
        intro j hj
        obtain ⟨n, h1, h2⟩ := key2 j hj
        have : g j = n := by simp only [g, h1]
        rw [this]; exact ⟨h1, h2⟩
      refine ⟨len, (List.range (len * k)).map g, ⟨by simp, some ⟨b, o, none⟩, cap, rfl, hl, hm, fun _ => ⟨b, o, rfl, hbs, ?_⟩⟩, ?_⟩
      · intro j v hv
        have hj : j < len * k := by
          have := (List.getElem?_eq_some_iff.1 hv).1
          simpa using this
        have : v = .int .i64 (g j) := by simpa [ints, hj] using hv.symm
        rw [this]; exact (hg j hj).1
      · intro i hi'
        obtain ⟨j, hj, rfl⟩ := List.mem_map.1 hi'
        exact (hg j (by simpa using hj)).2

/-- A struct by value whose fields are of one cell each: each field's own reading. -/
theorem open_aggN {H : Type} {enc : TypeId × Value → H} {P : Program} {w : World} {base : Nat} {spare : Nat → Bool} {held : Bool} {r : Reach} {b0 : Nat} {t : TypeId} {fs : Array Field} {v : Value} {d : DataW H} {p : List MemPlace}
    (hs : P.underlying t = some (.struct fs)) (hone : oneCellFields P fs = true) (hC : P.cellsOf t = fs.size) (hv : Value.okWide P w r b0 t v) (h : DataW.Trod enc P w base spare held t v d p) :
    ∃ (us : List Value) (n : Nat), v = .agg us.toArray ∧ us.length = fs.size ∧ ∀ (j : Nat) (f : Field), fs[j]? = some f → ∃ u y, us[j]? = some u ∧ DataW.trod enc P w base spare held n f.type [u] = some y := by
  obtain ⟨cs, rfl, hsz⟩ := okWide_struct hs hv
  obtain ⟨fuel, hf⟩ := h
  obtain ⟨xs, n, _, _, _, hlen, hg⟩ := DataW.trod_struct hs hf
  refine ⟨cs.toList, n, by simp, by simpa using hsz.trans hC, fun j f hj => ?_⟩
  obtain ⟨o, k⟩ := hone_of hone j f hj
  have h1 := hg j f hj
  have hjl : j < fs.size := (Array.getElem?_eq_some_iff.1 hj).1
  have hjc : j < cs.size := by rw [hsz.trans hC]; exact hjl
  rw [o, k] at h1
  have e1 : (((Value.agg cs).cells.toList).drop j).take 1 = [cs[j]] := by
    simp only [Value.cells]
    rw [List.drop_eq_getElem_cons (by simpa using hjc)]
    simp
  rw [e1, List.getElem?_eq_getElem (by omega)] at h1
  exact ⟨cs[j], _, by simp [hjc], h1⟩
theorem trod_num {H : Type} {enc : TypeId × Value → H} {P : Program} {w : World} {base : Nat} {spare : Nat → Bool} {held : Bool} {t : TypeId} {fuel : Nat} {v : Value} {x : DataW H × List MemPlace}
    (ht : P.underlying t = some (.int .i64)) (h : DataW.trod enc P w base spare held fuel t [v] = some x) : ∃ n, v = .int .i64 n ∧ In64 n := by
  obtain ⟨n, he, _, hw⟩ := DataW.trod_int ht h
  simp only [List.cons.injEq, and_true] at he
  exact ⟨n, he, in64_wf hw⟩
theorem open_sl {H : Type} {enc : TypeId × Value → H} {P : Program} {w : World} {base : Nat} {spare : Nat → Bool} {held : Bool} {r : Reach} {b0 : Nat} {t e : TypeId} {v : Value} {d : DataW H} {p : List MemPlace}
    (ht : P.underlying t = some (.slice e)) (hv : Value.okWide P w r b0 t v) (h : DataW.Trod enc P w base spare held t v d p) : ∃ (fuel : Nat), DataW.trod enc P w base spare held fuel t [v] = some (d, p) := by
  obtain ⟨a, len, cap, rfl⟩ := okWide_slice ht hv
  obtain ⟨fuel, hf⟩ := h
  exact ⟨fuel, by simpa [Value.cells] using hf⟩
theorem list1 {l : List Value} (h : l.length = 1) : ∃ a, l = [a] := List.length_eq_one_iff.1 h
theorem list2 {l : List Value} (h : l.length = 2) : ∃ a b, l = [a, b] := by
  match l, h with
  | [a, b], _ => exact ⟨a, b, rfl⟩
theorem list4 {l : List Value} (h : l.length = 4) : ∃ a b c d, l = [a, b, c, d] := by
  match l, h with
  | [a, b, c, d], _ => exact ⟨a, b, c, d, rfl⟩
theorem list5 {l : List Value} (h : l.length = 5) : ∃ a b c d e, l = [a, b, c, d, e] := by
  match l, h with
  | [a, b, c, d, e], _ => exact ⟨a, b, c, d, e, rfl⟩
theorem list6 {l : List Value} (h : l.length = 6) : ∃ a b c d e f, l = [a, b, c, d, e, f] := by
  match l, h with
  | [a, b, c, d, e, f], _ => exact ⟨a, b, c, d, e, f, rfl⟩

end Go.Proofs.Ytnnkoeknejeieaa
