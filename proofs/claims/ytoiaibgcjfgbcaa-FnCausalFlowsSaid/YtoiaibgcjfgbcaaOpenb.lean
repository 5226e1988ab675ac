/- How the laws' slices of bytes are read. -/
import Derived.Test.YtoiaibgcjfgbcaaOpen
import Derived.Test.YtoiaibgcjfgbcaaDr
import Derived.Deep.Slices
import Derived.ChangeShapes
import Derived.WideShapes
import Derived.ChangeArms
set_option linter.unusedSimpArgs false
set_option linter.unusedVariables false
namespace Go.Proofs.Ytoiaibgcjfgbcaa
open Go Go.RowKit

open Go.ChangeShapes Go.WideShapes Go.Deep
theorem byte_wf {n : Int} (h : (Lit.int .u8 n).wf = true) : 0 ≤ n ∧ n < 256 := by
  have h' : (decide (0 ≤ n) && decide (n ≤ 255)) = true := by
    first | exact h | simpa [Lit.wf, IntKind.min, IntKind.max] using h
  simp only [Bool.and_eq_true, decide_eq_true_eq] at h'
  omega
theorem open_bytes {H : Type} {enc : TypeId × Value → H} {P : Program} {w : World} {base : Nat} {spare : Nat → Bool} {held : Bool} {t e : TypeId} {fuel : Nat} {v : Value} {x : DataW H × List MemPlace}
    (ht : P.underlying t = some (.slice e)) (hu : P.underlying e = some (.int .u8)) (hc : P.cellsOf e = 1) (h : DataW.trod enc P w base spare held fuel t [v] = some x) :
    ∃ n cs, Sl w v 1 n (u8s cs) ∧ ∀ i ∈ cs, 0 ≤ i ∧ i < 256 := by
  rcases open_slice1 ht hc h with ⟨hv, _⟩ | ⟨a, len, cap, m, n, V, D, Pl, hcs, hb, hl, hm, hmm, hx, hi⟩
  · simp only [List.cons.injEq, and_true] at hv
    subst hv
    exact ⟨0, [], ⟨by simp [u8s], none, 0, rfl, Nat.le_refl _, by simp, fun h => absurd h (by omega)⟩, by simp⟩
  · simp only [List.cons.injEq, and_true] at hcs
    subst hcs
    have hle : len ≤ m := by rw [hmm]; split <;> omega
    have key : ∀ j, j < len → ∃ n, w.cell? (a.add j) = some (.int .u8 n) ∧ 0 ≤ n ∧ n < 256 := by
      intro j hj
      obtain ⟨h1, h2⟩ := hi j (by omega)
      obtain ⟨n', he, _, hw⟩ := DataW.trod_int hu h2
      simp only [List.cons.injEq, and_true] at he
      rw [he] at h1
      exact ⟨n', h1, byte_wf hw⟩
    have hnil : ∀ {a : Addr} {u : Value}, w.cell? a = some u → ∃ b o, a = ⟨b, o, none⟩ ∧ b < w.heap.size := by
      rintro ⟨b, o, sp⟩ u hu
      unfold World.cell? at hu
      split at hu
      · rename_i c _ _ hb
        cases sp with
        | none => exact ⟨b, o, rfl, (Array.getElem?_eq_some_iff.1 hb).1⟩
        | some s => simp at hu
      · cases hu
    rcases Nat.eq_zero_or_pos len with hl0 | hl0
    · subst hl0
      exact ⟨0, [], ⟨by simp [u8s], some a, cap, rfl, by omega, hm, fun h => absurd h (by omega)⟩, by simp⟩
    · obtain ⟨n0, h0, _⟩ := key 0 hl0
      have h00 : w.cell? a = some (.int .u8 n0) := by simpa [Addr.add] using h0
      obtain ⟨b, o, rfl, hbs⟩ := hnil h00
      let g : Nat → Int := fun j => match w.cell? ⟨b, o + j, none⟩ with | some (.int _ n) => n | _ => 0
      have hg : ∀ j, j < len → w.cell? ⟨b, o + j, none⟩ = some (.int .u8 (g j)) ∧ 0 ≤ g j ∧ g j < 256 := by
        intro j hj
        obtain ⟨n, h1, h2⟩ := key j hj
        rw [Addr.add_mid] at h1
        have : g j = n := by simp only [g, h1]
        rw [this]; exact ⟨h1, h2⟩
      refine ⟨len, (List.range len).map g, ⟨by simp [u8s], some ⟨b, o, none⟩, cap, rfl, hl, hm, fun _ => ⟨b, o, rfl, hbs, ?_⟩⟩, ?_⟩
      · intro j v hv
        have hj : j < len := by
          have := (List.getElem?_eq_some_iff.1 hv).1
          simpa [u8s] using this
        have : v = .int .u8 (g j) := by simpa [u8s, hj] using hv.symm
        rw [this]; exact (hg j hj).1
      · intro i hi'
        obtain ⟨j, hj, rfl⟩ := List.mem_map.1 hi'
        exact (hg j (by simpa using hj)).2

end Go.Proofs.Ytoiaibgcjfgbcaa
