/- Wires as cells; order, insertion, search, deletion of wires. -/
import Derived.Test.YtnnkoeknejeieaaFind
import Derived.Test.YtnnkoeknejeieaaBoo
set_option linter.unusedSimpArgs false
set_option linter.unusedVariables false
namespace Go.Proofs.Ytnnkoeknejeieaa
open Go Go.RowKit

/-- A wire: its nodes, whether it is a Hadamard wire. -/
abbrev W3 := Int × Int × Bool
def wle (x : W3) : List Value := [.int .i64 x.1, .int .i64 x.2.1, .bool x.2.2]
def wls (L : List W3) : List Value := L.flatMap wle
def wx (L : List W3) (k : Nat) : W3 := L.getD k (0, 0, false)
@[simp] theorem wls_length : ∀ L : List W3, (wls L).length = L.length * 3
  | [] => rfl
  | x :: L => by
    have := wls_length L
    simp only [wls, List.flatMap_cons, List.length_append, List.length_cons] at this ⊢
    simp only [wle, List.length_cons, List.length_nil]; omega
theorem wls_append (L M : List W3) : wls (L ++ M) = wls L ++ wls M := by simp [wls]
theorem wls_one (x : W3) : wls [x] = [.int .i64 x.1, .int .i64 x.2.1, .bool x.2.2] := by simp [wls, wle]
theorem wls_take : ∀ (L : List W3) (m : Nat), (wls L).take (m * 3) = wls (L.take m)
  | [], m => by simp [wls]
  | x :: L, 0 => by simp [wls]
  | x :: L, m + 1 => by
    have e1 : wls (x :: L) = wle x ++ wls L := rfl
    have e2 : wls ((x :: L).take (m + 1)) = wle x ++ wls (L.take m) := rfl
    have e3 : (wle x).length = 3 := rfl
    rw [e1, e2, ← wls_take L m, show (m + 1) * 3 = 3 + m * 3 by omega, List.take_append, e3, List.take_of_length_le (by rw [e3]; omega)]
    congr 2; omega
theorem wls_drop : ∀ (L : List W3) (m : Nat), (wls L).drop (m * 3) = wls (L.drop m)
  | [], m => by simp [wls]
  | x :: L, 0 => by simp [wls]
  | x :: L, m + 1 => by
    have e1 : wls (x :: L) = wle x ++ wls L := rfl
    have e3 : (wle x).length = 3 := rfl
    rw [e1, List.drop_succ_cons, ← wls_drop L m, show (m + 1) * 3 = 3 + m * 3 by omega, List.drop_append, e3, List.drop_of_length_le (by rw [e3]; omega), List.nil_append]
    congr 1; omega
theorem wls_get : ∀ {L : List W3} {k : Nat}, k < L.length → (wls L)[k * 3]? = some (.int .i64 (wx L k).1) ∧ (wls L)[k * 3 + 1]? = some (.int .i64 (wx L k).2.1) ∧ (wls L)[k * 3 + 2]? = some (.bool (wx L k).2.2)
  | x :: L, 0, _ => ⟨rfl, rfl, rfl⟩
  | x :: L, k + 1, h => by
    have ih := wls_get (L := L) (k := k) (by simpa using h)
    have e : ∀ j, (wls (x :: L))[(k + 1) * 3 + j]? = (wls L)[k * 3 + j]? := by
      intro j
      have e1 : wls (x :: L) = wle x ++ wls L := rfl
      have e3 : (wle x).length = 3 := rfl
      rw [e1, show (k + 1) * 3 + j = 3 + (k * 3 + j) by omega, List.getElem?_append_right (by rw [e3]; omega), e3, Nat.add_sub_cancel_left]
    have e2 : wx (x :: L) (k + 1) = wx L k := by simp [wx, List.getD]
    rw [e2]
    exact ⟨(e 0).trans ih.1, (e 1).trans ih.2.1, (e 2).trans ih.2.2⟩
theorem preW {L : List W3} {k : Nat} (h : k < L.length) : Pre (wls L) (k * 3) [.int .i64 (wx L k).1, .int .i64 (wx L k).2.1, .bool (wx L k).2.2] := ⟨(wls_get h).1, (wls_get h).2.1, (wls_get h).2.2, trivial⟩
theorem preWa {L : List W3} {k : Nat} (h : k < L.length) : Pre (wls L) (k * 3) [.int .i64 (wx L k).1] := ⟨(wls_get h).1, trivial⟩
theorem preWb {L : List W3} {k : Nat} (h : k < L.length) : Pre (wls L) (k * 3 + 1) [.int .i64 (wx L k).2.1] := ⟨(wls_get h).2.1, trivial⟩
theorem preWh {L : List W3} {k : Nat} (h : k < L.length) : Pre (wls L) (k * 3 + 2) [.bool (wx L k).2.2] := ⟨(wls_get h).2.2, trivial⟩
theorem wls_all (L : List W3) : ∀ v ∈ wls L, v.oneCell' = true := by
  intro v hv
  obtain ⟨x, _, hx⟩ := List.mem_flatMap.1 hv
  simp only [wle, List.mem_cons, List.not_mem_nil, or_false] at hx
  rcases hx with rfl | rfl | rfl <;> rfl
theorem wls_allb (L : List W3) : (wls L).all (·.oneCell') = true := List.all_eq_true.2 (wls_all L)
theorem Sl.wlen {w : World} {v : Value} {n : Nat} {L : List W3} (h : Sl w v 3 n (wls L)) : L.length = n := by
  have h1 := h.1; rw [wls_length] at h1; omega
theorem wx_mem {L : List W3} {k : Nat} (h : k < L.length) : wx L k ∈ L := by
  have : wx L k = L[k] := by simp [wx, List.getD, h]
  rw [this]; exact List.getElem_mem h
theorem wls_inj {L M : List W3} (h : wls L = wls M) : L = M := by
  have hl : L.length = M.length := by
    have := congrArg List.length h
    rw [wls_length, wls_length] at this; omega
  apply List.ext_getElem hl
  intro i h1 h2
  have a := wls_get h1
  have b := wls_get h2
  rw [h] at a
  have e1 := a.1.symm.trans b.1
  have e2 := a.2.1.symm.trans b.2.1
  have e3 := a.2.2.symm.trans b.2.2
  simp only [Option.some.injEq, Value.int.injEq, Value.bool.injEq, true_and] at e1 e2 e3
  have g1 : wx L i = L[i] := by simp [wx, List.getD, h1]
  have g2 : wx M i = M[i] := by simp [wx, List.getD, h2]
  rw [← g1, ← g2]
  exact Prod.ext e1 (Prod.ext e2 e3)
/-- Wires in order: by their first node, then by the second. -/
def wlt (x y : W3) : Bool := decide (x.1 < y.1) || (decide (x.1 = y.1) && decide (x.2.1 < y.2.1))
theorem wlt_iff {x y : W3} : wlt x y = true ↔ x.1 < y.1 ∨ x.1 = y.1 ∧ x.2.1 < y.2.1 := by simp [wlt]
theorem wlt_no {x y : W3} : wlt x y = false ↔ ¬ (x.1 < y.1 ∨ x.1 = y.1 ∧ x.2.1 < y.2.1) := by rw [← wlt_iff]; simp
theorem wlt_trans {x y z : W3} (h : wlt x y = true) (h' : wlt y z = true) : wlt x z = true := by
  rw [wlt_iff] at *; omega
theorem wlt_irrefl (x : W3) : wlt x x = false := by rw [wlt_no]; omega
/-- The wires are in order, no two of them between the same nodes. -/
def WSrt (L : List W3) : Prop := L.Pairwise fun x y => wlt x y = true
/-- Where a wire belongs. -/
def wpos (L : List W3) (x : W3) : Nat := (L.takeWhile fun y => wlt y x).length
/-- A wire is laid at its place. -/
def insW (L : List W3) (x : W3) : List W3 := L.take (wpos L x) ++ x :: L.drop (wpos L x)
theorem wpos_le (L : List W3) (x : W3) : wpos L x ≤ L.length := (List.takeWhile_sublist _).length_le
theorem wpos_eq {x : W3} : ∀ {L : List W3} {k : Nat}, k ≤ L.length → (∀ i, i < k → wlt (wx L i) x = true) → (k < L.length → wlt (wx L k) x = false) → wpos L x = k
  | [], k, hk, _, _ => by simp at hk; subst hk; rfl
  | y :: L, 0, _, _, h => by
    have h1 : wlt y x = false := h (by simp)
    simp [wpos, List.takeWhile_cons, h1]
  | y :: L, k + 1, hk, h, h' => by
    have h1 : wlt y x = true := h 0 (by omega)
    have e : ∀ i, wx (y :: L) (i + 1) = wx L i := fun i => by simp [wx, List.getD]
    have ih := wpos_eq (x := x) (L := L) (k := k) (by simpa using hk) (fun i hi => by have := h (i + 1) (by omega); rwa [e] at this) (fun hk2 => by have := h' (by simpa using hk2); rwa [e] at this)
    simp only [wpos, List.takeWhile_cons, h1, if_true, List.length_cons] at ih ⊢
    rw [ih]
@[simp] theorem insW_length (L : List W3) (x : W3) : (insW L x).length = L.length + 1 := by
  have := wpos_le L x
  simp [insW]; omega
theorem insW_perm (L : List W3) (x : W3) : (insW L x).Perm (x :: L) := by
  have := List.perm_middle (a := x) (l₁ := L.take (wpos L x)) (l₂ := L.drop (wpos L x))
  rwa [List.take_append_drop] at this
theorem insW_mem {L : List W3} {x y : W3} : y ∈ insW L x ↔ y = x ∨ y ∈ L := by rw [(insW_perm L x).mem_iff]; simp
theorem insW_nil (x : W3) : insW [] x = [x] := rfl
theorem insW_lt {y x : W3} {L : List W3} (h : wlt y x = true) : insW (y :: L) x = y :: insW L x := by
  simp [insW, wpos, List.takeWhile_cons, h]
theorem insW_ge {y x : W3} {L : List W3} (h : wlt y x = false) : insW (y :: L) x = x :: y :: L := by
  simp [insW, wpos, List.takeWhile_cons, h]
/-- A wire that is not there yet keeps the order. -/
theorem insW_srt {x : W3} : ∀ {L : List W3}, WSrt L → (∀ y ∈ L, ¬ (y.1 = x.1 ∧ y.2.1 = x.2.1)) → WSrt (insW L x)
  | [], _, _ => by rw [insW_nil]; exact List.pairwise_singleton _ _
  | y :: L, h, hn => by
    have h1 := List.pairwise_cons.1 h
    cases hc : wlt y x with
    | true =>
      rw [insW_lt hc]
      refine List.pairwise_cons.2 ⟨fun z hz => ?_, insW_srt h1.2 fun z hz => hn z (List.mem_cons_of_mem _ hz)⟩
      rcases insW_mem.1 hz with rfl | hz
      · exact hc
      · exact h1.1 z hz
    | false =>
      rw [insW_ge hc]
      have hxy : wlt x y = true := by
        have := hn y (by simp)
        rw [wlt_no] at hc; rw [wlt_iff]; omega
      refine List.pairwise_cons.2 ⟨fun z hz => ?_, h⟩
      rcases List.mem_cons.1 hz with rfl | hz
      · exact hxy
      · exact wlt_trans hxy (h1.1 z hz)
/-- A list in order is the only one with its wires. -/
theorem srt_unique : ∀ {L M : List W3}, L.Perm M → WSrt L → (M.Pairwise fun x y => wlt y x = false) → L = M
  | [], M, hp, _, _ => hp.nil_eq
  | x :: L, M, hp, hl, hm => by
    have hl1 := List.pairwise_cons.1 hl
    cases M with
    | nil => exact absurd hp.symm.nil_eq (by simp)
    | cons y M =>
      have hm1 := List.pairwise_cons.1 hm
      have hxy : x = y := by
        have hx : x ∈ y :: M := hp.mem_iff.1 (by simp)
        have hy : y ∈ x :: L := hp.mem_iff.2 (by simp)
        rcases List.mem_cons.1 hy with e | hy
        · exact e.symm
        · rcases List.mem_cons.1 hx with e | hx
          · exact e
          · have a := hl1.1 y hy
            have b := hm1.1 x hx
            rw [a] at b; cases b
      subst hxy
      rw [srt_unique (hp.cons_inv) hl1.2 hm1.2]
/-- The wire between two nodes. -/
def isW (a b : Int) (x : W3) : Bool := decide (x.1 = min a b) && decide (x.2.1 = max a b)
theorem isW_iff {a b : Int} {x : W3} : isW a b x = true ↔ x.1 = min a b ∧ x.2.1 = max a b := by simp [isW]
/-- The first wire between two nodes: its number, or -1. -/
def fdW (L : List W3) (a b : Int) : Int := findI (fun i => isW a b (wx L i)) L.length
/-- The wire number i is taken out. -/
theorem wls_erase {L : List W3} {i : Nat} (h : i < L.length) : (wls L).take (i * 3) ++ (wls L).drop ((i + 1) * 3) = wls (L.eraseIdx i) := by
  rw [wls_take, wls_drop, ← wls_append, List.eraseIdx_eq_take_drop_succ]
theorem srt_erase {L : List W3} {i : Nat} (h : WSrt L) : WSrt (L.eraseIdx i) := List.Pairwise.sublist (List.eraseIdx_sublist _ _) h
theorem mem_erase {L : List W3} {i : Nat} {x : W3} (h : x ∈ L.eraseIdx i) : x ∈ L := (List.eraseIdx_sublist _ _).subset h
/-- How many of the first n have the property. -/
def cntN (p : Nat → Bool) : Nat → Nat
  | 0 => 0
  | n + 1 => cntN p n + if p n then 1 else 0
theorem cntN_le (p : Nat → Bool) : ∀ n, cntN p n ≤ n
  | 0 => Nat.le_refl _
  | n + 1 => by
    have := cntN_le p n
    rw [cntN]; split <;> omega
theorem cntN_yes {p : Nat → Bool} {n : Nat} (h : p n = true) : cntN p (n + 1) = cntN p n + 1 := by rw [cntN, if_pos h]
theorem cntN_no {p : Nat → Bool} {n : Nat} (h : p n = false) : cntN p (n + 1) = cntN p n := by rw [cntN, h]; rfl
/-- A wire ends at node k. -/
def atW (k : Int) (x : W3) : Bool := decide (x.1 = k) || decide (x.2.1 = k)
/-- The number of wires at node k. -/
def degW (L : List W3) (k : Int) : Nat := cntN (fun i => atW k (wx L i)) L.length

end Go.Proofs.Ytnnkoeknejeieaa
