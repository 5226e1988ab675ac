/- Diagrams under construction: plain functions, what holds of them. -/
import Derived.Test.YtnnkoeknejeieaaZda
set_option linter.unusedSimpArgs false
set_option linter.unusedVariables false
namespace Go.Proofs.Ytnnkoeknejeieaa
open Go Go.RowKit

/-- A node: kind, phase. -/
abbrev N2 := Int × Int
def fn2 (L : List N2) : List Int := L.flatMap fun x => [x.1, x.2]
def nds (L : List N2) : List Value := ints (fn2 L)
def ndx (L : List N2) (k : Nat) : N2 := L.getD k (0, 0)
theorem fn2_length : ∀ L : List N2, (fn2 L).length = L.length * 2
  | [] => rfl
  | x :: L => by
    have := fn2_length L
    simp only [fn2, List.flatMap_cons, List.length_append, List.length_cons, List.length_nil] at this ⊢; omega
@[simp] theorem nds_length (L : List N2) : (nds L).length = L.length * 2 := by rw [nds, ints_length, fn2_length]
theorem fn2_append (L M : List N2) : fn2 (L ++ M) = fn2 L ++ fn2 M := by simp [fn2]
theorem nds_append (L M : List N2) : nds (L ++ M) = nds L ++ nds M := by rw [nds, fn2_append, ints_append]; rfl
theorem nds_one (x : N2) : nds [x] = [.int .i64 x.1, .int .i64 x.2] := by simp [nds, fn2, ints]
theorem fn2_ix : ∀ {L : List N2} {k : Nat}, k < L.length → ix (fn2 L) (k * 2) = (ndx L k).1 ∧ ix (fn2 L) (k * 2 + 1) = (ndx L k).2
  | x :: L, 0, _ => ⟨rfl, rfl⟩
  | x :: L, k + 1, h => by
    have ih := fn2_ix (L := L) (k := k) (by simpa using h)
    have e : ∀ j, ix (fn2 (x :: L)) ((k + 1) * 2 + j) = ix (fn2 L) (k * 2 + j) := by
      intro j
      have e1 : fn2 (x :: L) = [x.1, x.2] ++ fn2 L := rfl
      rw [e1, show (k + 1) * 2 + j = 2 + (k * 2 + j) by omega]
      simp only [ix, List.getD]
      rw [List.getElem?_append_right (by simp), show 2 + (k * 2 + j) - [x.1, x.2].length = k * 2 + j by simp]
    have e2 : ndx (x :: L) (k + 1) = ndx L k := by simp [ndx, List.getD]
    rw [e2]
    exact ⟨(e 0).trans ih.1, (e 1).trans ih.2⟩
theorem preN {L : List N2} {k : Nat} (h : k < L.length) : Pre (nds L) (k * 2) [.int .i64 (ndx L k).1, .int .i64 (ndx L k).2] := by
  have h1 := fn2_ix h
  rw [← h1.1, ← h1.2]
  exact pre2 (by rw [fn2_length]; omega)
theorem preNa {L : List N2} {k : Nat} (h : k < L.length) : Pre (nds L) (k * 2) [.int .i64 (ndx L k).1] := ⟨(preN h).1, trivial⟩
theorem preNb {L : List N2} {k : Nat} (h : k < L.length) : Pre (nds L) (k * 2 + 1) [.int .i64 (ndx L k).2] := ⟨(preN h).2.1, trivial⟩
theorem fn2_set : ∀ (L : List N2) (k : Nat) (p : Int), k < L.length → (fn2 L).set (k * 2 + 1) p = fn2 (L.set k ((ndx L k).1, p))
  | x :: L, 0, p, _ => rfl
  | x :: L, k + 1, p, h => by
    have ih := fn2_set L k p (by simpa using h)
    have e1 : fn2 (x :: L) = x.1 :: x.2 :: fn2 L := rfl
    have e2 : ndx (x :: L) (k + 1) = ndx L k := by simp [ndx, List.getD]
    rw [e1, e2, show (k + 1) * 2 + 1 = k * 2 + 1 + 2 by omega]
    show x.1 :: x.2 :: (fn2 L).set (k * 2 + 1) p = _
    rw [ih]; rfl
theorem nds_set {L : List N2} {k : Nat} {p : Int} (h : k < L.length) : spl (nds L) (k * 2 + 1) [.int .i64 p] = nds (L.set k ((ndx L k).1, p)) := by
  show (nds L).set (k * 2 + 1) (.int .i64 p) = _
  rw [nds, nds, ← fn2_set L k p h]
  simp [ints, List.map_set]
theorem nds_all (L : List N2) : (nds L).all (·.oneCell') = true := ints_all _
theorem Sl.nlen {w : World} {v : Value} {n : Nat} {L : List N2} (h : Sl w v 2 n (nds L)) : L.length = n := by
  have h1 := h.1; rw [nds_length] at h1; omega
theorem ndx_set {L : List N2} {k j : Nat} {x : N2} (h : k < L.length) : ndx (L.set k x) j = if k = j then x else ndx L j := by
  simp only [ndx, List.getD, List.getElem?_set]
  by_cases e : k = j
  · subst e; simp [h]
  · simp [e]
theorem ndx_append {L : List N2} {x : N2} {j : Nat} (h : j ≤ L.length) : ndx (L ++ [x]) j = if j = L.length then x else ndx L j := by
  simp only [ndx, List.getD]
  by_cases e : j = L.length
  · subst e; simp
  · rw [List.getElem?_append_left (by omega), if_neg e]
/-- A diagram under construction: nodes, wires, root, last node and pending type of each qubit. -/
structure DgS where
  ns : List N2
  ws : List W3
  rt : Int
  la : List Int
  ha : List Bool
namespace DgS
/-- A node is appended to a qubit. -/
def app (S : DgS) (q : Nat) (x : N2) : DgS := ⟨S.ns ++ [x], insW S.ws (min (ix S.la q) S.ns.length, max (ix S.la q) S.ns.length, bx S.ha q), S.rt, S.la.set q S.ns.length, S.ha.set q false⟩
/-- A spider is wanted. -/
def need (S : DgS) (q : Nat) : Bool := ((ndx S.ns (ix S.la q).toNat).1 != 3) || bx S.ha q
def plc (S : DgS) (q : Nat) : DgS := if S.need q then S.app q (3, 0) else S
/-- The phase of the last node grows. -/
def add (S : DgS) (q : Nat) (c : Int) : DgS := { S with ns := S.ns.set (ix S.la q).toNat ((ndx S.ns (ix S.la q).toNat).1, ((ndx S.ns (ix S.la q).toNat).2 + c) % 8) }
def trn (S : DgS) (q : Nat) (c : Int) : DgS := (S.plc q).add q c
def flp (S : DgS) (q : Nat) : DgS := { S with ha := S.ha.set q (!bx S.ha q) }
/-- A wire between the last nodes of two qubits comes, or goes. -/
def tog (S : DgS) (a b : Nat) : DgS :=
  if 0 ≤ fdW S.ws (ix S.la a) (ix S.la b) then { S with ws := S.ws.eraseIdx (fdW S.ws (ix S.la a) (ix S.la b)).toNat, rt := S.rt - 1 }
  else { S with ws := insW S.ws (min (ix S.la a) (ix S.la b), max (ix S.la a) (ix S.la b), true), rt := S.rt + 1 }
def czd (S : DgS) (a b : Nat) : DgS := ((S.plc a).plc b).tog a b
def swp (S : DgS) (a b : Nat) : DgS := { S with la := (S.la.set a (ix S.la b)).set b (ix S.la a), ha := (S.ha.set a (bx S.ha b)).set b (bx S.ha a) }
/-- The phase of a rotation. -/
def rot (k : Int) : Int := if k = 4 then 4 else if k = 5 then 2 else if k = 6 then 6 else if k = 7 then 1 else if k = 8 then 7 else 0
def gate (S : DgS) (k : Int) (a b : Nat) : DgS :=
  if k = 1 then S.flp a
  else if k = 2 then ((S.flp a).trn a 4).flp a
  else if k = 3 then (((S.trn a 4).flp a).trn a 4).flp a
  else if k = 9 then ((S.flp b).czd a b).flp b
  else if k = 10 then S.czd a b
  else if k = 11 then S.swp a b
  else if k = 12 then S
  else S.trn a (rot k)
/-- What a gate adds to the turn. -/
def tn (k : Int) : Int := if k = 3 then 2 else if k = 12 then 1 else 0
/-- What holds of a diagram under construction over Q qubits, with not more than m nodes and wires. -/
structure Ok (Q m : Nat) (S : DgS) : Prop where
  la : S.la.length = Q
  ha : S.ha.length = Q
  rng : ∀ q, q < Q → 0 ≤ ix S.la q ∧ ix S.la q < S.ns.length
  srt : WSrt S.ws
  wr : ∀ x ∈ S.ws, (0 ≤ x.1 ∧ x.1 < S.ns.length) ∧ (0 ≤ x.2.1 ∧ x.2.1 < S.ns.length)
  ph : ∀ k, k < S.ns.length → 0 ≤ (ndx S.ns k).2 ∧ (ndx S.ns k).2 < 8
  bn : S.ns.length ≤ m
  bw : S.ws.length ≤ m
  br : -(m : Int) ≤ S.rt ∧ S.rt ≤ m
namespace Ok
variable {Q m : Nat} {S : DgS}
theorem mono {m' : Nat} (h : S.Ok Q m) (hm : m ≤ m') : S.Ok Q m' := ⟨h.la, h.ha, h.rng, h.srt, h.wr, h.ph, by have := h.bn; omega, by have := h.bw; omega, by have := h.br; omega⟩
theorem fresh (h : S.Ok Q m) {q : Nat} (hq : q < Q) : ∀ y ∈ S.ws, ¬ (y.1 = min (ix S.la q) S.ns.length ∧ y.2.1 = max (ix S.la q) S.ns.length) := by
  intro y hy
  have h1 := h.wr y hy
  have h2 := h.rng q hq
  omega
theorem app (h : S.Ok Q m) {q : Nat} (hq : q < Q) {x : N2} (hx : 0 ≤ x.2 ∧ x.2 < 8) : (S.app q x).Ok Q (m + 1) := by
  have h2 := h.rng q hq
  have hl : (S.app q x).ns.length = S.ns.length + 1 := by simp [DgS.app]
  refine ⟨by simp [DgS.app, h.la], by simp [DgS.app, h.ha], fun p hp => ?_, insW_srt h.srt (h.fresh hq), fun y hy => ?_, fun k hk => ?_, by rw [hl]; have := h.bn; omega, by have := h.bw; simp only [DgS.app, insW_length]; omega, by have := h.br; simp only [DgS.app]; omega⟩
  · rw [hl]
    have h3 := h.rng p hp
    simp only [DgS.app]
    rw [ix_set (by rw [h.la]; exact hp)]
    split <;> omega
  · rw [hl]
    simp only [DgS.app] at hy
    rcases insW_mem.1 hy with rfl | hy
    · simp only; omega
    · have := h.wr y hy; omega
  · rw [hl] at hk
    simp only [DgS.app]
    rw [ndx_append (by omega)]
    split
    · exact hx
    · exact h.ph k (by omega)
theorem plc (h : S.Ok Q m) {q : Nat} (hq : q < Q) : (S.plc q).Ok Q (m + 1) := by
  unfold DgS.plc
  split
  · exact h.app hq (by simp)
  · exact h.mono (by omega)
theorem add (h : S.Ok Q m) {q : Nat} (hq : q < Q) (c : Int) : (S.add q c).Ok Q m := by
  have h2 := h.rng q hq
  have hl : (S.add q c).ns.length = S.ns.length := by simp [DgS.add]
  refine ⟨h.la, h.ha, fun p hp => by rw [hl]; exact h.rng p hp, h.srt, fun y hy => by rw [hl]; exact h.wr y hy, fun k hk => ?_, by rw [hl]; exact h.bn, h.bw, h.br⟩
  rw [hl] at hk
  simp only [DgS.add]
  rw [ndx_set (by omega)]
  split
  · simp only; omega
  · exact h.ph k hk
theorem trn (h : S.Ok Q m) {q : Nat} (hq : q < Q) (c : Int) : (S.trn q c).Ok Q (m + 1) := (h.plc hq).add hq c
theorem flp (h : S.Ok Q m) (q : Nat) : (S.flp q).Ok Q m := ⟨h.la, by simp [DgS.flp, h.ha], h.rng, h.srt, h.wr, h.ph, h.bn, h.bw, h.br⟩
theorem fdW_no {L : List W3} {a b : Int} (h : ¬ 0 ≤ fdW L a b) : ∀ y ∈ L, ¬ (y.1 = min a b ∧ y.2.1 = max a b) := by
  intro y hy hk
  obtain ⟨i, hi, he⟩ := List.getElem_of_mem hy
  have hw : wx L i = y := by rw [← he]; simp [wx, List.getD, hi]
  have h1 : anyI (fun i => isW a b (wx L i)) L.length = true := anyI_true hi (show isW a b (wx L i) = true by rw [hw]; exact isW_iff.2 hk)
  have h2 := findI_ge (p := fun i => isW a b (wx L i)) (n := L.length)
  rw [h1] at h2
  exact h (by simpa [fdW] using h2)
theorem fdW_lt {L : List W3} {a b : Int} : fdW L a b < L.length := by
  unfold fdW
  generalize (fun i => isW a b (wx L i)) = p
  generalize L.length = n
  induction n with
  | zero => simp [findI]
  | succ n ih =>
    rw [findI]
    split
    · omega
    · split <;> omega
theorem tog (h : S.Ok Q m) {a b : Nat} (ha : a < Q) (hb : b < Q) : (S.tog a b).Ok Q (m + 1) := by
  have h1 := h.rng a ha
  have h2 := h.rng b hb
  unfold DgS.tog
  split
  · refine ⟨h.la, h.ha, h.rng, srt_erase h.srt, fun y hy => h.wr y (mem_erase hy), h.ph, by have := h.bn; simp only; omega, ?_, by have := h.br; simp only; omega⟩
    have h3 := (List.eraseIdx_sublist S.ws (fdW S.ws (ix S.la a) (ix S.la b)).toNat).length_le
    have := h.bw
    simp only; omega
  · rename_i hf
    refine ⟨h.la, h.ha, h.rng, insW_srt h.srt (fdW_no hf), fun y hy => ?_, h.ph, by have := h.bn; simp only; omega, by have := h.bw; simp only [insW_length]; omega, by have := h.br; simp only; omega⟩
    rcases insW_mem.1 hy with rfl | hy
    · simp only; omega
    · exact h.wr y hy
theorem czd (h : S.Ok Q m) {a b : Nat} (ha : a < Q) (hb : b < Q) : (S.czd a b).Ok Q (m + 3) := ((h.plc ha).plc hb).tog ha hb
theorem swp (h : S.Ok Q m) {a b : Nat} (ha : a < Q) (hb : b < Q) : (S.swp a b).Ok Q m := by
  refine ⟨by simp [DgS.swp, h.la], by simp [DgS.swp, h.ha], fun p hp => ?_, h.srt, h.wr, h.ph, h.bn, h.bw, h.br⟩
  have h1 := h.rng a ha
  have h2 := h.rng b hb
  have h3 := h.rng p hp
  simp only [DgS.swp]
  rw [ix_set (by simp [h.la]; exact hp)]
  split
  · exact h1
  · rw [ix_set (by rw [h.la]; exact hp)]
    split
    · exact h2
    · exact h3
theorem gate (h : S.Ok Q m) {k : Int} {a b : Nat} (ha : a < Q) (hb : b < Q) : (S.gate k a b).Ok Q (m + 3) := by
  unfold DgS.gate
  split
  · exact (h.flp a).mono (by omega)
  · split
    · exact (((h.flp a).trn ha 4).flp a).mono (by omega)
    · split
      · exact (((((h.trn ha 4).flp a).trn ha 4).flp a)).mono (by omega)
      · split
        · exact (((h.flp b).czd ha hb).flp b)
        · split
          · exact h.czd ha hb
          · split
            · exact (h.swp ha hb).mono (by omega)
            · split
              · exact h.mono (by omega)
              · exact (h.trn ha _).mono (by omega)
end Ok
end DgS

end Go.Proofs.Ytnnkoeknejeieaa
