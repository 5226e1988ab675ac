/- A small logic over the model's memory: a list of the blocks that a call has made, kept beside the world. -/
import Derived.WalkKit
import Derived.Deep.Draws
import Derived.Deep.Quiet
import Derived.Maps.AppendAt
namespace Go.Proofs.Ytnnkoeknejeieaa
open Go Go.RowKit

/-- A block that the call owns: a whole block, or a slice at a block's head. -/
inductive Res where
  | blk (b : Nat) (t : TypeId) (cs : List Value)
  | own (v : Value) (e : TypeId) (size n : Nat) (xs : List Value)
  | grp (e : TypeId) (size : Nat) (l : List (Value × Nat × List Value))
  | mp (b : Nat) (kvs : List (Value × Value))

/-- Slices of a group lie apart. -/
def Parted (l : List (Value × Nat × List Value)) : Prop := l.Pairwise fun p q => ∀ k, p.1.ownBlock = some k → q.1.ownBlock ≠ some k
def Res.holds (w : World) : Res → Prop
  | .blk b t cs => w.heap[b]? = some (.cells cs.toArray t (0, 0))
  | .own v e size n xs => w.ownsRow 0 e size v n xs
  | .grp e size l => (∀ p ∈ l, w.ownsRow 0 e size p.1 p.2.1 p.2.2) ∧ Parted l
  | .mp b kvs => ∃ es clock, w.heap[b]? = some (.map es clock) ∧ es.toList.map (fun e => (e.key, e.val)) = kvs

/-- Block k is one of those of r. -/
def Res.has : Res → Nat → Prop
  | .blk b _ _, k => b = k
  | .own v _ _ _ _, k => v.ownBlock = some k
  | .grp _ _ l, k => ∃ p ∈ l, p.1.ownBlock = some k
  | .mp b _, k => b = k

theorem Res.lt {w : World} {r : Res} (h : r.holds w) {k : Nat} (hk : r.has k) : k < w.heap.size := by
  cases r with
  | blk b t cs =>
    simp only [Res.has] at hk; subst hk
    exact (Array.getElem?_eq_some_iff.1 h).1
  | own v e size n xs => exact (World.ownsRow.lt h k hk).2
  | grp e size l =>
    obtain ⟨p, hp, hpk⟩ := hk
    exact (World.ownsRow.lt (h.1 p hp) k hpk).2
  | mp b kvs =>
    simp only [Res.has] at hk; subst hk
    obtain ⟨es, clock, h1, _⟩ := h
    exact (Array.getElem?_eq_some_iff.1 h1).1

theorem ownsKeep {w w' : World} {e : TypeId} {size n : Nat} {v : Value} {xs : List Value} (h : w.ownsRow 0 e size v n xs) (hb : ∀ k, v.ownBlock = some k → w'.heap[k]? = w.heap[k]?) : w'.ownsRow 0 e size v n xs := by
  refine ⟨h.1, ?_⟩
  rcases h.2 with h2 | ⟨g, cap, cur, rfl, h0, hg, h3⟩
  · exact .inl h2
  · exact .inr ⟨g, cap, cur, rfl, h0, (hb g rfl).trans hg, h3⟩
theorem Res.keep {w w' : World} {r : Res} (h : r.holds w) (hb : ∀ k, r.has k → w'.heap[k]? = w.heap[k]?) : r.holds w' := by
  cases r with
  | blk b t cs => exact (hb b rfl).trans h
  | own v e size n xs => exact ownsKeep h hb
  | grp e size l => exact ⟨fun p hp => ownsKeep (h.1 p hp) fun k hk => hb k ⟨p, hp, hk⟩, h.2⟩
  | mp b kvs => obtain ⟨es, clock, h1, h2⟩ := h; exact ⟨es, clock, (hb b rfl).trans h1, h2⟩

/-- The state of a walk: from the world `w0` on only new blocks and those in `M` have turned; the blocks of `H` are as listed, and no two of them are one. -/
structure St (M : Nat → Prop) (w0 w : World) (H : List Res) : Prop where
  os : w.os = w0.os
  tape : w.tape = w0.tape
  output : w.output = w0.output
  size : w0.heap.size ≤ w.heap.size
  keep : ∀ k, k < w0.heap.size → ¬ M k → w.heap[k]? = w0.heap[k]?
  holds : ∀ r ∈ H, r.holds w
  fresh : ∀ r ∈ H, ∀ k, r.has k → k < w0.heap.size → M k
  disj : H.Pairwise fun r s => ∀ k, r.has k → ¬ s.has k

/-- Nothing that was there may turn. -/
def No : Nat → Prop := fun _ => False
/-- The blocks of a list. -/
def Of (H : List Res) : Nat → Prop := fun k => ∃ r ∈ H, r.has k

namespace St
variable {M : Nat → Prop} {w0 w w' : World} {H : List Res}

theorem empty (M : Nat → Prop) (w : World) : St M w w [] :=
  ⟨rfl, rfl, rfl, Nat.le_refl _, fun _ _ _ => rfl, (fun _ h => nomatch h), (fun _ h => nomatch h), List.Pairwise.nil⟩

/-- A call that is handed blocks begins with them. -/
theorem start (hh : ∀ r ∈ H, r.holds w) (hd : H.Pairwise fun r s => ∀ k, r.has k → ¬ s.has k) : St (Of H) w w H :=
  ⟨rfl, rfl, rfl, Nat.le_refl _, fun _ _ _ => rfl, hh, fun r hr _ hk _ => ⟨r, hr, hk⟩, hd⟩

theorem self (h : St M w0 w H) : St (Of H) w w H := start h.holds h.disj

theorem below (h : St No w0 w H) : Below w0.heap.size w0 w :=
  ⟨h.os, h.tape, h.output, h.size, fun k hk => h.keep k hk (fun x => x)⟩

theorem lt (h : St M w0 w H) {r : Res} (hr : r ∈ H) {k : Nat} (hk : r.has k) : k < w.heap.size := Res.lt (h.holds r hr) hk

/-- Blocks are forgotten, or put into another order. -/
theorem sub {H' : List Res} (h : St M w0 w H) (hs : H'.Sublist H) : St M w0 w H' :=
  ⟨h.os, h.tape, h.output, h.size, h.keep, fun r hr => h.holds r (hs.subset hr), fun r hr => h.fresh r (hs.subset hr), h.disj.sublist hs⟩

theorem perm {H' : List Res} (h : St M w0 w H) (hs : H.Perm H') : St M w0 w H' := by
  refine ⟨h.os, h.tape, h.output, h.size, h.keep, fun r hr => h.holds r (hs.mem_iff.2 hr), fun r hr => h.fresh r (hs.mem_iff.2 hr), ?_⟩
  refine hs.pairwise h.disj ?_
  intro x y hxy k hk hk'
  exact hxy k hk' hk

theorem mono {M' : Nat → Prop} (h : St M w0 w H) (hm : ∀ k, k < w0.heap.size → M k → M' k) : St M' w0 w H :=
  ⟨h.os, h.tape, h.output, h.size, fun k hk hn => h.keep k hk (fun x => hn (hm k hk x)), h.holds, fun r hr k hk hl => hm k hl (h.fresh r hr k hk hl), h.disj⟩

theorem drewN (h : St M w0 w H) (n : Nat) : St M w0 (w.drewN n) H :=
  ⟨h.os, h.tape, h.output, h.size, h.keep, fun r hr => Res.keep (h.holds r hr) fun _ _ => rfl, h.fresh, h.disj⟩
theorem drew (h : St M w0 w H) : St M w0 w.drew H := h.drewN 1

/-- A callee that was handed the blocks `H1` has left `H'` in their place. -/
theorem callM {H1 H2 H' : List Res} (h : St M w0 w (H1 ++ H2)) (h' : St (Of H1) w w' H') : St M w0 w' (H' ++ H2) := by
  have hd := List.pairwise_append.1 h.disj
  have hold : ∀ r ∈ H2, ∀ k, r.has k → ¬ Of H1 k := fun r hr k hk ⟨s, hs, hsk⟩ => hd.2.2 s hs r hr k hsk hk
  refine ⟨h'.os.trans h.os, h'.tape.trans h.tape, h'.output.trans h.output, Nat.le_trans h.size h'.size, ?_, ?_, ?_, ?_⟩
  · intro k hk hm
    refine (h'.keep k (Nat.lt_of_lt_of_le hk h.size) ?_).trans (h.keep k hk hm)
    rintro ⟨r, hr, hrk⟩
    exact hm (h.fresh r (List.mem_append.2 (.inl hr)) k hrk hk)
  · intro r hr
    rcases List.mem_append.1 hr with hr | hr
    · exact h'.holds r hr
    · have h0 := h.holds r (List.mem_append.2 (.inr hr))
      exact Res.keep h0 fun k hk => h'.keep k (Res.lt h0 hk) (hold r hr k hk)
  · intro r hr k hk hl
    rcases List.mem_append.1 hr with hr | hr
    · obtain ⟨s, hs, hsk⟩ := h'.fresh r hr k hk (Nat.lt_of_lt_of_le hl h.size)
      exact h.fresh s (List.mem_append.2 (.inl hs)) k hsk hl
    · exact h.fresh r (List.mem_append.2 (.inr hr)) k hk hl
  · refine List.pairwise_append.2 ⟨h'.disj, hd.2.1, fun r hr s hs k hk hsk => ?_⟩
    have hlt : k < w.heap.size := h.lt (List.mem_append.2 (.inr hs)) hsk
    exact hold s hs k hsk (h'.fresh r hr k hk hlt)

/-- A callee that left old memory alone has made `H'`. -/
theorem call {H' : List Res} (h : St M w0 w H) (h' : St No w w' H') : St M w0 w' (H' ++ H) :=
  callM (H1 := []) h (h'.mono (M' := Of []) fun _ _ x => x.elim)

theorem alloc (h : St M w0 w H) (t : TypeId) (cs : Array Value) : St M w0 (w.alloc (.cells cs t)) (.blk w.heap.size t cs.toList :: H) := by
  refine call (H' := [.blk w.heap.size t cs.toList]) h ⟨rfl, rfl, rfl, by simp, fun k hk _ => Below.heap_alloc w _ k hk, ?_, ?_, by simp⟩
  · intro r hr
    simp only [List.mem_singleton] at hr; subst hr
    exact heap_alloc_new w _
  · intro r hr k hk hl
    simp only [List.mem_singleton] at hr; subst hr
    simp only [Res.has] at hk
    omega

/-- A step that turns the block of one `r` alone, and leaves `r'` in that very place or in a new one. -/
theorem turn {r r' : Res} (h : St M w0 w (r :: H)) (hos : w'.os = w.os) (htape : w'.tape = w.tape) (hout : w'.output = w.output) (hsize : w.heap.size ≤ w'.heap.size)
    (hk : ∀ k, k < w.heap.size → ¬ r.has k → w'.heap[k]? = w.heap[k]?) (hr : r'.holds w') (hb : ∀ k, r'.has k → r.has k ∨ w.heap.size ≤ k) : St M w0 w' (r' :: H) := by
  refine callM (H1 := [r]) (H2 := H) (H' := [r']) h ⟨hos, htape, hout, hsize, fun k hk' hn => hk k hk' fun e => hn ⟨r, by simp, e⟩, ?_, ?_, by simp⟩
  · intro s hs; simp only [List.mem_singleton] at hs; subst hs; exact hr
  · intro s hs k hsk hl
    simp only [List.mem_singleton] at hs; subst hs
    rcases hb k hsk with h1 | h1
    · exact ⟨r, by simp, h1⟩
    · omega

theorem cell_blk {b : Nat} {t : TypeId} {cs : List Value} (h : St M w0 w H) (hm : Res.blk b t cs ∈ H) (i : Nat) : w.cell? ⟨b, i, none⟩ = cs[i]? := by
  have h1 : w.heap[b]? = some (.cells cs.toArray t (0, 0)) := h.holds (.blk b t cs) hm
  rw [cell_of_row w b i cs.toArray t (0, 0) h1]; simp
theorem frozen_blk {b : Nat} {t : TypeId} {cs : List Value} (h : St M w0 w H) (hm : Res.blk b t cs ∈ H) (i : Nat) : w.frozen? ⟨b, i, none⟩ = false := by
  have h1 : w.heap[b]? = some (.cells cs.toArray t (0, 0)) := h.holds (.blk b t cs) hm
  simp [World.frozen?, h1]

theorem set_blk {b : Nat} {t : TypeId} {cs : List Value} (h : St M w0 w (.blk b t cs :: H)) (i : Nat) (u : Value) : St M w0 (w.setCell ⟨b, i, none⟩ u) (.blk b t (cs.set i u) :: H) := by
  have h1 : w.heap[b]? = some (.cells cs.toArray t (0, 0)) := h.holds (.blk b t cs) (by simp)
  refine turn h rfl rfl rfl (by simp) (fun k _ hn => Below.heap_setCell _ _ _ _ (fun e => hn (by simp [Res.has, e]))) ?_ (fun k hk => .inl (by simpa [Res.has] using hk))
  simp [Res.holds, World.setCell, Array.getElem?_modify, h1]

theorem set_own {g cap : Nat} {e : TypeId} {size n : Nat} {xs : List Value} (h : St M w0 w (.own (.slice (some ⟨g, 0, none⟩) n cap) e size n xs :: H)) (i : Nat) (u : Value) :
    St M w0 (w.setCell ⟨g, i, none⟩ u) (.own (.slice (some ⟨g, 0, none⟩) n cap) e size n (xs.set i u) :: H) := by
  have h1 : w.ownsRow 0 e size (.slice (some ⟨g, 0, none⟩) n cap) n xs := h.holds (.own (.slice (some ⟨g, 0, none⟩) n cap) e size n xs) (by simp)
  refine turn h rfl rfl rfl (by simp) (fun k _ hn => Below.heap_setCell _ _ _ _ (fun e => hn (by simp [Res.has, Value.ownBlock, e]))) ?_ (fun k hk => .inl (by simpa [Res.has] using hk))
  refine ⟨by simpa using h1.1, ?_⟩
  rcases h1.2 with ⟨hv, _⟩ | ⟨g', cap', cur, hv, h0, hg, h3, h4, h5, h6⟩
  · cases hv
  · injection hv with hv1 hv2 hv3
    injection hv1 with hv1
    injection hv1 with hv1
    subst hv1; subst hv3
    refine .inr ⟨g, cap, cur.setIfInBounds i u, rfl, h0, ?_, h3, h4, by simpa using h5, ?_⟩
    · simp [World.setCell, Array.getElem?_modify, hg]
    · rw [Array.toList_setIfInBounds, ← h6, List.take_set]
end St
end Go.Proofs.Ytnnkoeknejeieaa
