/- What the laws of this seat ask of the program alone. -/
import Derived.Test.YteehfidjofcfmaaRows
import Derived.Test.YteehfidjofcfmaaProg
import Derived.ProofKit
import Derived.OpenShut
import Derived.WalkKit
import Derived.Deep.Draws
import Derived.Deep.Quiet
import Derived.Maps.AppendAt
import Derived.Deep.MidRow
import Derived.OrdersHeld
import Derived.Deep.Slices
import Derived.ChangeShapes
import Derived.WideShapes
import Derived.ChangeSame
import Derived.ChangeArms
import Derived.Lib.SmallJoins
import Derived.Deep.Fields
import Derived.DataReads
namespace Go.Proofs.Yteehfidjofcfmaa.Facts
open Go Go.RowKit
set_option maxRecDepth 100000 in
theorem laid : laidOutB Try.checked.prog = true := by kernel_rfl
set_option maxRecDepth 100000 in
theorem mapsRowed : mapsRowed Try.checked.prog = true := by kernel_rfl
set_option maxRecDepth 100000 in
theorem stops : (Try.checked.prog.stops == []) = true := by kernel_rfl
set_option maxRecDepth 100000 in
theorem stopKnobs : (Try.checked.prog.stopKnobs == []) = true := by kernel_rfl
set_option maxRecDepth 100000 in
theorem plainKeys : (Rows.fnExactLeastCXRow.plainKeys == Try.checked.prog.plainKeys) = true := by kernel_rfl
set_option maxRecDepth 100000 in
theorem stopsHeard : Try.checked.prog.stopsHeard = true := by kernel_rfl
set_option maxRecDepth 100000 in
theorem mayEnter : Try.checked.prog.mayEnter = true := by kernel_rfl
set_option maxRecDepth 100000 in
theorem lifts : (Rows.fnExactLeastCXRow.lifted == Try.checked.prog.liftsFinal) = true := by kernel_rfl
set_option maxRecDepth 100000 in
theorem make : (Try.checked.prog.make == some Rows.fnExactLeastCXRow.make) = true := by kernel_rfl
theorem own : ownKnob Try.prog.godebug = none := by kernel_rfl
theorem laidOut : laidOutB Try.prog = true := by kernel_rfl
end Go.Proofs.Yteehfidjofcfmaa.Facts
/- A small logic over the model's memory: a list of the blocks that a call has made, kept beside the world. -/
namespace Go.Proofs.Yteehfidjofcfmaa
open Go Go.RowKit
/-- A block that the call owns: a whole block, or a slice at a block's head. -/
inductive Res where
  | blk (b : Nat) (t : TypeId) (cs : List Value)
  | own (v : Value) (e : TypeId) (size n : Nat) (xs : List Value)
  | grp (e : TypeId) (size : Nat) (l : List (Value × Nat × List Value))
  | mp (b : Nat) (kvs : List (Value × Value))

/-- Slices of a group lie apart. -/
def Parted (l : List (Value × Nat × List Value)) : Prop := l.Pairwise fun p q => ∀ k, p.1.ownBlock = some k → q.1.ownBlock ≠ some k
def Res.holds (w : World) : Res → Prop
  | .blk b t cs => w.heap[b]? = some (.cells cs.toArray t (0, 0))
  | .own v e size n xs => w.ownsRow 0 e size v n xs
  | .grp e size l => (∀ p ∈ l, w.ownsRow 0 e size p.1 p.2.1 p.2.2) ∧ Parted l
  | .mp b kvs => ∃ es clock, w.heap[b]? = some (.map es clock) ∧ es.toList.map (fun e => (e.key, e.val)) = kvs

/-- Block k is one of those of r. -/
def Res.has : Res → Nat → Prop
  | .blk b _ _, k => b = k
  | .own v _ _ _ _, k => v.ownBlock = some k
  | .grp _ _ l, k => ∃ p ∈ l, p.1.ownBlock = some k
  | .mp b _, k => b = k

theorem Res.lt {w : World} {r : Res} (h : r.holds w) {k : Nat} (hk : r.has k) : k < w.heap.size := by
  cases r with
  | blk b t cs =>
    simp only [Res.has] at hk; subst hk
    exact (Array.getElem?_eq_some_iff.1 h).1
  | own v e size n xs => exact (World.ownsRow.lt h k hk).2
  | grp e size l =>
    obtain ⟨p, hp, hpk⟩ := hk
    exact (World.ownsRow.lt (h.1 p hp) k hpk).2
  | mp b kvs =>
    simp only [Res.has] at hk; subst hk
    obtain ⟨es, clock, h1, _⟩ := h
    exact (Array.getElem?_eq_some_iff.1 h1).1

theorem ownsKeep {w w' : World} {e : TypeId} {size n : Nat} {v : Value} {xs : List Value} (h : w.ownsRow 0 e size v n xs) (hb : ∀ k, v.ownBlock = some k → w'.heap[k]? = w.heap[k]?) : w'.ownsRow 0 e size v n xs := by
  refine ⟨h.1, ?_⟩
  rcases h.2 with h2 | ⟨g, cap, cur, rfl, h0, hg, h3⟩
  · exact .inl h2
  · exact .inr ⟨g, cap, cur, rfl, h0, (hb g rfl).trans hg, h3⟩
theorem Res.keep {w w' : World} {r : Res} (h : r.holds w) (hb : ∀ k, r.has k → w'.heap[k]? = w.heap[k]?) : r.holds w' := by
  cases r with
  | blk b t cs => exact (hb b rfl).trans h
  | own v e size n xs => exact ownsKeep h hb
  | grp e size l => exact ⟨fun p hp => ownsKeep (h.1 p hp) fun k hk => hb k ⟨p, hp, hk⟩, h.2⟩
  | mp b kvs => obtain ⟨es, clock, h1, h2⟩ := h; exact ⟨es, clock, (hb b rfl).trans h1, h2⟩

/-- The state of a walk: from the world `w0` on only new blocks and those in `M` have turned; the blocks of `H` are as listed, and no two of them are one. -/
structure St (M : Nat → Prop) (w0 w : World) (H : List Res) : Prop where
  os : w.os = w0.os
  tape : w.tape = w0.tape
  output : w.output = w0.output
  size : w0.heap.size ≤ w.heap.size
  keep : ∀ k, k < w0.heap.size → ¬ M k → w.heap[k]? = w0.heap[k]?
  holds : ∀ r ∈ H, r.holds w
  fresh : ∀ r ∈ H, ∀ k, r.has k → k < w0.heap.size → M k
  disj : H.Pairwise fun r s => ∀ k, r.has k → ¬ s.has k

/-- Nothing that was there may turn. -/
def No : Nat → Prop := fun _ => False
/-- The blocks of a list. -/
def Of (H : List Res) : Nat → Prop := fun k => ∃ r ∈ H, r.has k

namespace St
variable {M : Nat → Prop} {w0 w w' : World} {H : List Res}
theorem empty (M : Nat → Prop) (w : World) : St M w w [] :=
  ⟨rfl, rfl, rfl, Nat.le_refl _, fun _ _ _ => rfl, (fun _ h => nomatch h), (fun _ h => nomatch h), List.Pairwise.nil⟩

/-- A call that is handed blocks begins with them. -/
theorem start (hh : ∀ r ∈ H, r.holds w) (hd : H.Pairwise fun r s => ∀ k, r.has k → ¬ s.has k) : St (Of H) w w H :=
  ⟨rfl, rfl, rfl, Nat.le_refl _, fun _ _ _ => rfl, hh, fun r hr _ hk _ => ⟨r, hr, hk⟩, hd⟩

theorem self (h : St M w0 w H) : St (Of H) w w H := start h.holds h.disj

theorem below (h : St No w0 w H) : Below w0.heap.size w0 w :=
  ⟨h.os, h.tape, h.output, h.size, fun k hk => h.keep k hk (fun x => x)⟩

theorem lt (h : St M w0 w H) {r : Res} (hr : r ∈ H) {k : Nat} (hk : r.has k) : k < w.heap.size := Res.lt (h.holds r hr) hk

/-- Blocks are forgotten, or put into another order. -/
theorem sub {H' : List Res} (h : St M w0 w H) (hs : H'.Sublist H) : St M w0 w H' :=
  ⟨h.os, h.tape, h.output, h.size, h.keep, fun r hr => h.holds r (hs.subset hr), fun r hr => h.fresh r (hs.subset hr), h.disj.sublist hs⟩

theorem perm {H' : List Res} (h : St M w0 w H) (hs : H.Perm H') : St M w0 w H' := by
  refine ⟨h.os, h.tape, h.output, h.size, h.keep, fun r hr => h.holds r (hs.mem_iff.2 hr), fun r hr => h.fresh r (hs.mem_iff.2 hr), ?_⟩
  refine hs.pairwise h.disj ?_
  intro x y hxy k hk hk'
  exact hxy k hk' hk

theorem mono {M' : Nat → Prop} (h : St M w0 w H) (hm : ∀ k, k < w0.heap.size → M k → M' k) : St M' w0 w H :=
  ⟨h.os, h.tape, h.output, h.size, fun k hk hn => h.keep k hk (fun x => hn (hm k hk x)), h.holds, fun r hr k hk hl => hm k hl (h.fresh r hr k hk hl), h.disj⟩

theorem drewN (h : St M w0 w H) (n : Nat) : St M w0 (w.drewN n) H :=
  ⟨h.os, h.tape, h.output, h.size, h.keep, fun r hr => Res.keep (h.holds r hr) fun _ _ => rfl, h.fresh, h.disj⟩
theorem drew (h : St M w0 w H) : St M w0 w.drew H := h.drewN 1

/-- A callee that was handed the blocks `H1` has left `H'` in their place. -/
theorem callM {H1 H2 H' : List Res} (h : St M w0 w (H1 ++ H2)) (h' : St (Of H1) w w' H') : St M w0 w' (H' ++ H2) := by
  have hd := List.pairwise_append.1 h.disj
  have hold : ∀ r ∈ H2, ∀ k, r.has k → ¬ Of H1 k := fun r hr k hk ⟨s, hs, hsk⟩ => hd.2.2 s hs r hr k hsk hk
  refine ⟨h'.os.trans h.os, h'.tape.trans h.tape, h'.output.trans h.output, Nat.le_trans h.size h'.size, ?_, ?_, ?_, ?_⟩
  · intro k hk hm
    refine (h'.keep k (Nat.lt_of_lt_of_le hk h.size) ?_).trans (h.keep k hk hm)
    rintro ⟨r, hr, hrk⟩
    exact hm (h.fresh r (List.mem_append.2 (.inl hr)) k hrk hk)
  · intro r hr
    rcases List.mem_append.1 hr with hr | hr
    · exact h'.holds r hr
    · have h0 := h.holds r (List.mem_append.2 (.inr hr))
      exact Res.keep h0 fun k hk => h'.keep k (Res.lt h0 hk) (hold r hr k hk)
  · intro r hr k hk hl
    rcases List.mem_append.1 hr with hr | hr
    · obtain ⟨s, hs, hsk⟩ := h'.fresh r hr k hk (Nat.lt_of_lt_of_le hl h.size)
      exact h.fresh s (List.mem_append.2 (.inl hs)) k hsk hl
    · exact h.fresh r (List.mem_append.2 (.inr hr)) k hk hl
  · refine List.pairwise_append.2 ⟨h'.disj, hd.2.1, fun r hr s hs k hk hsk => ?_⟩
    have hlt : k < w.heap.size := h.lt (List.mem_append.2 (.inr hs)) hsk
    exact hold s hs k hsk (h'.fresh r hr k hk hlt)

/-- A callee that left old memory alone has made `H'`. -/
theorem call {H' : List Res} (h : St M w0 w H) (h' : St No w w' H') : St M w0 w' (H' ++ H) :=
  callM (H1 := []) h (h'.mono (M' := Of []) fun _ _ x => x.elim)

theorem alloc (h : St M w0 w H) (t : TypeId) (cs : Array Value) : St M w0 (w.alloc (.cells cs t)) (.blk w.heap.size t cs.toList :: H) := by
  refine call (H' := [.blk w.heap.size t cs.toList]) h ⟨rfl, rfl, rfl, by simp, fun k hk _ => Below.heap_alloc w _ k hk, ?_, ?_, by simp⟩
  · intro r hr
    simp only [List.mem_singleton] at hr; subst hr
    exact heap_alloc_new w _
  · intro r hr k hk hl
    simp only [List.mem_singleton] at hr; subst hr
    simp only [Res.has] at hk
    omega

/-- A step that turns the block of one `r` alone, and leaves `r'` in that very place or in a new one. -/
theorem turn {r r' : Res} (h : St M w0 w (r :: H)) (hos : w'.os = w.os) (htape : w'.tape = w.tape) (hout : w'.output = w.output) (hsize : w.heap.size ≤ w'.heap.size)
    (hk : ∀ k, k < w.heap.size → ¬ r.has k → w'.heap[k]? = w.heap[k]?) (hr : r'.holds w') (hb : ∀ k, r'.has k → r.has k ∨ w.heap.size ≤ k) : St M w0 w' (r' :: H) := by
  refine callM (H1 := [r]) (H2 := H) (H' := [r']) h ⟨hos, htape, hout, hsize, fun k hk' hn => hk k hk' fun e => hn ⟨r, by simp, e⟩, ?_, ?_, by simp⟩
  · intro s hs; simp only [List.mem_singleton] at hs; subst hs; exact hr
  · intro s hs k hsk hl
    simp only [List.mem_singleton] at hs; subst hs
    rcases hb k hsk with h1 | h1
    · exact ⟨r, by simp, h1⟩
    · omega

theorem cell_blk {b : Nat} {t : TypeId} {cs : List Value} (h : St M w0 w H) (hm : Res.blk b t cs ∈ H) (i : Nat) : w.cell? ⟨b, i, none⟩ = cs[i]? := by
  have h1 : w.heap[b]? = some (.cells cs.toArray t (0, 0)) := h.holds (.blk b t cs) hm
  rw [cell_of_row w b i cs.toArray t (0, 0) h1]; simp
theorem frozen_blk {b : Nat} {t : TypeId} {cs : List Value} (h : St M w0 w H) (hm : Res.blk b t cs ∈ H) (i : Nat) : w.frozen? ⟨b, i, none⟩ = false := by
  have h1 : w.heap[b]? = some (.cells cs.toArray t (0, 0)) := h.holds (.blk b t cs) hm
  simp [World.frozen?, h1]

theorem set_blk {b : Nat} {t : TypeId} {cs : List Value} (h : St M w0 w (.blk b t cs :: H)) (i : Nat) (u : Value) : St M w0 (w.setCell ⟨b, i, none⟩ u) (.blk b t (cs.set i u) :: H) := by
  have h1 : w.heap[b]? = some (.cells cs.toArray t (0, 0)) := h.holds (.blk b t cs) (by simp)
  refine turn h rfl rfl rfl (by simp) (fun k _ hn => Below.heap_setCell _ _ _ _ (fun e => hn (by simp [Res.has, e]))) ?_ (fun k hk => .inl (by simpa [Res.has] using hk))
  simp [Res.holds, World.setCell, Array.getElem?_modify, h1]

theorem set_own {g cap : Nat} {e : TypeId} {size n : Nat} {xs : List Value} (h : St M w0 w (.own (.slice (some ⟨g, 0, none⟩) n cap) e size n xs :: H)) (i : Nat) (u : Value) :
    St M w0 (w.setCell ⟨g, i, none⟩ u) (.own (.slice (some ⟨g, 0, none⟩) n cap) e size n (xs.set i u) :: H) := by
  have h1 : w.ownsRow 0 e size (.slice (some ⟨g, 0, none⟩) n cap) n xs := h.holds (.own (.slice (some ⟨g, 0, none⟩) n cap) e size n xs) (by simp)
  refine turn h rfl rfl rfl (by simp) (fun k _ hn => Below.heap_setCell _ _ _ _ (fun e => hn (by simp [Res.has, Value.ownBlock, e]))) ?_ (fun k hk => .inl (by simpa [Res.has] using hk))
  refine ⟨by simpa using h1.1, ?_⟩
  rcases h1.2 with ⟨hv, _⟩ | ⟨g', cap', cur, hv, h0, hg, h3, h4, h5, h6⟩
  · cases hv
  · injection hv with hv1 hv2 hv3
    injection hv1 with hv1
    injection hv1 with hv1
    subst hv1; subst hv3
    refine .inr ⟨g, cap, cur.setIfInBounds i u, rfl, h0, ?_, h3, h4, by simpa using h5, ?_⟩
    · simp [World.setCell, Array.getElem?_modify, hg]
    · rw [Array.toList_setIfInBounds, ← h6, List.take_set]
end St
end Go.Proofs.Yteehfidjofcfmaa
/- A walk over a frame that is a function and a list of blocks: one rule for each form of code and of operation. -/
namespace Go.Proofs.Yteehfidjofcfmaa
open Go Go.RowKit
abbrev Fr := Nat → Value
def Fr.eval (f : Fr) : Operand → Value
  | .tmp t => f t
  | .const v => v
  | .global g => .pointer (some ⟨g, 0, none⟩)
  | .func g => .func (.func g) #[] #[]

structure Agree (n : Nat) (a : Act) (f : Fr) : Prop where
  defers : a.defers = []
  size : a.tmps.size = n
  at_ : ∀ t, a.tmps.getD t undef = f t

theorem Agree.eval {n : Nat} {a : Act} {f : Fr} (h : Agree n a f) : a.eval = f.eval := by
  funext x
  cases x <;> simp only [Act.eval, Fr.eval, h.at_]

theorem nbeq_ne {t d : Nat} (h : t ≠ d) : Nat.beq t d = false := by
  cases hb : Nat.beq t d with
  | false => rfl
  | true => exact absurd (Nat.eq_of_beq_eq_true hb) h
theorem nbeq_self (t : Nat) : Nat.beq t t = true := Nat.beq_refl t
theorem nblt_ge {d n : Nat} (h : ¬ d < n) : Nat.blt d n = false := by
  cases hb : Nat.blt d n with
  | false => rfl
  | true => exact absurd (Nat.le_of_ble_eq_true hb) h
theorem nblt_lt {d n : Nat} (h : d < n) : Nat.blt d n = true := Nat.ble_eq_true_of_le h
def upd (n : Nat) (f : Fr) (d : Nat) (v : Value) : Fr := fun t => if Nat.beq t d && Nat.blt d n then v else f t
def putF (n : Nat) (f : Fr) : Option Nat → Value → Fr
  | some d, v => upd n f d v
  | none, _ => f

theorem Agree.put {n : Nat} {a : Act} {f : Fr} (h : Agree n a f) (d : Option Tmp) (v : Value) : Agree n (a.put d v) (putF n f d v) := by
  cases d with
  | none => exact h
  | some d =>
    refine ⟨h.defers, by simp [Act.put, h.size], fun t => ?_⟩
    have h1 := h.at_ t
    simp only [Act.put, putF, upd, Array.getD_eq_getD_getElem?, Array.getElem?_setIfInBounds, h.size] at h1 ⊢
    by_cases hd : d = t
    · subst hd
      by_cases hn : d < n
      · simp [hn, nblt_lt hn]
      · have hb : Nat.blt d n = false := nblt_ge hn
        have e : a.tmps[d]? = none := Array.getElem?_eq_none (by rw [h.size]; exact Nat.not_lt.1 hn)
        simp only [e] at h1
        simp [hn, hb, ← h1]
    · have : Nat.beq t d = false := nbeq_ne fun e => hd (Eq.symm e)
      simp [hd, this, h1]

/-- The setting of a walk: the program, the frame's size, what may turn, the world at the start, what is asked at the end. -/
structure Env where
  P : Program
  n : Nat
  M : Nat → Prop
  w0 : World
  Q : Exit → Fr → List Res → Prop

def Env.lift (E : Env) (Q : Exit → Fr → List Res → Prop) : Exit → Act → World → Prop := fun e a w => ∃ f H, Agree E.n a f ∧ St E.M E.w0 w H ∧ Q e f H
def Env.trl (E : Env) (ops : Array Oper) (l : List Oper) (Q : Exit → Fr → List Res → Prop) (f : Fr) (H : List Res) : Prop :=
  ∀ a w, Agree E.n a f → St E.M E.w0 w H → wpList E.P ops (E.lift Q) l a w
def Env.trc (E : Env) (c : Code) (Q : Exit → Fr → List Res → Prop) (f : Fr) (H : List Res) : Prop :=
  ∀ a w, Agree E.n a f → St E.M E.w0 w H → c.wp E.P (E.lift Q) a w

inductive It where
  | ops (ops : Array Oper) (l : List Oper)
  | code (c : Code)
  | block (id : Nat)
  | goal (G : Fr → List Res → Prop)
  | rounds (c : Code) (n : Nat)

def Cont (E : Env) : List It → Exit → Fr → List Res → Prop
  | [], e, f, H => E.Q e f H
  | .ops ops l :: k, .normal, f, H => E.trl ops l (Cont E k) f H
  | .code c :: k, .normal, f, H => E.trc c (Cont E k) f H
  | .block _ :: k, .normal, f, H => Cont E k .normal f H
  | .block id :: k, .exit i, f, H => if i = id then Cont E k .normal f H else Cont E k (.exit i) f H
  | .goal G :: _, .normal, f, H => G f H
  | .rounds c n :: k, .normal, f, H => ∀ a w, Agree E.n a f → St E.M E.w0 w H → Code.rounds E.P c (E.lift (Cont E k)) n a w
  | _ :: k, e, f, H => Cont E k e f H

/-- The walk from here on: what is left to do, the frame, the blocks. -/
def Run (E : Env) (k : List It) (f : Fr) (H : List Res) : Prop := Cont E k .normal f H

def exitK (id : Nat) : List It → Option (List It)
  | [] => none
  | .block i :: k => if Nat.beq id i then some k else exitK id k
  | _ :: k => exitK id k

namespace Run
variable {E : Env} {k : List It} {f : Fr} {H : List Res}
theorem seq {x y : Code} (h : Run E (.code x :: .code y :: k) f H) : Run E (.code (.seq x y) :: k) f H := by
  intro a w ha hs
  refine wp_seq (wp_mono (h a w ha hs) ?_)
  rintro e a' w' ⟨f', H', h1, h2, h3⟩
  cases e <;> simp only [Cont] at h3 <;> simp only [Exit.then]
  · exact h3 a' w' h1 h2
  all_goals exact ⟨f', H', h1, h2, h3⟩

theorem region {id : Nat} {l : List Oper} (h : Run E (.ops l.toArray l :: k) f H) : Run E (.code (.region id l.toArray false) :: k) f H :=
  fun a w ha hs => wp_region_lit (h a w ha hs)

theorem done {ops : Array Oper} (h : Run E k f H) : Run E (.ops ops [] :: k) f H :=
  fun _ _ ha hs => ⟨f, H, ha, hs, h⟩

theorem skip (h : Run E k f H) : Run E (.code .skip :: k) f H :=
  fun _ _ ha hs => wp_skip ⟨f, H, ha, hs, h⟩

theorem block {id : Nat} {c : Code} (h : Run E (.code c :: .block id :: k) f H) : Run E (.code (.block id c) :: k) f H := by
  intro a w ha hs
  refine wp_block (wp_mono (h a w ha hs) ?_)
  rintro e a' w' ⟨f', H', h1, h2, h3⟩
  cases e with
  | exit i =>
    simp only [Cont] at h3
    simp only [Exit.inBlock]
    split
    · rename_i hi; rw [if_pos hi] at h3; exact ⟨f', H', h1, h2, h3⟩
    · rename_i hi; rw [if_neg hi] at h3; exact ⟨f', H', h1, h2, h3⟩
  | _ => simp only [Cont] at h3; exact ⟨f', H', h1, h2, h3⟩

theorem blockEnd {id : Nat} (h : Run E k f H) : Run E (.block id :: k) f H := h

theorem cont_exit {id : Nat} : ∀ {k k' : List It}, exitK id k = some k' → Run E k' f H → Cont E k (.exit id) f H
  | [], _, h, _ => by simp [exitK] at h
  | .block i :: k, k', h, hr => by
    simp only [exitK] at h
    simp only [Cont]
    by_cases hi : id = i
    · subst hi
      simp only [nbeq_self, if_true, Option.some.injEq] at h; subst h
      rw [if_pos rfl]; exact hr
    · have : Nat.beq id i = false := nbeq_ne hi
      simp only [this, Bool.false_eq_true, if_false] at h
      rw [if_neg hi]
      exact cont_exit h hr
  | .ops _ _ :: k, k', h, hr => by simp only [exitK] at h; simp only [Cont]; exact cont_exit h hr
  | .code _ :: k, k', h, hr => by simp only [exitK] at h; simp only [Cont]; exact cont_exit h hr
  | .goal _ :: k, k', h, hr => by simp only [exitK] at h; simp only [Cont]; exact cont_exit h hr
  | .rounds _ _ :: k, k', h, hr => by simp only [exitK] at h; simp only [Cont]; exact cont_exit h hr

theorem exit {id : Nat} {k' : List It} (he : exitK id k = some k') (h : Run E k' f H) : Run E (.code (.exit id) :: k) f H :=
  fun _ _ ha hs => wp_exit ⟨f, H, ha, hs, cont_exit he h⟩

theorem cont_ret (h : E.Q .ret f H) : ∀ {k : List It}, Cont E k .ret f H
  | [] => h
  | .block _ :: _ => by simp only [Cont]; exact cont_ret h
  | .ops _ _ :: _ => by simp only [Cont]; exact cont_ret h
  | .code _ :: _ => by simp only [Cont]; exact cont_ret h
  | .goal _ :: _ => by simp only [Cont]; exact cont_ret h
  | .rounds _ _ :: _ => by simp only [Cont]; exact cont_ret h

theorem ret (h : E.Q .ret f H) : Run E (.code .ret :: k) f H :=
  fun _ _ ha hs => wp_ret ⟨f, H, ha, hs, cont_ret h⟩

theorem cond {c : Operand} {x y : Code} {b : Bool} (hc : f.eval c = .bool b) (hx : b = true → Run E (.code x :: k) f H) (hy : b = false → Run E (.code y :: k) f H) :
    Run E (.code (.cond c x y) :: k) f H := by
  intro a w ha hs
  refine wp_cond_split (t := b) (by rw [ha.eval]; exact hc) (fun h => hx h a w ha hs) (fun h => hy h a w ha hs)

theorem fin (h : E.Q .normal f H) : Run E [] f H := h
theorem goal {G : Fr → List Res → Prop} (h : G f H) : Run E (.goal G :: k) f H := h

end Run
/-- Blocks may be forgotten or put into another order. -/
def Weak (H H' : List Res) : Prop := ∀ M w0 w, St M w0 w H → St M w0 w H'
theorem Weak.refl (H : List Res) : Weak H H := fun _ _ _ h => h
theorem Weak.trans {a b c : List Res} (h : Weak a b) (h' : Weak b c) : Weak a c := fun M w0 w x => h' M w0 w (h M w0 w x)
theorem Weak.drop {r : Res} {H H' : List Res} (h : Weak H H') : Weak (r :: H) H' := fun M w0 w x => h M w0 w (x.sub (List.sublist_cons_self r H))
theorem Weak.of_sub {H H' : List Res} (h : H'.Sublist H) : Weak H H' := fun _ _ _ x => x.sub h
theorem Weak.of_perm {H H' : List Res} (h : H.Perm H') : Weak H H' := fun _ _ _ x => x.perm h
theorem Weak.front (H1 : List Res) (r : Res) (H2 : List Res) : Weak (H1 ++ r :: H2) (r :: (H1 ++ H2)) := Weak.of_perm List.perm_middle
theorem Weak.nil (H : List Res) : Weak H [] := Weak.of_sub (List.nil_sublist H)
/-- The members at the numbers (each counted in what the ones before have left) come first. -/
def selF : List Res → List Nat → List Res
  | H, [] => H
  | H, i :: is => (H[i]?).toList ++ selF (H.eraseIdx i) is
theorem Weak.selF {H : List Res} (is : List Nat) : Weak H (selF H is) := by
  have key : ∀ (is : List Nat) (H : List Res), (Go.Proofs.Yteehfidjofcfmaa.selF H is).Perm H := by
    intro is
    induction is with
    | nil => intro H; exact List.Perm.refl _
    | cons i is ih =>
      intro H
      rw [Go.Proofs.Yteehfidjofcfmaa.selF]
      refine (List.Perm.append_left _ (ih _)).trans ?_
      rcases Nat.lt_or_ge i H.length with h | h
      · have e : H = H.take i ++ H[i] :: H.drop (i + 1) := by rw [List.getElem_cons_drop, List.take_append_drop]
        rw [List.getElem?_eq_getElem h]
        conv => rhs; rw [e]
        rw [List.eraseIdx_eq_take_drop_succ]
        show (H[i] :: (List.take i H ++ List.drop (i + 1) H)).Perm _
        exact List.perm_middle.symm
      · rw [List.getElem?_eq_none h, List.eraseIdx_of_length_le h]; exact List.Perm.refl _
  exact Weak.of_perm (key is H).symm
/-- `H'` is some of the blocks of `H`, in some order: what `Weak` needs, in a form that can be built step by step. -/
inductive Some' : List Res → List Res → Prop
  | nil (H : List Res) : Some' H []
  | skip {r : Res} {H H' : List Res} (h : Some' H H') : Some' (r :: H) H'
  | take {r : Res} {H H' : List Res} (h : Some' H H') : Some' (r :: H) (r :: H')
  | takeEq {r r' : Res} {H H' : List Res} (he : r = r') (h : Some' H H') : Some' (r :: H) (r' :: H')
theorem Some'.weak {H H' : List Res} (h : Some' H H') : Weak H H' := by
  refine Weak.of_sub ?_
  induction h with
  | nil H => exact List.nil_sublist H
  | skip _ ih => exact ih.cons _
  | take _ ih => exact ih.cons_cons _
  | takeEq he _ ih => subst he; exact ih.cons_cons _
theorem Run.weak {E : Env} {k : List It} {f : Fr} {H H' : List Res} (hw : Weak H H') (h : Run E k f H') (hk : ∃ i k', k = i :: k' ∧ (∀ G, i ≠ .goal G) ∧ (∀ id, i ≠ .block id)) : Run E k f H := by
  obtain ⟨i, k', rfl, h1, h2⟩ := hk
  cases i with
  | ops ops l => exact fun a w ha hs => h a w ha (hw _ _ _ hs)
  | code c => exact fun a w ha hs => h a w ha (hw _ _ _ hs)
  | block id => exact absurd rfl (h2 id)
  | goal G => exact absurd rfl (h1 G)
  | rounds c n => exact fun a w ha hs => h a w ha (hw _ _ _ hs)

/-- Outside the slots `D` the frames are one. -/
def Same (D : List Nat) (f f' : Fr) : Prop := ∀ t, D.contains t = false → f' t = f t
theorem Same.refl (D : List Nat) (f : Fr) : Same D f f := fun _ _ => rfl
theorem Same.upd {D : List Nat} {f f' : Fr} {n d : Nat} {v : Value} (hd : D.contains d = true) (h : Same D f f') : Same D f (upd n f' d v) := by
  intro t ht
  have : Nat.beq t d = false := nbeq_ne fun e => by subst e; rw [hd] at ht; cases ht
  simp only [Yteehfidjofcfmaa.upd, this, Bool.false_and]
  exact h t ht

/-- The frame `f`, but at the slots `D` whatever `j` says, and at those of `L` the values there. -/
def lookup (t : Nat) : List (Nat × Value) → Option Value
  | [] => none
  | (s, v) :: l => if Nat.beq t s then some v else lookup t l
def over (f : Fr) (D : List Nat) (L : List (Nat × Value)) (j : Fr) : Fr := fun t =>
  match lookup t L with
  | some v => v
  | none => if D.contains t then j t else f t
theorem lookup_ok {f : Fr} {t : Nat} {v : Value} : ∀ {L : List (Nat × Value)}, (∀ p ∈ L, f p.1 = p.2) → lookup t L = some v → f t = v
  | [], _, h => by simp [lookup] at h
  | (s, u) :: L, hL, h => by
    simp only [lookup] at h
    cases hb : Nat.beq t s with
    | true =>
      have := Nat.eq_of_beq_eq_true hb; subst this
      simp only [hb, if_true, Option.some.injEq] at h; subst h
      exact hL (t, u) (by simp)
    | false =>
      simp only [hb, Bool.false_eq_true, if_false] at h
      exact lookup_ok (fun p hp => hL p (List.mem_cons_of_mem _ hp)) h
theorem over_of {f f' : Fr} {D : List Nat} {L : List (Nat × Value)} (hs : Same D f f') (hL : ∀ p ∈ L, f' p.1 = p.2) : over f D L f' = f' := by
  funext t
  unfold over
  split
  · rename_i v hv; exact (lookup_ok hL hv).symm
  · split
    · rfl
    · rename_i hd; exact (hs t (by simpa using hd)).symm
theorem Same.over {f f' : Fr} {D D' : List Nat} {L : List (Nat × Value)} {j : Fr} (hD : D'.all (D.contains ·) = true) (hL : L.all (fun p => D.contains p.1) = true) (h : Same D f f') : Same D f (over f' D' L j) := by
  intro t ht
  unfold Yteehfidjofcfmaa.over
  split
  · rename_i v hv
    exfalso
    have : ∀ {L : List (Nat × Value)}, L.all (fun p => D.contains p.1) = true → lookup t L = some v → False := by
      intro L
      induction L with
      | nil => intro _ h; simp [lookup] at h
      | cons p L ih =>
        intro ha hl
        simp only [List.all_cons, Bool.and_eq_true] at ha
        simp only [lookup] at hl
        cases hb : Nat.beq t p.1 with
        | true => have := Nat.eq_of_beq_eq_true hb; rw [← this, ht] at ha; exact absurd ha.1 (by simp)
        | false => simp [hb] at hl; exact ih ha.2 hl
    exact this hL hv
  · split
    · rename_i hd
      exfalso
      have := List.all_eq_true.1 hD t (by simpa using hd)
      rw [ht] at this; cases this
    · exact h t ht

theorem least_ex {p : Nat → Prop} (h : ∃ n, p n) : ∃ n, p n ∧ ∀ m, p m → n ≤ m := by
  obtain ⟨n, hn⟩ := h
  induction n using Nat.strongRecOn with
  | _ n ih =>
    by_cases hs : ∃ m, m < n ∧ p m
    · obtain ⟨m, hm, hpm⟩ := hs
      exact ih m hm hpm
    · refine ⟨n, hn, fun m hm => ?_⟩
      rcases Nat.lt_or_ge m n with h | h
      · exact absurd ⟨m, h, hm⟩ hs
      · exact h
noncomputable def least (p : Nat → Prop) : Nat := @Classical.epsilon Nat _ fun n => p n ∧ ∀ m, p m → n ≤ m
theorem least_spec {p : Nat → Prop} (h : ∃ n, p n) : p (least p) ∧ ∀ m, p m → least p ≤ m := Classical.epsilon_spec (least_ex h)

/-- The frame at some slots. -/
def FrOk (f : Fr) : List (Nat × Value) → Prop
  | [] => True
  | (t, v) :: L => f t = v ∧ FrOk f L
theorem FrOk.all {f : Fr} : ∀ {L : List (Nat × Value)}, FrOk f L → ∀ p ∈ L, f p.1 = p.2
  | [], _, _, hp => nomatch hp
  | (_, _) :: L, h, p, hp => by
    rcases List.mem_cons.1 hp with rfl | hp
    · exact h.1
    · exact h.2.all p hp

namespace Run
variable {E : Env} {k : List It} {f : Fr} {H : List Res}
/-- A loop: the slots `D` are those that its body writes; in round `x` the slots of `L x` are known, and the blocks are `HH x`. -/
theorem loop {c : Code} {ι : Type} (D : List Nat) (L : ι → List (Nat × Value)) (HH : ι → List Res) (Inv : ι → Prop) (μ : ι → Nat) (x0 : ι)
    (h0 : Inv x0) (hf0 : FrOk f (L x0)) (hH0 : Weak H (HH x0))
    (round : ∀ x j, Inv x → Run E (.code c :: .goal (fun f' H' => Same D f f' ∧ ∃ x', Inv x' ∧ μ x' < μ x ∧ FrOk f' (L x') ∧ Weak H' (HH x')) :: k) (over f D (L x) j) (HH x)) :
    Run E (.code (.loop c) :: k) f H := by
  intro a w ha hs
  let I : Act → World → ι → Prop := fun a w x => Inv x ∧ (∃ f', Agree E.n a f' ∧ Same D f f' ∧ ∀ p ∈ L x, f' p.1 = p.2) ∧ St E.M E.w0 w (HH x)
  let m : Act → World → Nat := fun a w => least (fun n => ∃ x, I a w x ∧ μ x = n)
  refine wp_loop (fun a w => ∃ x, I a w x) m ⟨x0, h0, ⟨f, ha, Same.refl _ _, hf0.all⟩, hH0 _ _ _ hs⟩ ?_
  intro a w hI
  obtain ⟨x1, hx1⟩ := hI
  have hex : ∃ n, ∃ x, I a w x ∧ μ x = n := ⟨_, x1, hx1, rfl⟩
  obtain ⟨x, ⟨hInv, ⟨f', ha', hsame, hL⟩, hst⟩, hmx⟩ := (least_spec hex).1
  have hm : m a w = μ x := hmx.symm
  have hr := round x f' hInv a w (by rw [over_of hsame hL]; exact ha') hst
  refine wp_mono hr ?_
  rintro e a2 w2 ⟨f2, H2, h1, h2, h3⟩
  cases e with
  | normal =>
    simp only [Cont] at h3
    obtain ⟨hsm, x', hi', hlt, hl', hw'⟩ := h3
    have hI' : I a2 w2 x' := ⟨hi', ⟨f2, h1, hsm, hl'.all⟩, hw' _ _ _ h2⟩
    refine ⟨⟨x', hI'⟩, ?_⟩
    have hex2 : ∃ n, ∃ x, I a2 w2 x ∧ μ x = n := ⟨_, x', hI', rfl⟩
    rw [hm]
    exact Nat.lt_of_le_of_lt ((least_spec hex2).2 _ ⟨x', hI', rfl⟩) hlt
  | _ => simp only [Cont] at h3; exact ⟨f2, H2, h1, h2, h3⟩

theorem again {c : Code} {n : Nat} (h : Run E (.code c :: .rounds c n :: k) f H) : Run E (.rounds c (n + 1) :: k) f H := by
  intro a w ha hs
  rw [rounds_succ]
  refine wp_mono (h a w ha hs) ?_
  rintro e a' w' ⟨f', H', h1, h2, h3⟩
  cases e <;> simp only [Cont] at h3 <;> simp only [Exit.then]
  · exact h3 a' w' h1 h2
  all_goals exact ⟨f', H', h1, h2, h3⟩
/-- A loop of few rounds, one round at a time. -/
theorem unroll {c : Code} (n : Nat) (h : Run E (.rounds c n :: k) f H) : Run E (.code (.loop c) :: k) f H :=
  fun a w ha hs => wp_loop_rounds n (h a w ha hs)

/-- A cut behind the next piece of code. -/
theorem cut {c : Code} {ι : Type} (D : List Nat) (L : ι → List (Nat × Value)) (HH : ι → List Res) (Inv : ι → Prop)
    (h1 : Run E (.code c :: .goal (fun f' H' => Same D f f' ∧ ∃ x, Inv x ∧ FrOk f' (L x) ∧ Weak H' (HH x)) :: k) f H)
    (h2 : ∀ x j, Inv x → Run E k (over f D (L x) j) (HH x)) : Run E (.code c :: k) f H := by
  intro a w ha hs
  refine wp_mono (h1 a w ha hs) ?_
  rintro e a' w' ⟨f', H', g1, g2, g3⟩
  cases e with
  | normal =>
    simp only [Cont] at g3
    obtain ⟨hsm, x, hi, hL, hw⟩ := g3
    exact ⟨over f D (L x) f', HH x, by rw [over_of hsm hL.all]; exact g1, hw _ _ _ g2, h2 x f' hi⟩
  | _ => simp only [Cont] at g3; exact ⟨f', H', g1, g2, g3⟩
end Run
/-! ### Operations -/
def yieldedF (ops : Array Oper) (f : Fr) (j : Nat) : Option Bool :=
  match (ops[j]?).bind (·.dst) with
  | some d => match f d with
    | .bool b => some b
    | _ => none
  | none => none
def wantedF (ops : Array Oper) (f : Fr) (o : Oper) : Bool :=
  match o.guard with
  | none => true
  | some (j, want) => yieldedF ops f j == some want

theorem wantedF_eq {n : Nat} {a : Act} {f : Fr} (h : Agree n a f) (ops : Array Oper) (o : Oper) : Region.wanted o (yielded ops a.tmps) = wantedF ops f o := by
  unfold Region.wanted wantedF
  cases o.guard with
  | none => rfl
  | some g =>
    obtain ⟨j, want⟩ := g
    have : yielded ops a.tmps j = yieldedF ops f j := by
      unfold yielded yieldedF
      cases hd : (ops[j]?).bind (·.dst) with
      | none => rfl
      | some d =>
        have := h.at_ d
        simp only [Option.bind_some, ← this, Array.getD_eq_getD_getElem?]
        cases a.tmps[d]? with
        | none => rfl
        | some v => cases v <;> rfl
    simp only [this]

/-- One operation: the world may turn. -/
def OpStep (E : Env) (o : Oper) (f : Fr) (H : List Res) (K : Fr → List Res → Prop) : Prop :=
  ∀ a w, Agree E.n a f → St E.M E.w0 w H → ∀ (Kw : Act → World → Prop) (Q' : Exit → Act → World → Prop),
    (∀ f' H' a' w', Agree E.n a' f' → St E.M E.w0 w' H' → K f' H' → Kw a' w') → o.wp E.P a w Kw Q'
/-- One operation that yields `v` in every world of the state, and leaves the state alone. -/
def OpQ (E : Env) (o : Oper) (f : Fr) (H : List Res) (v : Value) : Prop :=
  ∀ a w, Agree E.n a f → St E.M E.w0 w H → o.quietAt E.P a (fun w' => St E.M E.w0 w' H) w v

/-- One operation that yields `v` in every world of the state, and leaves that world as it is. -/
def OpY (E : Env) (o : Oper) (f : Fr) (H : List Res) (v : Value) : Prop := ∀ w, St E.M E.w0 w H → (execOp f.eval o).run E.P w = .ok (.value v) w

theorem Run.step {E : Env} {k : List It} {f : Fr} {H : List Res} {ops : Array Oper} {o : Oper} {rest : List Oper} (hw : wantedF ops f o = true) (h : OpStep E o f H (Run E (.ops ops rest :: k))) : Run E (.ops ops (o :: rest) :: k) f H := by
  intro a w ha hs
  unfold wpList
  rw [wantedF_eq ha, hw, if_pos rfl]
  exact .inl (h a w ha hs _ _ fun f' H' a' w' h1 h2 h3 => h3 a' w' h1 h2)
theorem Run.pass {E : Env} {k : List It} {f : Fr} {H : List Res} {ops : Array Oper} {o : Oper} {rest : List Oper} (hw : wantedF ops f o = false) (h : Run E (.ops ops rest :: k) (putF E.n f o.dst undef) H) : Run E (.ops ops (o :: rest) :: k) f H := by
  intro a w ha hs
  unfold wpList
  rw [wantedF_eq ha, hw, if_neg (by simp)]
  exact h _ _ (ha.put _ _) hs
theorem OpStep.q {E : Env} {o : Oper} {f : Fr} {H : List Res} {v : Value} {K : Fr → List Res → Prop} (h : OpQ E o f H v) (hk : K (putF E.n f o.dst v) H) : OpStep E o f H K := by
  intro a w ha hs Kw Q' hK
  refine Oper.wp_of_quiet (C := fun w' => St E.M E.w0 w' H) (K := fun a' => Agree E.n a' (putF E.n f o.dst v)) hs (fun a' w' h1 h2 => hK _ _ _ _ h2 h1 hk) ?_
  exact ⟨v, fun w hw => h a w ha hw, ha.put _ _⟩
/-- A quiet operation in its place. -/
theorem Run.q {E : Env} {k : List It} {f : Fr} {H : List Res} {ops : Array Oper} {o : Oper} {rest : List Oper} {v : Value} (hw : wantedF ops f o = true) (h : OpQ E o f H v) (hk : Run E (.ops ops rest :: k) (putF E.n f o.dst v) H) : Run E (.ops ops (o :: rest) :: k) f H :=
  Run.step hw (OpStep.q h hk)

/-- A region that draws its order, and whose operations are all quiet. -/
def Lex (E : Env) (ops : Array Oper) (Q : Fr → Prop) : List Oper → Fr → List Res → Prop
  | [], f, _ => Q f
  | o :: rest, f, H => if wantedF ops f o = true then ∃ v, OpQ E o f H v ∧ Lex E ops Q rest (putF E.n f o.dst v) H else Lex E ops Q rest (putF E.n f o.dst undef) H
theorem Lex.quiet {E : Env} {ops : Array Oper} {Q : Fr → Prop} {H : List Res} : ∀ {l : List Oper} {f : Fr} {a : Act}, Lex E ops Q l f H → Agree E.n a f →
    wpQuiet E.P ops (fun w' => St E.M E.w0 w' H) (fun a' => ∃ f', Agree E.n a' f' ∧ Q f') l a
  | [], f, _, h, ha => ⟨f, ha, h⟩
  | o :: rest, f, a, h, ha => by
    unfold wpQuiet
    rw [wantedF_eq ha]
    simp only [Lex] at h
    by_cases hw : wantedF ops f o = true
    · rw [if_pos hw] at h ⊢
      obtain ⟨v, h1, h2⟩ := h
      exact ⟨v, fun w hs => h1 a w ha hs, h2.quiet (ha.put _ _)⟩
    · rw [if_neg hw] at h ⊢
      exact h.quiet (ha.put _ _)
theorem Run.draws {E : Env} {k : List It} {f : Fr} {H : List Res} {id : Nat} {l : List Oper} (hm : E.P.follows .mixedOrders = true) (hB : Region.lexB .any l.toArray = true) (h : Lex E l.toArray (fun f' => Run E k f' H) l f H) :
    Run E (.code (.region id l.toArray true) :: k) f H := by
  intro a w ha hs
  refine wp_region_quiet (C := fun w' => St E.M E.w0 w' H) hm hB hs.drew ?_
  have h1 : wpQuiet E.P l.toArray (fun w' => St E.M E.w0 w' H) (fun a' => ∃ f', Agree E.n a' f' ∧ Run E k f' H) l a := h.quiet ha
  have mono : ∀ (l' : List Oper) (a : Act), wpQuiet E.P l.toArray (fun w' => St E.M E.w0 w' H) (fun a' => ∃ f', Agree E.n a' f' ∧ Run E k f' H) l' a →
      wpQuiet E.P l.toArray (fun w' => St E.M E.w0 w' H) (fun a' => ∀ w', St E.M E.w0 w' H → E.lift (Cont E k) .normal a' w') l' a := by
    intro l'
    induction l' with
    | nil => rintro a ⟨f', h1, h2⟩ w' hw'; exact ⟨f', H, h1, hw', h2⟩
    | cons o l' ih =>
      intro a h
      unfold wpQuiet at h ⊢
      split
      · rename_i hw; rw [if_pos hw] at h; exact Oper.quiet_mono ih h
      · rename_i hw; rw [if_neg hw] at h; exact ih _ h
  simpa using mono _ _ h1
theorem Lex.q {E : Env} {ops : Array Oper} {Q : Fr → Prop} {f : Fr} {H : List Res} {o : Oper} {rest : List Oper} {v : Value} (hw : wantedF ops f o = true) (h : OpQ E o f H v) (hk : Lex E ops Q rest (putF E.n f o.dst v) H) : Lex E ops Q (o :: rest) f H := by
  simp only [Lex]; rw [if_pos hw]; exact ⟨v, h, hk⟩
theorem Lex.pass {E : Env} {ops : Array Oper} {Q : Fr → Prop} {f : Fr} {H : List Res} {o : Oper} {rest : List Oper} (hw : wantedF ops f o = false) (hk : Lex E ops Q rest (putF E.n f o.dst undef) H) : Lex E ops Q (o :: rest) f H := by
  simp only [Lex]; rw [if_neg (by rw [hw]; simp)]; exact hk
theorem Lex.done {E : Env} {ops : Array Oper} {Q : Fr → Prop} {f : Fr} {H : List Res} (h : Q f) : Lex E ops Q [] f H := h

namespace OpQ
variable {E : Env} {o : Oper} {f : Fr} {H : List Res} {v : Value}
theorem y (h : OpY E o f H v) : OpQ E o f H v := by
  intro a w ha hs
  unfold Oper.quietAt
  rw [ha.eval, h w hs]
  exact ⟨rfl, rfl⟩
theorem of_skip (h : ∀ w, St E.M E.w0 w H → (execOp f.eval o).run E.P w = .ok .skip w) : OpQ E o f H undef := by
  intro a w ha hs
  unfold Oper.quietAt
  rw [ha.eval, h w hs]
  exact ⟨rfl, rfl⟩
/-- Whatever reckons with values alone. -/
theorem pure (h : execOp f.eval o = Sem.pure (.value v)) : OpQ E o f H v := y fun w _ => by rw [h]; rfl
end OpQ
theorem OpY.pure {E : Env} {o : Oper} {f : Fr} {H : List Res} {v : Value} (h : execOp f.eval o = Sem.pure (.value v)) : OpY E o f H v := fun w _ => by rw [h]; rfl
theorem Run.sr {E : Env} {k : List It} {f : Fr} {H : List Res} {id : Nat} {l : List Oper} {y : Code} (h : Run E (.ops l.toArray l :: .code y :: k) f H) : Run E (.code (.seq (.region id l.toArray false) y) :: k) f H := Run.seq (Run.region h)
theorem Run.dsr {E : Env} {k : List It} {f : Fr} {H : List Res} {ops : Array Oper} {id : Nat} {l : List Oper} {y : Code} (h : Run E (.ops l.toArray l :: .code y :: k) f H) : Run E (.ops ops [] :: .code (.seq (.region id l.toArray false) y) :: k) f H := Run.done (Run.sr h)
theorem Run.dr {E : Env} {k : List It} {f : Fr} {H : List Res} {ops : Array Oper} {id : Nat} {l : List Oper} (h : Run E (.ops l.toArray l :: k) f H) : Run E (.ops ops [] :: .code (.region id l.toArray false) :: k) f H := Run.done (Run.region h)
theorem Run.y {E : Env} {k : List It} {f : Fr} {H : List Res} {ops : Array Oper} {o : Oper} {rest : List Oper} (v : Value) (hw : wantedF ops f o = true) (h : OpY E o f H v) (hk : Run E (.ops ops rest :: k) (putF E.n f o.dst v) H) : Run E (.ops ops (o :: rest) :: k) f H :=
  Run.q hw (OpQ.y h) hk
theorem Run.p {E : Env} {k : List It} {f : Fr} {H : List Res} {ops : Array Oper} {o : Oper} {rest : List Oper} (v : Value) (hw : wantedF ops f o = true) (h : execOp f.eval o = Sem.pure (.value v)) (hk : Run E (.ops ops rest :: k) (putF E.n f o.dst v) H) : Run E (.ops ops (o :: rest) :: k) f H :=
  Run.q hw (OpQ.y (OpY.pure h)) hk


/-! ### A region that draws its order and turns the world: what yields in every world of the state is taken first; what turns it must be alone -/
def DW (E : Env) (ops : Array Oper) (base : List Res) (k : List It) (fuel : Nat) (listed : Array Bool) (f : Fr) (H : List Res) : Prop :=
  ∀ a w, Agree E.n a f → St E.M E.w0 w H → wpAnyH E.P .any ops (E.lift (Cont E k)) (fun w => St E.M E.w0 w base) fuel listed a w
theorem cont_panic {E : Env} {f : Fr} {H : List Res} {c : List PanicEntry} (hQ : ∀ c f H, ¬ E.Q (.panic c) f H) : ∀ {k : List It}, ¬ Cont E k (.panic c) f H
  | [] => hQ c f H
  | .block _ :: _ => by simp only [Cont]; exact cont_panic hQ
  | .ops _ _ :: _ => by simp only [Cont]; exact cont_panic hQ
  | .code _ :: _ => by simp only [Cont]; exact cont_panic hQ
  | .goal _ :: _ => by simp only [Cont]; exact cont_panic hQ
  | .rounds _ _ :: _ => by simp only [Cont]; exact cont_panic hQ
section
variable {E : Env} {ops : Array Oper} {base : List Res} {k : List It} {fuel : Nat} {listed : Array Bool} {f : Fr} {H : List Res}
theorem Run.held {id : Nat} {l : List Oper} (hm : E.P.follows .mixedOrders = true) (h : DW E l.toArray H k l.toArray.size (Array.replicate l.toArray.size false) f H) : Run E (.code (.region id l.toArray true) :: k) f H :=
  fun a w ha hs => wp_region_held hm (h a { w with drawn := w.drawn + 1 } ha hs.drew)
theorem Run.heldB {base : List Res} {id : Nat} {l : List Oper} (hm : E.P.follows .mixedOrders = true) (h : DW E l.toArray base k l.toArray.size (Array.replicate l.toArray.size false) f H) : Run E (.code (.region id l.toArray true) :: k) f H :=
  fun a w ha hs => wp_region_held hm (h a { w with drawn := w.drawn + 1 } ha hs.drew)
theorem DW.take {i : Nat} {o : Oper} {v : Value} (hi : ops[i]? = some o) (hs : Region.noSelect ops = true) (hf : Region.free .any ops listed i = true) (hr : (Region.ready .any ops listed).contains i = true)
    (hQ : ∀ c f H, ¬ E.Q (.panic c) f H) (hb : Weak H base) (hw : wantedF ops f o = true) (hy : OpY E o f base v) (h : DW E ops base k fuel (listed.setIfInBounds i true) (putF E.n f o.dst v) H) : DW E ops base k (fuel + 1) listed f H := by
  intro a w ha hst
  refine wpAnyH_take hi hs hf hr (fun c a' w' ⟨f', H', _, _, h3⟩ => absurd h3 (cont_panic hQ)) (.inl ⟨by rw [wantedF_eq ha]; exact hw, fun w' hw' => by rw [ha.eval]; exact hy w' hw'⟩) (hb _ _ _ hst) (h _ _ (ha.put _ _) hst)
theorem DW.pass {i : Nat} {o : Oper} (hi : ops[i]? = some o) (hs : Region.noSelect ops = true) (hf : Region.free .any ops listed i = true) (hr : (Region.ready .any ops listed).contains i = true)
    (hQ : ∀ c f H, ¬ E.Q (.panic c) f H) (hb : Weak H base) (hw : wantedF ops f o = false) (h : DW E ops base k fuel (listed.setIfInBounds i true) (putF E.n f o.dst undef) H) : DW E ops base k (fuel + 1) listed f H := by
  intro a w ha hst
  refine wpAnyH_take (v := undef) hi hs hf hr (fun c a' w' ⟨f', H', _, _, h3⟩ => absurd h3 (cont_panic hQ)) (.inr ⟨by rw [wantedF_eq ha]; exact hw, rfl⟩) (hb _ _ _ hst) (h _ _ (ha.put _ _) hst)
theorem DW.step {i : Nat} {o : Oper} (hr : Region.ready .any ops listed = [i]) (hi : ops[i]? = some o) (hw : wantedF ops f o = true)
    (h : OpStep E o f H fun f' H' => Weak H' base ∧ DW E ops base k fuel (listed.setIfInBounds i true) f' H') : DW E ops base k (fuel + 1) listed f H := by
  intro a w ha hst
  refine wpAnyH_all hr (by simp) fun j hj => ?_
  simp only [List.mem_singleton] at hj
  subst hj
  unfold wpOp
  simp only [hi]
  rw [wantedF_eq ha, hw, if_pos rfl]
  exact .inl (h a w ha hst _ _ fun f' H' a' w' h1 h2 h3 => ⟨h3.1 _ _ _ h2, h3.2 a' w' h1 h2⟩)
theorem DW.done (hr : Region.ready .any ops listed = []) (h : Run E k f H) : DW E ops base k fuel listed f H :=
  fun _ _ ha hst => wpAnyH_done hr ⟨f, H, ha, hst, h⟩ fuel
end
/-! ### A region that draws its order, and whose operations Z turn the world: what reads the world is taken first, as all of Z wait for it; what reads nothing is taken at any time -/
/-- Whatever order is drawn; no operation but those of Z ends the condition S. -/
def wpL (P : Program) (ops : Array Oper) (Q : Exit → Act → World → Prop) (S : World → Prop) (Z : List Nat) : Nat → Array Bool → Act → World → Prop
  | 0, listed, a, w => Region.ready .any ops listed = [] ∧ Q .normal a w
  | fuel + 1, listed, a, w => (Region.ready .any ops listed = [] → Q .normal a w) ∧
    ∀ i ∈ Region.ready .any ops listed, wpOp P ops Q i (fun a' w' => (Z.contains i = false → S w → S w') ∧ wpL P ops Q S Z fuel (listed.setIfInBounds i true) a' w') a w
theorem wpL_any {P : Program} {ops : Array Oper} {Q : Exit → Act → World → Prop} {S : World → Prop} {Z : List Nat} : ∀ (fuel : Nat) (listed : Array Bool) (a : Act) (w : World), wpL P ops Q S Z fuel listed a w → wpAny P .any ops Q fuel listed a w
  | 0, _, _, _, h => h
  | fuel + 1, _, _, _, ⟨h1, h2⟩ => ⟨h1, fun i hi => wpOp_mono (fun a' w' ⟨_, h⟩ => wpL_any fuel _ a' w' h) (h2 i hi)⟩
/-- Operation j waits for operation i. -/
def waits (ops : Array Oper) (j i : Nat) : Bool := match ops[j]? with
  | some o => o.after.any fun e => Region.binds .any e && e.on == i
  | none => false
def waitsL (ops : Array Oper) (Z : List Nat) (i : Nat) : Bool := Z.all fun j => waits ops j i
theorem ready_key {ops : Array Oper} {i j : Nat} {listed : Array Bool} (hri : i ∈ Region.ready .any ops listed) (hrj : j ∈ Region.ready .any ops listed) : ∀ oj, ops[j]? = some oj → ∀ e ∈ oj.after, Region.binds .any e = true → e.on ≠ i := by
  intro oj hoj e he hb heq
  obtain ⟨_, oj', hoj', hall⟩ := mem_ready.1 hrj
  rw [hoj] at hoj'; injection hoj' with hoj'; subst hoj'
  have h1 := hall e he hb
  have h0 := (mem_ready.1 hri).1
  rw [heq] at h1
  by_cases hl : i < listed.size
  · simp [hl] at h0 h1; rw [h0] at h1; cases h1
  · simp [Array.getElem?_eq_none (Nat.not_lt.1 hl)] at h1
theorem ready_notZ {ops : Array Oper} {Z : List Nat} {i j : Nat} {listed : Array Bool} (hwt : waitsL ops Z i = true) (hri : i ∈ Region.ready .any ops listed) (hrj : j ∈ Region.ready .any ops listed) : Z.contains j = false := by
  cases hz : Z.contains j with
  | false => rfl
  | true =>
    exfalso
    have h1 := List.all_eq_true.1 hwt j (by simpa using hz)
    obtain ⟨_, oj, hoj, _⟩ := mem_ready.1 hrj
    unfold waits at h1
    rw [hoj] at h1
    simp only [Array.any_eq_true', Bool.and_eq_true, beq_iff_eq] at h1
    obtain ⟨e, he, hb, hon⟩ := h1
    exact ready_key hri hrj oj hoj e he hb hon
/-- With `C` the operation may lean on S, else it yields in whatever world. -/
theorem wpL_take {P : Program} {ops : Array Oper} {Q : Exit → Act → World → Prop} {S : World → Prop} {Z : List Nat} {i : Nat} {oi : Oper} {v : Value} (C : Bool) (hi : ops[i]? = some oi) (hsel : Region.noSelect ops = true) (hwt : C = true → waitsL ops Z i = true)
    (hQ : ∀ c a w, Q (.panic c) (a.put oi.dst v) w → Q (.panic c) a w) : ∀ (fuel : Nat) (listed : Array Bool) (a : Act) (w : World),
      (∀ j oj, ops[j]? = some oj → j ≠ i → listed.getD j true = false → (∀ e ∈ oj.after, Region.binds .any e = true → e.on ≠ i) → oi.apart ops oj = true) →
      i ∈ Region.ready .any ops listed → YieldsIf P ops (fun w => C = true → S w) oi v a → (C = true → S w) → wpL P ops Q S Z fuel (listed.setIfInBounds i true) (a.put oi.dst v) w → wpL P ops Q S Z (fuel + 1) listed a w := by
  have hs := Region.noSelect_spec hsel
  intro fuel
  induction fuel with
  | zero =>
    intro listed a w _ hr hy hS hK
    refine ⟨fun h => absurd hr (by rw [h]; simp), fun j hj => ?_⟩
    by_cases e : j = i
    · subst e; exact hy.wpOp hi hS ⟨fun _ h => h, hK⟩
    · have := ready_mono hj e
      rw [hK.1] at this; cases this
  | succ fuel ih =>
    intro listed a w hfree hr hy hS hK
    refine ⟨fun h => absurd hr (by rw [h]; simp), fun j hj => ?_⟩
    by_cases e : j = i
    · subst e; exact hy.wpOp hi hS ⟨fun _ h => h, hK⟩
    · obtain ⟨hun, oj, hoj, _⟩ := mem_ready.1 hj
      have hap := hfree j oj hoj e hun (ready_key hr hj oj hoj)
      refine wpOp_mono (fun a' w' ⟨g1, g2, g3⟩ => ⟨g2, ?_⟩) (wpOp_putIf hoj hap (fun cs b => hs i oi cs b hi) (fun cs b => hs j oj cs b hoj) hQ hy (hK.2 j (ready_mono hj e)))
      refine ih (listed.setIfInBounds j true) a' w' (fun k ok hk hki hku hkn => hfree k ok hk hki ?_ hkn) (ready_mono hr (Ne.symm e)) g1 (fun hc => g2 (ready_notZ (hwt hc) hr hj) (hS hc)) (by rw [Array.setIfInBounds_comm _ _ e]; exact g3)
      by_cases hjk : j = k
      · subst hjk; exact hun
      · rw [getD_set_ne true hjk] at hku; exact hku
def DL (E : Env) (ops : Array Oper) (Z : List Nat) (base : List Res) (k : List It) (fuel : Nat) (listed : Array Bool) (f : Fr) (H : List Res) : Prop :=
  ∀ a w, Agree E.n a f → St E.M E.w0 w H → wpL E.P ops (E.lift (Cont E k)) (fun w => St E.M E.w0 w base) Z fuel listed a w
section
variable {E : Env} {ops : Array Oper} {Z : List Nat} {base : List Res} {k : List It} {fuel : Nat} {listed : Array Bool} {f : Fr} {H : List Res}
theorem Run.lastly {id : Nat} {l : List Oper} (Z : List Nat) (hm : E.P.follows .mixedOrders = true) (h : DL E l.toArray Z H k l.toArray.size (Array.replicate l.toArray.size false) f H) : Run E (.code (.region id l.toArray true) :: k) f H :=
  fun a w ha hs => wp_region_any hm (wpL_any _ _ _ _ (h a { w with drawn := w.drawn + 1 } ha hs.drew))
theorem DL.take {i : Nat} {o : Oper} {v : Value} (hi : ops[i]? = some o) (hs : Region.noSelect ops = true) (hwt : waitsL ops Z i = true) (hf : Region.free .any ops listed i = true) (hr : (Region.ready .any ops listed).contains i = true)
    (hQ : ∀ c f H, ¬ E.Q (.panic c) f H) (hb : Weak H base) (hw : wantedF ops f o = true) (hy : OpY E o f base v) (h : DL E ops Z base k fuel (listed.setIfInBounds i true) (putF E.n f o.dst v) H) : DL E ops Z base k (fuel + 1) listed f H := by
  intro a w ha hst
  exact wpL_take true hi hs (fun _ => hwt) (fun c a' w' ⟨f', H', _, _, h3⟩ => absurd h3 (cont_panic hQ)) fuel listed a w (Region.free_spec hi hf) (by simpa using hr) (.inl ⟨by rw [wantedF_eq ha]; exact hw, fun w' hw' => by rw [ha.eval]; exact hy w' (hw' rfl)⟩) (fun _ => hb _ _ _ hst) (h _ _ (ha.put _ _) hst)
/-- An operation that reads nothing of the world. -/
theorem DL.takeP {i : Nat} {o : Oper} {v : Value} (hi : ops[i]? = some o) (hs : Region.noSelect ops = true) (hf : Region.free .any ops listed i = true) (hr : (Region.ready .any ops listed).contains i = true)
    (hQ : ∀ c f H, ¬ E.Q (.panic c) f H) (hw : wantedF ops f o = true) (hy : ∀ w0, OpY ⟨E.P, E.n, No, w0, E.Q⟩ o f [] v) (h : DL E ops Z base k fuel (listed.setIfInBounds i true) (putF E.n f o.dst v) H) : DL E ops Z base k (fuel + 1) listed f H := by
  intro a w ha hst
  exact wpL_take false hi hs (fun h => nomatch h) (fun c a' w' ⟨f', H', _, _, h3⟩ => absurd h3 (cont_panic hQ)) fuel listed a w (Region.free_spec hi hf) (by simpa using hr) (.inl ⟨by rw [wantedF_eq ha]; exact hw, fun w' _ => by rw [ha.eval]; exact hy w' w' (St.empty _ _)⟩) (fun h => nomatch h) (h _ _ (ha.put _ _) hst)
theorem DL.pass {i : Nat} {o : Oper} (hi : ops[i]? = some o) (hs : Region.noSelect ops = true) (hf : Region.free .any ops listed i = true) (hr : (Region.ready .any ops listed).contains i = true)
    (hQ : ∀ c f H, ¬ E.Q (.panic c) f H) (hw : wantedF ops f o = false) (h : DL E ops Z base k fuel (listed.setIfInBounds i true) (putF E.n f o.dst undef) H) : DL E ops Z base k (fuel + 1) listed f H := by
  intro a w ha hst
  exact wpL_take false hi hs (fun h => nomatch h) (fun c a' w' ⟨f', H', _, _, h3⟩ => absurd h3 (cont_panic hQ)) fuel listed a w (Region.free_spec hi hf) (by simpa using hr) (.inr ⟨by rw [wantedF_eq ha]; exact hw, rfl⟩) (fun h => nomatch h) (h _ _ (ha.put _ _) hst)
/-- One of Z, alone. -/
theorem DL.step {i : Nat} {o : Oper} (hr : Region.ready .any ops listed = [i]) (hz : Z.contains i = true) (hi : ops[i]? = some o) (hw : wantedF ops f o = true)
    (h : OpStep E o f H (DL E ops Z base k fuel (listed.setIfInBounds i true))) : DL E ops Z base k (fuel + 1) listed f H := by
  intro a w ha hst
  refine ⟨fun h0 => absurd (hr.symm.trans h0) (by simp), fun j hj => ?_⟩
  rw [hr] at hj
  simp only [List.mem_singleton] at hj
  subst hj
  unfold wpOp
  simp only [hi]
  rw [wantedF_eq ha, hw, if_pos rfl]
  exact .inl (h a w ha hst _ _ fun f' H' a' w' h1 h2 h3 => ⟨fun hne => absurd hz (by rw [hne]; decide), h3 a' w' h1 h2⟩)
theorem DL.done (hr : Region.ready .any ops listed = []) (h : Run E k f H) : DL E ops Z base k fuel listed f H := by
  intro a w ha hst
  cases fuel with
  | zero => exact ⟨hr, f, H, ha, hst, h⟩
  | succ n => exact ⟨fun _ => ⟨f, H, ha, hst, h⟩, by rw [hr]; simp⟩
end
theorem Run.lastlyB {E : Env} {k : List It} {f : Fr} {H : List Res} {id : Nat} {l : List Oper} (Z : List Nat) (base : List Res) (hm : E.P.follows .mixedOrders = true) (h : DL E l.toArray Z base k l.toArray.size (Array.replicate l.toArray.size false) f H) : Run E (.code (.region id l.toArray true) :: k) f H :=
  fun a w ha hs => wp_region_any hm (wpL_any _ _ _ _ (h a { w with drawn := w.drawn + 1 } ha hs.drew))
/-- One that is not of Z, alone: the base goes on to hold. -/
theorem DL.stepS {E : Env} {ops : Array Oper} {Z : List Nat} {base : List Res} {k : List It} {fuel : Nat} {listed : Array Bool} {f : Fr} {H : List Res} {i : Nat} {o : Oper} (hr : Region.ready .any ops listed = [i]) (hi : ops[i]? = some o) (hw : wantedF ops f o = true)
    (h : OpStep E o f H fun f' H' => Weak H' base ∧ DL E ops Z base k fuel (listed.setIfInBounds i true) f' H') : DL E ops Z base k (fuel + 1) listed f H := by
  intro a w ha hst
  refine ⟨fun h0 => absurd (hr.symm.trans h0) (by simp), fun j hj => ?_⟩
  rw [hr] at hj
  simp only [List.mem_singleton] at hj
  subst hj
  unfold wpOp
  simp only [hi]
  rw [wantedF_eq ha, hw, if_pos rfl]
  exact .inl (h a w ha hst _ _ fun f' H' a' w' h1 h2 h3 => ⟨fun _ _ => h3.1 _ _ _ h2, h3.2 a' w' h1 h2⟩)
theorem DL.weak {E : Env} {ops : Array Oper} {Z : List Nat} {base : List Res} {k : List It} {fuel : Nat} {listed : Array Bool} {f : Fr} {H H' : List Res} (hw : Weak H H') (h : DL E ops Z base k fuel listed f H') : DL E ops Z base k fuel listed f H :=
  fun a w ha hs => h a w ha (hw _ _ _ hs)
theorem DL.weakS {E : Env} {ops : Array Oper} {Z : List Nat} {base : List Res} {k : List It} {fuel : Nat} {listed : Array Bool} {f : Fr} {H H' : List Res} (hw : Weak H H') (h : Weak H' base ∧ DL E ops Z base k fuel listed f H') : Weak H base ∧ DL E ops Z base k fuel listed f H :=
  ⟨hw.trans h.1, h.2.weak hw⟩
theorem DW.weak {E : Env} {ops : Array Oper} {base : List Res} {k : List It} {fuel : Nat} {listed : Array Bool} {f : Fr} {H H' : List Res} (hw : Weak H H') (h : DW E ops base k fuel listed f H') : DW E ops base k fuel listed f H :=
  fun a w ha hs => h a w ha (hw _ _ _ hs)
theorem DW.weakS {E : Env} {ops : Array Oper} {base : List Res} {k : List It} {fuel : Nat} {listed : Array Bool} {f : Fr} {H H' : List Res} (hw : Weak H H') (h : Weak H' base ∧ DW E ops base k fuel listed f H') : Weak H base ∧ DW E ops base k fuel listed f H :=
  ⟨hw.trans h.1, h.2.weak hw⟩
/-- Two may come up. -/
theorem DW.two {E : Env} {ops : Array Oper} {base : List Res} {k : List It} {fuel : Nat} {listed : Array Bool} {f : Fr} {H : List Res} {i j : Nat} {o o' : Oper} (hr : Region.ready .any ops listed = [i, j]) (hi : ops[i]? = some o) (hj : ops[j]? = some o') (hw : wantedF ops f o = true) (hw' : wantedF ops f o' = true)
    (h : OpStep E o f H fun f' H' => Weak H' base ∧ DW E ops base k fuel (listed.setIfInBounds i true) f' H')
    (h' : OpStep E o' f H fun f' H' => Weak H' base ∧ DW E ops base k fuel (listed.setIfInBounds j true) f' H') : DW E ops base k (fuel + 1) listed f H := by
  intro a w ha hst
  refine wpAnyH_all hr (by simp) fun q hq => ?_
  simp only [List.mem_cons, List.not_mem_nil, or_false] at hq
  rcases hq with rfl | rfl
  · unfold wpOp
    simp only [hi]
    rw [wantedF_eq ha, hw, if_pos rfl]
    exact .inl (h a w ha hst _ _ fun f' H' a' w' h1 h2 h3 => ⟨h3.1 _ _ _ h2, h3.2 a' w' h1 h2⟩)
  · unfold wpOp
    simp only [hj]
    rw [wantedF_eq ha, hw', if_pos rfl]
    exact .inl (h' a w ha hst _ _ fun f' H' a' w' h1 h2 h3 => ⟨h3.1 _ _ _ h2, h3.2 a' w' h1 h2⟩)
end Go.Proofs.Yteehfidjofcfmaa
/- The operations of a walk, one rule each. -/
namespace Go.Proofs.Yteehfidjofcfmaa
open Go Go.RowKit
/-! ### What is asked of the program's tables, as closed facts -/
def fieldOff (P : Program) (s : TypeId) (i : Nat) : Option Nat :=
  match P.underlying s with
  | some (.struct fs) => match fs[i]? with
    | some fl => match P.info? fl.type with
      | some inf => if inf.size = 0 then none else some fl.offset
      | none => none
    | none => none
  | _ => none
/-- A type of one cell that is no struct and no array. -/
def oneOf (P : Program) (t : TypeId) : Bool := match P.underlying t with
  | some d => !d.isRow && (P.info? t).map (·.size) == some 1
  | none => false
/-- The number of cells of a struct or an array. -/
def aggOf (P : Program) (t : TypeId) : Option Nat := match P.underlying t with
  | some d => if d.isRow then (P.info? t).map (·.size) else none
  | none => none
def zeroOf (P : Program) (t : TypeId) : Option (List Value) := ((P.info? t).bind (·.zero)).map (·.cells.toList)
/-- A slice type: its element's type, and that one's cells, bytes, zero. -/
def sliceOf (P : Program) (t : TypeId) : Option (TypeId × Nat × Nat × List Value) := match P.underlying t with
  | some (.slice e) => match P.info? e with
    | some i => match i.zero with
      | some z => some (e, i.size, i.bytes, z.cells.toList)
      | none => none
    | none => none
  | _ => none
def arrayOf (P : Program) (t : TypeId) : Option (Nat × Nat) := match P.underlying t with
  | some (.array n e) => (P.info? e).map fun i => (n, i.size)
  | _ => none
def callable (P : Program) (g : FuncId) : Bool := match P.funcs[g]? with
  | some fn => !(fn.name == "runtime.NumGoroutine") && fn.body.isSome
  | none => false

theorem sliceOf_spec {P : Program} {t e : TypeId} {size bytes : Nat} {zs : List Value} (h : sliceOf P t = some (e, size, bytes, zs)) :
    P.underlying t = some (.slice e) ∧ ∃ i z, P.info? e = some i ∧ i.zero = some z ∧ i.size = size ∧ i.bytes = bytes ∧ z.cells.toList = zs := by
  unfold sliceOf at h
  split at h
  · rename_i e' hu
    split at h
    · rename_i i hi
      split at h
      · rename_i z hz
        simp only [Option.some.injEq, Prod.mk.injEq] at h
        obtain ⟨rfl, rfl, rfl, rfl⟩ := h
        exact ⟨hu, i, z, hi, hz, rfl, rfl, rfl⟩
      · cases h
    · cases h
  · cases h

theorem run_isAgg {P : Program} {t : TypeId} {d : TypeDesc} (h : P.underlying t = some d) (w : World) : (isAgg t).run P w = .ok d.isRow w := by
  simp only [isAgg, Sem.run_bind, run_underlying h, Result.andThen_ok]
  cases d <;> rfl
/-- In every world of the state the cells `cs` lie in block `b` from `o` on. -/
def Cells (E : Env) (H : List Res) (b o : Nat) (cs : List Value) : Prop := ∀ w, St E.M E.w0 w H → w.rangeAt b o cs

/-- `xs` are the next of `cs`. -/
def Pre : List Value → Nat → List Value → Prop
  | _, _, [] => True
  | cs, o, x :: xs => cs[o]? = some x ∧ Pre cs (o + 1) xs
theorem Pre.get {cs : List Value} : ∀ {xs : List Value} {o : Nat}, Pre cs o xs → ∀ j v, xs[j]? = some v → cs[o + j]? = some v
  | x :: xs, o, h, 0, v, hv => by simp at hv; subst hv; exact h.1
  | x :: xs, o, h, j + 1, v, hv => by
    have := Pre.get h.2 j v (by simpa using hv)
    rw [show o + (j + 1) = o + 1 + j by omega]; exact this

theorem Cells.blk {E : Env} {H : List Res} {b : Nat} {t : TypeId} {cs xs : List Value} {o : Nat} (hm : Res.blk b t cs ∈ H) (hp : Pre cs o xs) : Cells E H b o xs := by
  intro w hs j v hv
  rw [hs.cell_blk hm]
  exact hp.get j v hv
theorem Cells.own {E : Env} {H : List Res} {g cap n m : Nat} {e : TypeId} {size : Nat} {v : Value} {cs xs : List Value} {o : Nat} (hm : Res.own v e size n cs ∈ H) (hv : v = .slice (some ⟨g, 0, none⟩) m cap) (hp : Pre cs o xs) : Cells E H g o xs := by
  intro w hs j u hu
  have h1 : w.ownsRow 0 e size v n cs := hs.holds (.own v e size n cs) hm
  subst hv
  have := h1.cells (g := g) rfl (o + j) u (hp.get j u hu)
  rwa [Addr.add_mid, Nat.zero_add] at this

namespace OpY
variable {E : Env} {f : Fr} {H : List Res} {d : Option Tmp} {ty : TypeId} {pos : String} {after : Array Edge} {gd : Option (Nat × Bool)}
theorem fieldAddr {s : TypeId} {x : Operand} {i k b o off : Nat} (hs : fieldOff E.P s i = some k) (hx : f.eval x = .pointer (some ⟨b, o, none⟩)) (ho : o + k = off) :
    OpY E ⟨d, .fieldAddr s x i, ty, pos, after, gd⟩ f H (.pointer (some ⟨b, off, none⟩)) := by
  intro w _
  subst ho
  unfold fieldOff at hs
  split at hs
  · rename_i fs hu
    split at hs
    · rename_i fl hf
      split at hs
      · rename_i inf hi
        split at hs
        · cases hs
        · rename_i hz
          simp only [Option.some.injEq] at hs
          subst hs
          simp [execOp, hx, Instr.fieldAt, run_underlying hu, hf, Instr.sureAddr, fieldPlace, sizeOf, typeInfo, hi, hz, Addr.add_mid]
      · cases hs
    · cases hs
  · cases hs

theorem load1 {t : TypeId} {x : Operand} {b o : Nat} {v : Value} (ht : oneOf E.P t = true) (hx : f.eval x = .pointer (some ⟨b, o, none⟩)) (hc : Cells E H b o [v]) :
    OpY E ⟨d, .load t x, ty, pos, after, gd⟩ f H v := by
  intro w hs
  have hcell : w.cell? ⟨b, o, none⟩ = some v := hc w hs 0 v rfl
  unfold oneOf at ht
  split at ht
  · rename_i ds hu
    simp only [Bool.and_eq_true, Bool.not_eq_true'] at ht
    simp [execOp, hx, Instr.loadAt, Instr.sureAddr, loadVar, run_isAgg hu, ht.1, hcell]
  · cases ht
theorem loadN {t : TypeId} {x : Operand} {b o : Nat} {cs : List Value} (ht : aggOf E.P t = some cs.length) (hx : f.eval x = .pointer (some ⟨b, o, none⟩)) (hc : Cells E H b o cs) :
    OpY E ⟨d, .load t x, ty, pos, after, gd⟩ f H (.agg cs.toArray) := by
  intro w hs
  unfold aggOf at ht
  split at ht
  · rename_i ds hu
    split at ht
    · rename_i hr
      have := run_loadAt_mid (P := E.P) w b o t cs ds (hc w hs) hu hr ht
      simp [execOp, hx, this]
    · cases ht
  · cases ht

theorem len {t : TypeId} {x : Operand} {A : Option Addr} {n c : Nat} {e : TypeId} {z : Nat × Nat × List Value} (ht : sliceOf E.P t = some (e, z)) (hx : f.eval x = .slice A n c) :
    OpY E ⟨d, .call { callee := .builtin .len, args := #[x], argTypes := #[t] }, ty, pos, after, gd⟩ f H (.int .i64 n) := by
  intro w _
  obtain ⟨hu, _⟩ := sliceOf_spec ht
  simp [execOp, resolve, invoke, builtin, hx, Builtin.len_, run_underlying hu, goInt]

theorem indexAddr {t : TypeId} {x y : Operand} {b o n c : Nat} {k : IntKind} {i : Int} {e : TypeId} {size : Nat} {z : Nat × List Value} (ht : sliceOf E.P t = some (e, size, z)) (hx : f.eval x = .slice (some ⟨b, o, none⟩) n c) (hy : f.eval y = .int k i)
    (h0 : 0 ≤ i) (h1 : i < n) : OpY E ⟨d, .indexAddr t x y, ty, pos, after, gd⟩ f H (.pointer (some ⟨b, o + i.toNat * size, none⟩)) := by
  intro w _
  obtain ⟨hu, inf, zz, hi, _, rfl, _⟩ := sliceOf_spec ht
  simp [execOp, hx, hy, Instr.indexAt, run_underlying hu, asIntOf, h0, h1, sizeOf, typeInfo, hi, Addr.add_mid]
theorem indexAddrArr {t : TypeId} {x y : Operand} {b o n : Nat} {k : IntKind} {i : Int} {size : Nat} (ht : arrayOf E.P t = some (n, size)) (hx : f.eval x = .pointer (some ⟨b, o, none⟩)) (hy : f.eval y = .int k i)
    (h0 : 0 ≤ i) (h1 : i < n) : OpY E ⟨d, .indexAddr t x y, ty, pos, after, gd⟩ f H (.pointer (some ⟨b, o + i.toNat * size, none⟩)) := by
  intro w _
  unfold arrayOf at ht
  split at ht
  · rename_i n' e hu
    obtain ⟨inf, hi, he⟩ := Option.map_eq_some_iff.1 ht
    simp only [Prod.mk.injEq] at he
    obtain ⟨rfl, rfl⟩ := he
    simp [execOp, hx, hy, Instr.indexAt, Instr.sureAddr, run_underlying hu, asIntOf, h0, h1, sizeOf, typeInfo, hi, Addr.add_mid]
  · cases ht
end OpY
theorem run_call {P : Program} {g : FuncId} (hg : callable P g = true) (args : Array Value) (w : World) : (callFunc g args).run P w = .ok (.enter g args) w := by
  unfold callable at hg
  split at hg
  · rename_i fn hf
    simp only [Bool.and_eq_true, Bool.not_eq_true'] at hg
    have h1 : ¬ fn.name = "runtime.NumGoroutine" := by simpa using hg.1
    have h2 : ¬ fn.body = none := by intro h; rw [h] at hg; exact absurd hg.2 (by simp)
    simp [callFunc, hf, h1, h2]
  · cases hg
theorem run_call_op {P : Program} {ev : Operand → Value} {d : Option Tmp} {ty : TypeId} {pos : String} {after : Array Edge} {gd : Option (Nat × Bool)} {fo : Operand} {args : Array Operand} {ats : Array TypeId} {g : FuncId} {caps vs : List Value}
    (hg : callable P g = true) (hf : ev fo = .func (.func g) #[] caps.toArray) (hv : args.toList.map ev ++ caps = vs) (w : World) :
    (execOp ev ⟨d, .call { callee := .value fo, args := args, argTypes := ats }, ty, pos, after, gd⟩).run P w = .ok (.enter g vs.toArray) w := by
  subst hv
  have e : (args.map ev ++ caps.toArray) = (args.toList.map ev ++ caps).toArray := by
    apply Array.ext'
    simp
  simp [execOp, resolve, Deferred.ofValue, hf, invoke, run_call hg, e]

/-- The slice `v` has `n` elements, whose cells are `xs`. -/
def Sl (w : World) (v : Value) (size n : Nat) (xs : List Value) : Prop :=
  xs.length = n * size ∧ ∃ A c, v = .slice A n c ∧ n ≤ c ∧ c ≤ maxLen ∧ (0 < n → ∃ b o, A = some ⟨b, o, none⟩ ∧ b < w.heap.size ∧ w.rangeAt b o xs)

/-- One block of a list in another's place. -/
inductive Turn (r r' : Res) : List Res → List Res → Prop
  | here (H : List Res) : Turn r r' (r :: H) (r' :: H)
  | there (s : Res) {H H' : List Res} (h : Turn r r' H H') : Turn r r' (s :: H) (s :: H')
theorem Turn.split {r r' : Res} {H H' : List Res} (h : Turn r r' H H') : ∃ H1 H2, H = H1 ++ r :: H2 ∧ H' = H1 ++ r' :: H2 := by
  induction h with
  | here H => exact ⟨[], H, rfl, rfl⟩
  | there s _ ih => obtain ⟨H1, H2, rfl, rfl⟩ := ih; exact ⟨s :: H1, H2, rfl, rfl⟩
/-- Cells from `o` on are written over. -/
def spl (cs : List Value) : Nat → List Value → List Value
  | _, [] => cs
  | o, u :: us => spl (cs.set o u) (o + 1) us
theorem spl_length : ∀ (us : List Value) (cs : List Value) (o : Nat), (spl cs o us).length = cs.length
  | [], _, _ => rfl
  | u :: us, cs, o => by rw [spl, spl_length]; simp
theorem spl_at : ∀ (us cs : List Value) (o : Nat), o + us.length = cs.length → spl cs o us = cs.take o ++ us
  | [], cs, o, h => by simp only [spl, List.append_nil]; rw [List.take_of_length_le (by simp at h; omega)]
  | u :: us, cs, o, h => by
    simp only [List.length_cons] at h
    rw [spl, spl_at us _ _ (by simp; omega), List.take_set, List.set_eq_take_append_cons_drop]
    simp only [List.length_take]
    rw [if_pos (by omega), List.take_take, List.drop_take, show o + 1 - (o + 1) = 0 by omega, show min o (o + 1) = o by omega]
    simp
theorem spl_all {us cs : List Value} (h : us.length = cs.length) : spl cs 0 us = us := by
  rw [spl_at us cs 0 (by omega)]; simp
theorem spl_mid {cs : List Value} {o : Nat} (us : List Value) (h : o + us.length ≤ cs.length) : (spl cs o us).take (o + us.length) = cs.take o ++ us := by
  induction us generalizing cs o with
  | nil => simp [spl]
  | cons u us ih =>
    simp only [List.length_cons] at h ⊢
    have := ih (cs := cs.set o u) (o := o + 1) (by simp; omega)
    rw [spl, show o + (us.length + 1) = o + 1 + us.length by omega, this, List.take_set, List.set_eq_take_append_cons_drop]
    simp only [List.length_take]
    rw [if_pos (by omega), List.take_take, List.drop_take, show o + 1 - (o + 1) = 0 by omega, show min o (o + 1) = o by omega]
    simp
theorem foldl_set (off : Nat) : ∀ (us : List Value) (i : Nat) (cur : Array Value), (us.zipIdx i).foldl (fun cs (p : Value × Nat) => cs.setIfInBounds (off + p.2) p.1) cur = (spl cur.toList (off + i) us).toArray
  | [], _, cur => by simp [spl]
  | u :: us, i, cur => by
    simp only [List.zipIdx_cons, List.foldl_cons]
    rw [foldl_set off us (i + 1)]
    simp [spl, Nat.add_assoc]
/-- The parts of a literal in their order: their cells, one behind the other. -/
def Parts (f : Fr) (size : Nat) : Nat → List (Nat × Operand) → List Value → Prop
  | _, [], us => us = []
  | k, (i, x) :: ps, us => i = k ∧ ∃ u rest, us = u ++ rest ∧ (f.eval x).cells = u.toArray ∧ u.length = size ∧ Parts f size (k + 1) ps rest
theorem Parts.length {f : Fr} {size : Nat} : ∀ {k : Nat} {ps : List (Nat × Operand)} {us : List Value}, Parts f size k ps us → us.length = ps.length * size
  | _, [], _, h => by rw [h]; simp
  | _, (_, _) :: _, _, ⟨_, u, rest, rfl, _, h2, h3⟩ => by simp only [List.length_append, List.length_cons, h3.length, h2]; rw [Nat.add_mul]; omega
theorem Parts.fill {f : Fr} {size : Nat} : ∀ {k : Nat} {ps : List (Nat × Operand)} {us : List Value}, Parts f size k ps us → ∀ cur : Array Value, cur.size = (k + ps.length) * size →
    Instr.fill (fun i => some (i * size, size)) cur (ps.map fun p => (p.1, f.eval p.2)) = some (cur.toList.take (k * size) ++ us).toArray
  | k, [], us, h, cur, hc => by
    simp only [Parts] at h; subst h
    simp only [List.length_nil, Nat.add_zero] at hc
    simp only [List.map_nil, Instr.fill, List.append_nil]
    rw [List.take_of_length_le (by simp [hc])]
  | k, (i, x) :: ps, us, ⟨hi, u, rest, hus, h1, h2, h3⟩, cur, hc => by
    subst hi; subst hus
    simp only [List.length_cons] at hc
    have e2 : i * size + size ≤ cur.size := by rw [hc, Nat.add_mul]; have : size ≤ (ps.length + 1) * size := Nat.le_mul_of_pos_left _ (by omega); omega
    simp only [List.map_cons, Instr.fill, h1, List.size_toArray, h2]
    rw [if_neg (by simp; omega)]
    have h4 : (u.toArray.zipIdx.foldl (fun cs (p : Value × Nat) => cs.setIfInBounds (i * size + p.2) p.1) cur) = (spl cur.toList (i * size) u).toArray := by
      have := foldl_set (i * size) u 0 cur
      simp only [Nat.add_zero] at this
      rw [← this, ← Array.foldl_toList]
      simp
    have h5 := h3.fill (spl cur.toList (i * size) u).toArray (by simp only [List.size_toArray, spl_length, Array.length_toList, hc]; congr 1; omega)
    have h6 : (fun cs (x : Value × Nat) => match x with | (c, j) => cs.setIfInBounds (i * size + j) c) = fun (cs : Array Value) (p : Value × Nat) => cs.setIfInBounds (i * size + p.2) p.1 := rfl
    rw [h6, h4, h5]
    congr 1
    have h7 := spl_mid (cs := cur.toList) (o := i * size) u (by simp only [Array.length_toList, h2]; exact e2)
    rw [h2, show i * size + size = (i + 1) * size by rw [Nat.add_mul]; omega] at h7
    rw [h7]
    simp

theorem St.setCells {M : Nat → Prop} {w0 : World} {H : List Res} {b : Nat} {e : TypeId} : ∀ (us : List Value) (o : Nat) (w : World) (cs : List Value), St M w0 w (.blk b e cs :: H) → St M w0 (w.setCells b o us) (.blk b e (spl cs o us) :: H)
  | [], _, _, _, h => h
  | u :: us, o, _, _, h => St.setCells us (o + 1) _ _ (h.set_blk o u)
theorem St.setCellsOwn {M : Nat → Prop} {w0 : World} {H : List Res} {g cap n : Nat} {e : TypeId} {size : Nat} : ∀ (us : List Value) (o : Nat) (w : World) (cs : List Value), St M w0 w (.own (.slice (some ⟨g, 0, none⟩) n cap) e size n cs :: H) → St M w0 (w.setCells g o us) (.own (.slice (some ⟨g, 0, none⟩) n cap) e size n (spl cs o us) :: H)
  | [], _, _, _, h => h
  | u :: us, o, _, _, h => St.setCellsOwn us (o + 1) _ _ (h.set_own o u)

/-- What a contract says of the end of a call. -/
def Post (M : Nat → Prop) (w : World) (post : Value → List Res → Prop) : Ending → World → Prop := fun e w' => ∃ v H', e = .returned v ∧ St M w w' H' ∧ post v H'

namespace OpQ
variable {E : Env} {f : Fr} {H : List Res} {d : Option Tmp} {ty : TypeId} {pos : String} {after : Array Edge} {gd : Option (Nat × Bool)}
/-- A call that leaves old memory alone and hands back a value that hangs on nothing in memory. -/
theorem call {fo : Operand} {args : Array Operand} {ats : Array TypeId} {g : FuncId} {caps vs : List Value} {v : Value} (hg : callable E.P g = true) (hf : f.eval fo = .func (.func g) #[] caps.toArray) (hv : args.toList.map f.eval ++ caps = vs)
    (hc : ∀ w, St E.M E.w0 w H → Calls E.P g vs.toArray w (Post No w fun u _ => u = v)) :
    OpQ E ⟨d, .call { callee := .value fo, args := args, argTypes := ats }, ty, pos, after, gd⟩ f H v := by
  intro a w ha hs
  unfold Oper.quietAt
  rw [ha.eval, run_call_op hg hf hv w]
  refine ⟨rfl, (hc w hs).mono ?_⟩
  rintro e w' ⟨u, H', rfl, hst, rfl⟩
  exact ⟨rfl, (hs.call hst).sub (List.sublist_append_right H' H)⟩
end OpQ
namespace OpStep
variable {E : Env} {f : Fr} {H : List Res} {d : Option Tmp} {ty : TypeId} {pos : String} {after : Array Edge} {gd : Option (Nat × Bool)} {K : Fr → List Res → Prop}
theorem of_value {o : Oper} {v : World → Value} {w' : World → World} {H' : World → List Res} (hr : ∀ w, St E.M E.w0 w H → (execOp f.eval o).run E.P w = .ok (.value (v w)) (w' w) ∧ St E.M E.w0 (w' w) (H' w) ∧ K (putF E.n f o.dst (v w)) (H' w)) : OpStep E o f H K := by
  intro a w ha hs Kw Q' hK
  obtain ⟨h1, h2, h3⟩ := hr w hs
  unfold Oper.wp
  rw [ha.eval, h1]
  exact hK _ _ _ _ (ha.put _ _) h2 h3
theorem of_skip {o : Oper} {w' : World → World} {H' : List Res} (hr : ∀ w, St E.M E.w0 w H → (execOp f.eval o).run E.P w = .ok .skip (w' w) ∧ St E.M E.w0 (w' w) H') (hk : K (putF E.n f o.dst undef) H') : OpStep E o f H K := by
  intro a w ha hs Kw Q' hK
  obtain ⟨h1, h2⟩ := hr w hs
  unfold Oper.wp
  rw [ha.eval, h1]
  exact hK _ _ _ _ (ha.put _ _) h2 hk

theorem call {fo : Operand} {args : Array Operand} {ats : Array TypeId} {g : FuncId} {caps vs : List Value} {post : Value → List Res → Prop} (hg : callable E.P g = true) (hf : f.eval fo = .func (.func g) #[] caps.toArray) (hv : args.toList.map f.eval ++ caps = vs)
    (hc : ∀ w, St E.M E.w0 w H → Calls E.P g vs.toArray w (Post No w post)) (hk : ∀ v H', post v H' → K (putF E.n f d v) (H' ++ H)) :
    OpStep E ⟨d, .call { callee := .value fo, args := args, argTypes := ats }, ty, pos, after, gd⟩ f H K := by
  intro a w ha hs Kw Q' hK
  unfold Oper.wp
  rw [ha.eval, run_call_op hg hf hv w]
  refine (hc w hs).mono ?_
  rintro e w' ⟨u, H', rfl, hst, hp⟩
  exact hK _ _ _ _ (ha.put _ _) (hs.call hst) (hk u H' hp)
/-- A call that is handed the blocks `H1`. -/
theorem callM {fo : Operand} {args : Array Operand} {ats : Array TypeId} {g : FuncId} {caps vs : List Value} {post : Value → List Res → Prop} {H1 H2 : List Res} (hg : callable E.P g = true) (hf : f.eval fo = .func (.func g) #[] caps.toArray) (hv : args.toList.map f.eval ++ caps = vs)
    (hw : Weak H (H1 ++ H2)) (hc : ∀ w, St E.M E.w0 w (H1 ++ H2) → Calls E.P g vs.toArray w (Post (Of H1) w post)) (hk : ∀ v H', post v H' → K (putF E.n f d v) (H' ++ H2)) :
    OpStep E ⟨d, .call { callee := .value fo, args := args, argTypes := ats }, ty, pos, after, gd⟩ f H K := by
  intro a w ha hs Kw Q' hK
  unfold Oper.wp
  rw [ha.eval, run_call_op hg hf hv w]
  have hs' := hw _ _ _ hs
  refine (hc w hs').mono ?_
  rintro e w' ⟨u, H', rfl, hst, hp⟩
  exact hK _ _ _ _ (ha.put _ _) (hs'.callM hst) (hk u H' hp)

theorem alloc {t : TypeId} {zs : List Value} (hz : zeroOf E.P t = some zs) (hk : ∀ b, K (putF E.n f d (.pointer (some ⟨b, 0, none⟩))) (.blk b t zs :: H)) :
    OpStep E ⟨d, .alloc t, ty, pos, after, gd⟩ f H K := by
  obtain ⟨z, hz1, rfl⟩ := Option.map_eq_some_iff.1 hz
  obtain ⟨i, hi, hz2⟩ := Option.bind_eq_some_iff.1 hz1
  refine of_value (v := fun w => .pointer (some ⟨w.heap.size, 0, none⟩)) (w' := fun w => w.alloc (.cells z.cells t)) (H' := fun w => .blk w.heap.size t z.cells.toList :: H) fun w hs => ⟨?_, hs.alloc t z.cells, hk _⟩
  simp [execOp, Instr.alloc, zeroValue, typeInfo, hi, hz2, newVar, newRow]
theorem box {t : TypeId} {x : Operand} {us : List Value} (hx : (f.eval x).cells = us.toArray) (hk : ∀ b, K (putF E.n f d (.pointer (some ⟨b, 0, none⟩))) (.blk b t us :: H)) :
    OpStep E ⟨d, .box t x, ty, pos, after, gd⟩ f H K := by
  refine of_value (v := fun w => .pointer (some ⟨w.heap.size, 0, none⟩)) (w' := fun w => w.alloc (.cells us.toArray t)) (H' := fun w => .blk w.heap.size t us :: H) fun w hs => ⟨?_, by simpa using hs.alloc t us.toArray, hk _⟩
  simp [execOp, Instr.box, newVar, newRow, hx]

theorem storeAt_cells {t : TypeId} {a : Addr} {v : Value} {us : List Value} (hv : v.cells = us.toArray) : Instr.storeAt t (.pointer (some a)) v = Instr.storeAt t (.pointer (some a)) (.agg us.toArray) := by
  show (Instr.sureAddr _ >>= fun x => storeVar t x v) = (Instr.sureAddr _ >>= fun x => storeVar t x (.agg us.toArray))
  have : ∀ x, storeVar t x v = storeVar t x (.agg us.toArray) := by
    intro x
    show (sizeOf t >>= fun n => if v.cells.size ≠ n then _ else storeCells x v.cells.toList) = _
    unfold storeVar
    rw [hv]
    rfl
  simp only [this]

/-- A store into a block of the list. -/
theorem store {t : TypeId} {x y : Operand} {b o : Nat} {e : TypeId} {cs us : List Value} {H' : List Res} (ht : (E.P.info? t).map (·.size) = some us.length) (hx : f.eval x = .pointer (some ⟨b, o, none⟩)) (hy : (f.eval y).cells = us.toArray)
    (hone : us.all (·.oneCell') = true) (hH : Turn (.blk b e cs) (.blk b e (spl cs o us)) H H') (hfit : o + us.length ≤ cs.length) (hk : K (putF E.n f d undef) H') :
    OpStep E ⟨d, .store t x y, ty, pos, after, gd⟩ f H K := by
  refine of_skip (w' := fun w => w.setCells b o us) (fun w hs => ?_) hk
  obtain ⟨H1, H2, rfl, rfl⟩ := hH.split
  have hs' := hs.perm List.perm_middle
  have hblk : w.heap[b]? = some (.cells cs.toArray e (0, 0)) := hs'.holds (.blk b e cs) (by simp)
  constructor
  · have hth : w.there b o us.toArray.size := fun j hj => by
      have hj' : j < us.length := by simpa using hj
      constructor
      · rw [cell_of_row w b (o + j) _ e (0, 0) hblk]
        have : o + j < cs.length := by omega
        simp [this]
      · simp [World.frozen?, hblk]
    have := run_storeAt_mid (P := E.P) w b o t us.toArray hth (by simpa using ht) (by simpa using hone)
    simp [execOp, hx, storeAt_cells hy, this]
  · exact (St.setCells us o w cs hs').perm List.perm_middle.symm
theorem storeAll {t : TypeId} {x y : Operand} {b : Nat} {e : TypeId} {cs us : List Value} {H' : List Res} (ht : (E.P.info? t).map (·.size) = some us.length) (hx : f.eval x = .pointer (some ⟨b, 0, none⟩)) (hy : (f.eval y).cells = us.toArray)
    (hone : us.all (·.oneCell') = true) (hH : Turn (.blk b e cs) (.blk b e us) H H') (hfit : us.length = cs.length) (hk : K (putF E.n f d undef) H') :
    OpStep E ⟨d, .store t x y, ty, pos, after, gd⟩ f H K :=
  store ht hx hy hone (by rw [spl_all hfit]; exact hH) (by omega) hk
/-- A store into a slice of the list. -/
theorem storeOwn {t : TypeId} {x y : Operand} {g cap n m o : Nat} {e : TypeId} {size : Nat} {cs us : List Value} {v : Value} {H' : List Res} (ht : (E.P.info? t).map (·.size) = some us.length) (hx : f.eval x = .pointer (some ⟨g, o, none⟩)) (hv : v = .slice (some ⟨g, 0, none⟩) m cap) (hy : (f.eval y).cells = us.toArray)
    (hone : us.all (·.oneCell') = true) (hH : Turn (.own v e size n cs) (.own v e size n (spl cs o us)) H H') (hfit : o + us.length ≤ n * size) (hk : K (putF E.n f d undef) H') :
    OpStep E ⟨d, .store t x y, ty, pos, after, gd⟩ f H K := by
  refine of_skip (w' := fun w => w.setCells g o us) (fun w hs => ?_) hk
  subst hv
  obtain ⟨H1, H2, rfl, rfl⟩ := hH.split
  have hs' := hs.perm List.perm_middle
  have hown : w.ownsRow 0 e size (.slice (some ⟨g, 0, none⟩) m cap) n cs := hs'.holds (.own (.slice (some ⟨g, 0, none⟩) m cap) e size n cs) (by simp)
  have hm : m = n := by
    rcases hown.2 with ⟨h, _⟩ | ⟨_, _, _, h, _⟩
    · cases h
    · injection h
  subst hm
  constructor
  · have hth : w.there g o us.toArray.size := fun j hj => by
      have hj' : j < us.length := by simpa using hj
      have hl := hown.1
      constructor
      · have h2 := hown.cells (g := g) rfl (o + j) (cs[o + j]'(by omega)) (List.getElem?_eq_getElem (by omega))
        rw [Addr.add_mid, Nat.zero_add] at h2
        rw [h2]; rfl
      · exact hown.frozenAt (o + j)
    have := run_storeAt_mid (P := E.P) w g o t us.toArray hth (by simpa using ht) (by simpa using hone)
    simp [execOp, hx, storeAt_cells hy, this]
  · exact (St.setCellsOwn us o w cs hs').perm List.perm_middle.symm

/-- `append` onto a slice of the list: what is appended lies in the list, or anywhere else. -/
theorem append {t ty' : TypeId} {x y : Operand} {e : TypeId} {size bytes n m : Nat} {zs xs ys : List Value} {v u : Value} {H1 H2 : List Res} (ht : sliceOf E.P t = some (e, size, bytes, zs)) (hsz : 0 < size) (hzl : zs.length = size) (hx : f.eval x = v) (hy : f.eval y = u)
    (hH : H = H1 ++ .own v e size n xs :: H2) (hr : ∀ w, St E.M E.w0 w H → Sl w u size m ys) (h1 : ys.all (·.oneCell') = true) (hb : (n + m) * bytes ≤ 140737488355328) (hm : n + m ≤ maxLen)
    (hk : ∀ v', (v' = .slice none 0 0 ↔ v = .slice none 0 0 ∧ m = 0) → K (putF E.n f d v') (H1 ++ .own v' e size (n + m) (xs ++ ys) :: H2)) :
    OpStep E ⟨d, .call { callee := .builtin .append, args := #[x, y], argTypes := #[t, t] }, ty', pos, after, gd⟩ f H K := by
  intro a w ha hs Kw Q' hK
  subst hH
  have hs' := hs.perm List.perm_middle
  obtain ⟨hu, i, z, hi, hz, h3, h4, h5⟩ := sliceOf_spec ht
  have hown : w.ownsRow 0 e size v n xs := hs'.holds (.own v e size n xs) (by simp)
  obtain ⟨hl, A, c, rfl, hmc, hcm, hcell⟩ := hr w hs
  have run : ∃ v' w', (Builtin.append_ #[t, t] ty' #[v, .slice A m c]).run E.P w = .ok v' w' ∧ w'.ownsRow 0 e size v' (n + m) (xs ++ ys) ∧ w.grownBy w' v.ownBlock ∧ (v'.ownBlock = v.ownBlock ∨ v'.ownBlock = some w.heap.size) ∧ (v' = .slice none 0 0 ↔ v = .slice none 0 0 ∧ m = 0) := by
    have hmem : ∀ u ∈ ys, u.oneCell' = true := by simpa using h1
    have hzs : z.cells.size = size := by rw [← hzl, ← h5]; simp
    by_cases hm0 : m = 0
    · subst hm0
      have hy0 : ys = [] := List.eq_nil_of_length_eq_zero (by simpa using hl)
      subst hy0
      cases A with
      | none => 
        refine ⟨v, w, ?_, by simpa using hown, World.grownBy.refl w _, .inl rfl, by simp⟩
        rcases hown.2 with ⟨rfl, rfl⟩ | ⟨g, cap, cur, rfl, _, _, hnc, _⟩
        · simp [Builtin.append_, run_underlying hu, sizeOf, typeInfo, hi, Builtin.lenOf, Builtin.firstCells]
        · simp [Builtin.append_, run_underlying hu, sizeOf, typeInfo, hi, Builtin.lenOf, Builtin.firstCells, hnc, storeCells]
      | some ad =>
        obtain ⟨v', w', hrun, h7, h8, h9, h10⟩ := run_append_own_at (P := E.P) w 0 t ty' e i z size bytes hu hi hz h3 h4 hzs hsz v n xs hown ad 0 c [] (by simp) (by simp) (by simp) hm hb (Nat.zero_le _)
        exact ⟨v', w', hrun, h7, h8, h10, h9⟩
    · obtain ⟨b, o, rfl, _, hrg⟩ := hcell (by omega)
      obtain ⟨v', w', hrun, h7, h8, h9, h10⟩ := run_append_own_at (P := E.P) w 0 t ty' e i z size bytes hu hi hz h3 h4 hzs hsz v n xs hown ⟨b, o, none⟩ m c ys hl (fun j u hj => by rw [Addr.add_mid]; exact hrg j u hj) hmem hm hb (Nat.zero_le _)
      exact ⟨v', w', hrun, h7, h8, h10, h9⟩
  obtain ⟨v', w', hrun, h7, h8, h9, h10⟩ := run
  unfold Oper.wp
  rw [ha.eval]
  have he : (execOp f.eval ⟨d, .call { callee := .builtin .append, args := #[x, y], argTypes := #[t, t] }, ty', pos, after, gd⟩).run E.P w = .ok (.value v') w' := by
    simp [execOp, resolve, invoke, builtin, hx, hy, hrun]
  rw [he]
  refine hK _ _ _ _ (ha.put _ _) ?_ (hk v' h10)
  refine St.perm (St.turn (r := .own v e size n xs) (r' := .own v' e size (n + m) (xs ++ ys)) hs' h8.os h8.tape h8.output h8.size (fun k hk' hne => h8.block k hk' fun e => hne (by simpa [Res.has] using e.symm)) h7 ?_) List.perm_middle.symm
  intro k hk'
  simp only [Res.has] at hk' ⊢
  rcases h9 with e | e
  · exact .inl (e ▸ hk')
  · rw [e] at hk'; injection hk' with hk'; exact .inr (by omega)


/-- A slice's literal, its elements in their order. -/
theorem buildSlice {t : TypeId} {n : Nat} {parts : Array (Nat × Operand)} {e : TypeId} {size bytes : Nat} {zs us : List Value} (ht : sliceOf E.P t = some (e, size, bytes, zs)) (hn : n * size ≤ 16777216) (hnm : n ≤ maxLen)
    (hp : Parts f size 0 parts.toList us) (hpn : parts.size = n)
    (hk : ∀ b, K (putF E.n f d (.slice (some ⟨b, 0, none⟩) n n)) (.own (.slice (some ⟨b, 0, none⟩) n n) e size n us :: H)) : OpStep E ⟨d, .buildSlice t n parts, ty, pos, after, gd⟩ f H K := by
  obtain ⟨hu, i, z, hi, hz, h3, h4, h5⟩ := sliceOf_spec ht
  subst hpn
  have hlen : us.length = parts.size * size := by have := hp.length; simpa using this
  refine of_value (v := fun w => .slice (some ⟨w.heap.size, 0, none⟩) parts.size parts.size) (w' := fun w => w.alloc (.cells us.toArray e)) (H' := fun w => .own (.slice (some ⟨w.heap.size, 0, none⟩) parts.size parts.size) e size parts.size us :: H) fun w hs => ⟨?_, ?_, hk _⟩
  · have hno : ¬ parts.size * size > 2 ^ 24 := by omega
    have key : ∀ cur : Array Value, cur.size = parts.size * size → Instr.fill (fun i => some (i * size, size)) cur (parts.map fun p => (p.1, f.eval p.2)).toList = some us.toArray := by
      intro cur hc
      have := hp.fill cur (by simpa using hc)
      simpa using this
    by_cases h0 : parts.size * size = 0
    · simp only [execOp, Instr.buildSlice, Sem.run_bind, run_underlying hu, Result.andThen_ok]
      simp only [sizeOf, typeInfo, hi, h3, Sem.run_bind, run_program, Result.andThen_ok, Sem.run_pure, h0, if_true]
      rw [if_neg (by decide)]
      simp only [Sem.run_bind, Sem.run_pure, Result.andThen_ok]
      rw [key _ (by simp [h0])]
      simp [newRow]
    · simp only [execOp, Instr.buildSlice, Sem.run_bind, run_underlying hu, Result.andThen_ok]
      simp only [sizeOf, typeInfo, hi, h3, Sem.run_bind, run_program, Result.andThen_ok, Sem.run_pure, hno, if_false, h0, zeroValue, hz]
      rw [key _ (by simp)]
      simp [newRow]
  · have := hs.alloc e us.toArray
    refine St.turn (r := .blk w.heap.size e us) (r' := .own (.slice (some ⟨w.heap.size, 0, none⟩) parts.size parts.size) e size parts.size us) (by simpa using this) rfl rfl rfl (Nat.le_refl _) (fun _ _ _ => rfl) ?_ (fun k hk => .inl (by simpa [Res.has, Value.ownBlock] using hk))
    exact ⟨hlen, .inr ⟨w.heap.size, parts.size, us.toArray, rfl, Nat.zero_le _, heap_alloc_new w _, Nat.le_refl _, hnm, by simpa using hlen, by simp [← hlen]⟩⟩
end OpStep
namespace OpY
variable {E : Env} {f : Fr} {H : List Res} {d : Option Tmp} {ty : TypeId} {pos : String} {after : Array Edge} {gd : Option (Nat × Bool)}
theorem build {t : TypeId} {parts : Array (Nat × Operand)} {cs : List Value} (hb : E.P.built t (parts.map fun (i, x) => (i, f.eval x)).toList = some cs.toArray) :
    OpY E ⟨d, .build t parts, ty, pos, after, gd⟩ f H (.agg cs.toArray) := by
  intro w _
  have := run_build (P := E.P) w t (parts.map fun (i, x) => (i, f.eval x)) cs.toArray hb
  simp only [execOp, Sem.run_bind, this, Result.andThen_ok, Sem.run_pure]
theorem convInt {s t : TypeId} {x : Operand} {k k' : IntKind} {n : Int} (hs : (E.P.underlying s).isSome = true) (ht : E.P.underlying t = some (.int k')) (hx : f.eval x = .int k n) :
    OpY E ⟨d, .convert s t x, ty, pos, after, gd⟩ f H (.int k' (k'.wrap n)) := by
  intro w _
  obtain ⟨ds, hd⟩ := Option.isSome_iff_exists.mp hs
  simp [execOp, hx, convert, run_underlying hd, run_underlying ht, Conv.intToInt]
theorem sliceL {t : TypeId} {x y : Operand} {A : Option Addr} {n c : Nat} {k : IntKind} {l : Int} {e : TypeId} {size : Nat} {z : Nat × List Value} (ht : sliceOf E.P t = some (e, size, z)) (hx : f.eval x = .slice A n c) (hy : f.eval y = .int k l) (h0 : 0 ≤ l) (h1 : l ≤ n) :
    OpY E ⟨d, .slice t x (some y) none none, ty, pos, after, gd⟩ f H (sliced A l.toNat n c size) := by
  intro w _
  obtain ⟨hu, i, zz, hi, _, rfl, _⟩ := sliceOf_spec ht
  have he : E.P.elem t = e := by simp [Program.elem, hu]
  have hu' : E.P.underlying t = some (.slice (E.P.elem t)) := by rw [he]; exact hu
  simp [execOp, hx, hy, run_sliceAt_slice w t _ _ _ _ hu', run_slice_l w t A n c hu' k l h0 h1, he, sizeOf, typeInfo, hi]
theorem sliceH {t : TypeId} {x y : Operand} {A : Option Addr} {n c : Nat} {k : IntKind} {h : Int} {e : TypeId} {size : Nat} {z : Nat × List Value} (ht : sliceOf E.P t = some (e, size, z)) (hx : f.eval x = .slice A n c) (hy : f.eval y = .int k h) (h0 : 0 ≤ h) (h1 : h ≤ c) :
    OpY E ⟨d, .slice t x none (some y) none, ty, pos, after, gd⟩ f H (sliced A 0 h.toNat c size) := by
  intro w _
  obtain ⟨hu, i, zz, hi, _, rfl, _⟩ := sliceOf_spec ht
  have he : E.P.elem t = e := by simp [Program.elem, hu]
  have hu' : E.P.underlying t = some (.slice (E.P.elem t)) := by rw [he]; exact hu
  simp [execOp, hx, hy, run_sliceAt_slice w t _ _ _ _ hu', run_slice_h w t A n c hu' k h h0 h1, he, sizeOf, typeInfo, hi]
theorem add {t t' : TypeId} {x y : Operand} {a b c : Int} (hx : f.eval x = .int .i64 a) (hy : f.eval y = .int .i64 b) (hc : a + b = c) (h0 : -9223372036854775808 ≤ c) (h1 : c ≤ 9223372036854775807) :
    OpY E ⟨d, .binOp .add t x y t', ty, pos, after, gd⟩ f H (.int .i64 c) := by
  subst hc
  intro w _
  have : IntKind.i64.wrap (a + b) = a + b := by rw [IntKind.wrap_i64]; omega
  simp [execOp, hx, hy, eqGuard, binOp, Op.intArith, this]
theorem sub {t t' : TypeId} {x y : Operand} {a b c : Int} (hx : f.eval x = .int .i64 a) (hy : f.eval y = .int .i64 b) (hc : a - b = c) (h0 : -9223372036854775808 ≤ c) (h1 : c ≤ 9223372036854775807) :
    OpY E ⟨d, .binOp .sub t x y t', ty, pos, after, gd⟩ f H (.int .i64 c) := by
  subst hc
  intro w _
  have : IntKind.i64.wrap (a - b) = a - b := by rw [IntKind.wrap_i64]; omega
  simp [execOp, hx, hy, eqGuard, binOp, Op.intArith, this]
end OpY
theorem flatten_get {size : Nat} (zs : List Value) (hz : zs.length = size) (hs : 0 < size) : ∀ (n i : Nat), i < n * size → ((List.replicate n zs).flatten)[i]? = zs[i % size]?
  | 0, i, h => by omega
  | n + 1, i, h => by
    rw [List.replicate_succ, List.flatten_cons]
    by_cases hi : i < size
    · rw [List.getElem?_append_left (by omega), Nat.mod_eq_of_lt hi]
    · rw [List.getElem?_append_right (by omega), hz, flatten_get zs hz hs n (i - size) (by rw [Nat.add_mul, Nat.one_mul] at h; omega)]
      have e : (i - size) % size = i % size := (Nat.mod_eq_sub_mod (by omega)).symm
      rw [e]
theorem madeCells_toList (z : Array Value) (n : Nat) (hs : 0 < z.size) : (madeCells z (n * z.size)).toList = (List.replicate n z.toList).flatten := by
  apply List.ext_getElem?
  intro i
  by_cases hi : i < n * z.size
  · rw [flatten_get z.toList rfl (by simpa using hs) n i (by simpa using hi)]
    simp [madeCells, hi, Nat.mod_lt _ hs]
  · have h1 : (madeCells z (n * z.size)).toList.length = n * z.size := by simp [madeCells]
    have h2 : (List.replicate n z.toList).flatten.length = n * z.size := by simp [List.length_flatten]
    rw [List.getElem?_eq_none (by omega), List.getElem?_eq_none (by omega)]

namespace OpStep
variable {E : Env} {f : Fr} {H : List Res} {d : Option Tmp} {ty : TypeId} {pos : String} {after : Array Edge} {gd : Option (Nat × Bool)} {K : Fr → List Res → Prop}
theorem makeSlice {t : TypeId} {x y : Operand} {e : TypeId} {size bytes n : Nat} {zs : List Value} {k k' : IntKind} (ht : sliceOf E.P t = some (e, size, bytes, zs)) (hzl : zs.length = size) (hsz : 0 < size) (hx : f.eval x = .int k n) (hy : f.eval y = .int k' n) (hb : n * bytes ≤ 281474976710656) (hm : n ≤ maxLen)
    (hk : ∀ b, K (putF E.n f d (.slice (some ⟨b, 0, none⟩) n n)) (.own (.slice (some ⟨b, 0, none⟩) n n) e size n (List.replicate n zs).flatten :: H)) : OpStep E ⟨d, .makeSlice t x y, ty, pos, after, gd⟩ f H K := by
  obtain ⟨hu, i, z, hi, hz, h3, h4, h5⟩ := sliceOf_spec ht
  have hzs : z.cells.size = size := by rw [← hzl, ← h5]; simp
  have hcells : (madeCells z.cells (n * size)).toList = (List.replicate n zs).flatten := by
    rw [← hzs, madeCells_toList _ _ (by omega), h5]
  have h63 : (n : Int) ≤ 9223372036854775807 := by have h := hm; simp [maxLen] at h; omega
  have hbb : (i.bytes : Int) * (n : Int) ≤ 281474976710656 := by
    rw [h4]
    have h : ((bytes * n : Nat) : Int) ≤ 281474976710656 := by rw [Nat.mul_comm]; omega
    rwa [Int.natCast_mul] at h
  refine of_value (v := fun w => .slice (some ⟨w.heap.size, 0, none⟩) n n) (w' := fun w => w.alloc (.cells (madeCells z.cells (n * size)) e)) (H' := fun w => .own (.slice (some ⟨w.heap.size, 0, none⟩) n n) e size n (List.replicate n zs).flatten :: H) fun w hs => ⟨?_, ?_, hk _⟩
  · have := run_make (P := E.P) w t e i z hu hi hz k k' n n (by omega) (by omega) hbb h63
    simp only [Int.toNat_natCast, h3] at this
    simp [execOp, hx, hy, this]
  · have := hs.alloc e (madeCells z.cells (n * size))
    refine St.turn (r := .blk w.heap.size e (madeCells z.cells (n * size)).toList) (r' := .own (.slice (some ⟨w.heap.size, 0, none⟩) n n) e size n (List.replicate n zs).flatten) this rfl rfl rfl (Nat.le_refl _) (fun _ _ _ => rfl) ?_ (fun k hk => .inl (by simpa [Res.has, Value.ownBlock] using hk))
    have hl : (List.replicate n zs).flatten.length = n * size := by simp [List.length_flatten, hzl]
    exact ⟨hl, .inr ⟨w.heap.size, n, madeCells z.cells (n * size), rfl, Nat.zero_le _, heap_alloc_new w _, Nat.le_refl _, hm, size_madeCells _ _, by rw [hcells, List.take_of_length_le (Nat.le_of_eq hl)]⟩⟩
end OpStep
/-! ### Into a function, and out of it -/
def getL : List Value → Nat → Value
  | [], _ => undef
  | v :: _, 0 => v
  | _ :: l, n + 1 => getL l n
theorem getL_eq : ∀ (l : List Value) (k t : Nat), (l.toArray ++ Array.replicate k undef).getD t undef = getL l t
  | [], k, t => by
    simp only [getL, Array.getD_eq_getD_getElem?]
    rw [show ([] : List Value).toArray ++ Array.replicate k undef = Array.replicate k undef from by simp]
    by_cases h : t < k <;> simp [h]
  | v :: l, k, 0 => by simp [getL, Array.getD_eq_getD_getElem?, Array.getElem?_append]
  | v :: l, k, t + 1 => by
    have := getL_eq l k t
    simp only [Array.getD_eq_getD_getElem?, getL] at this ⊢
    rw [← this]
    simp [Array.getElem?_append]

/-- The results of a function, off its frame. -/
def Out (E : Env) (fn : Func) (f : Fr) (H : List Res) (v : Value) : Prop := ∀ a w, Agree E.n a f → St E.M E.w0 w H → (results fn a.tmps).run E.P w = .ok v w
def RetQ (P : Program) (n : Nat) (M : Nat → Prop) (w0 : World) (fn : Func) (post : Value → List Res → Prop) : Exit → Fr → List Res → Prop
  | .normal, f, H | .ret, f, H => ∃ v H', Out ⟨P, n, M, w0, fun _ _ _ => True⟩ fn f H v ∧ Weak H H' ∧ post v H'
  | _, _, _ => False

theorem enter {P : Program} {g : FuncId} {fn : Func} {c : Code} {args : List Value} {w : World} {M : Nat → Prop} {H0 : List Res} {post : Value → List Res → Prop} {n : Nat}
    (hf : P.funcs[g]? = some fn) (hb : fn.body = some c) (hn : args.length + (fn.ntmps - args.length) = n) (hs : St M w w H0)
    (h : Run ⟨P, n, M, w, RetQ P n M w fn post⟩ [.code c] (getL args) H0) : Calls P g args.toArray w (Post M w post) := by
  refine calls_of_wp hf hb ?_
  refine wp_mono (h _ w ⟨rfl, ?_, fun t => ?_⟩ hs) ?_
  · simpa using hn
  · exact getL_eq args _ t
  · rintro e a w' ⟨f, H, h1, h2, h3⟩
    cases e <;> simp only [Cont, RetQ] at h3
    all_goals
      obtain ⟨v, H', ho, hw, hp⟩ := h3
      exact ⟨h1.defers, v, ho a w' h1 h2, v, H', rfl, hw _ _ _ h2, hp⟩

theorem Out.one {E : Env} {fn : Func} {f : Fr} {H : List Res} {t : Tmp} {v : Value} (h : fn.results = #[.tmp t]) (hv : f t = v) : Out E fn f H v := by
  subst hv; intro a w ha _; rw [results_tmp h, ha.at_]
theorem Out.two {E : Env} {fn : Func} {f : Fr} {H : List Res} {t u : Tmp} {v v' : Value} (h : fn.results = #[.tmp t, .tmp u]) (hv : f t = v) (hv' : f u = v') : Out E fn f H (.tuple #[v, v']) := by
  subst hv; subst hv'; intro a w ha _; rw [results_tmp2 h, ha.at_, ha.at_]
theorem Out.none {E : Env} {fn : Func} {f : Fr} {H : List Res} (h : fn.results = #[]) : Out E fn f H (.tuple #[]) := by
  intro a w _ _; rw [results_none h]
theorem run_results_cell {P : Program} {w : World} {t : TypeId} {v : Value} {b o : Nat} {cs : List Value} (hv : v = .pointer (some ⟨b, o, .none⟩)) (ht : aggOf P t = some cs.length) (hc : w.rangeAt b o cs) : (do loadVar t (← asAddr v) : Sem Value).run P w = .ok (.agg cs.toArray) w := by
  unfold aggOf at ht
  split at ht
  · rename_i ds hu
    split at ht
    · rename_i hr
      subst hv
      simp [asAddr, run_loadVar_mid (P := P) w b o t cs ds hc hu hr ht]
    · cases ht
  · cases ht
theorem Out.cell1 {E : Env} {fn : Func} {f : Fr} {H : List Res} {t : Tmp} {ty : TypeId} {b o : Nat} {cs : List Value} (h : fn.results = #[.cell t ty]) (ht : aggOf E.P ty = some cs.length) (hp : f t = .pointer (some ⟨b, o, .none⟩)) (hc : Cells E H b o cs) : Out E fn f H (.agg cs.toArray) := by
  intro a w ha hs
  have := run_results_cell (v := a.tmps.getD t undef) (by rw [ha.at_]; exact hp) ht (hc w hs)
  unfold results
  rw [h]
  simp only [List.mapM_toArray, List.mapM_cons, List.mapM_nil, Sem.run_bind, Sem.run_map, this, Result.andThen_ok, Sem.run_pure]
  rfl
theorem Out.cell2 {E : Env} {fn : Func} {f : Fr} {H : List Res} {t u : Tmp} {ty : TypeId} {b o : Nat} {cs : List Value} {v : Value} (h : fn.results = #[.cell t ty, .tmp u]) (ht : aggOf E.P ty = some cs.length) (hp : f t = .pointer (some ⟨b, o, .none⟩)) (hc : Cells E H b o cs) (hv : f u = v) : Out E fn f H (.tuple #[.agg cs.toArray, v]) := by
  subst hv; intro a w ha hs
  have := run_results_cell (P := E.P) hp ht (hc w hs)
  simp only [Sem.run_bind] at this
  unfold results
  rw [h]
  simp only [List.mapM_toArray, List.mapM_cons, List.mapM_nil, Sem.run_bind, Sem.run_map, Sem.run_pure, ha.at_, this, Result.andThen_ok]
  rfl
/-! ### Slices that are read -/
def Rd (E : Env) (H : List Res) (v : Value) (size n : Nat) (xs : List Value) : Prop := ∀ w, St E.M E.w0 w H → Sl w v size n xs
theorem Rd.own {E : Env} {H : List Res} {v : Value} {e : TypeId} {size n : Nat} {xs : List Value} (hm : Res.own v e size n xs ∈ H) : Rd E H v size n xs := by
  intro w hs
  have h1 : w.ownsRow 0 e size v n xs := hs.holds (.own v e size n xs) hm
  refine ⟨h1.1, ?_⟩
  rcases h1.2 with ⟨rfl, rfl⟩ | ⟨g, cap, cur, rfl, _, hg, h3, h4, _⟩
  · exact ⟨none, 0, rfl, Nat.le_refl _, Nat.zero_le _, fun h => absurd h (by omega)⟩
  · refine ⟨some ⟨g, 0, none⟩, cap, rfl, h3, h4, fun _ => ⟨g, 0, rfl, (Array.getElem?_eq_some_iff.1 hg).1, fun j u hu => ?_⟩⟩
    have := h1.cells (g := g) rfl j u hu
    rwa [Addr.add_mid] at this
theorem Rd.arg {E : Env} {H : List Res} {v : Value} {size n : Nat} {xs : List Value} (h : Sl E.w0 v size n xs) (hM : E.M = No) : Rd E H v size n xs := by
  intro w hs
  obtain ⟨hl, A, c, rfl, h1, h2, h3⟩ := h
  refine ⟨hl, A, c, rfl, h1, h2, fun h0 => ?_⟩
  obtain ⟨b, o, rfl, hb, hr⟩ := h3 h0
  refine ⟨b, o, rfl, Nat.lt_of_lt_of_le hb hs.size, fun j u hu => ?_⟩
  have hk := hs.keep b hb (by rw [hM]; exact fun x => x)
  rw [World.cell?_of_block (w := E.w0) hk]
  exact hr j u hu
theorem Rd.nil {E : Env} {H : List Res} {size c : Nat} {A : Option Addr} (hc : c ≤ maxLen) : Rd E H (.slice A 0 c) size 0 [] :=
  fun _ _ => ⟨by simp, A, c, rfl, Nat.zero_le _, hc, fun h => absurd h (by omega)⟩
theorem Cells.sub {E : Env} {H : List Res} {b o : Nat} {xs ys : List Value} {k : Nat} (h : Cells E H b o xs) (hp : Pre xs k ys) : Cells E H b (o + k) ys := by
  intro w hs j u hu
  have := h w hs (k + j) u (hp.get j u hu)
  rwa [← Nat.add_assoc] at this

theorem St.sl {w0 w : World} {H : List Res} {v : Value} {size n : Nat} {xs : List Value} (hs : St No w0 w H) (h : Sl w0 v size n xs) : Sl w v size n xs :=
  Rd.arg (E := ⟨default, 0, No, w0, fun _ _ _ => True⟩) h rfl w hs
theorem St.slOwn {M : Nat → Prop} {w0 w : World} {H : List Res} {v : Value} {e : TypeId} {size n : Nat} {xs : List Value} (hs : St M w0 w H) (hm : Res.own v e size n xs ∈ H) : Sl w v size n xs :=
  Rd.own (E := ⟨default, 0, M, w0, fun _ _ _ => True⟩) hm w hs
theorem Cells.arg {E : Env} {H : List Res} {b o n c size : Nat} {xs ys : List Value} {k : Nat} (h : Sl E.w0 (.slice (some ⟨b, o, none⟩) n c) size n xs) (hM : E.M = No) (hn : 0 < n) (hp : Pre xs k ys) : Cells E H b (o + k) ys := by
  refine Cells.sub (xs := xs) (fun w hs => ?_) hp
  obtain ⟨_, A, c', he, _, _, h3⟩ := Rd.arg h hM w hs
  injection he with he1
  subst he1
  obtain ⟨b', o', he, _, hrg⟩ := h3 hn
  injection he with he
  injection he with hb ho
  subst hb; subst ho
  exact hrg
/-- The form of an argument that is a slice with an element. -/
theorem Sl.form {w : World} {v : Value} {size n : Nat} {xs : List Value} (h : Sl w v size n xs) (hn : 0 < n) : ∃ b o c, v = .slice (some ⟨b, o, none⟩) n c ∧ n ≤ c ∧ c ≤ maxLen := by
  obtain ⟨_, A, c, rfl, h1, h2, h3⟩ := h
  obtain ⟨b, o, rfl, _, _⟩ := h3 hn
  exact ⟨b, o, c, rfl, h1, h2⟩
theorem Sl.form0 {w : World} {v : Value} {size n : Nat} {xs : List Value} (h : Sl w v size n xs) : ∃ A c, v = .slice A n c ∧ n ≤ c ∧ c ≤ maxLen := by
  obtain ⟨_, A, c, rfl, h1, h2, _⟩ := h
  exact ⟨A, c, rfl, h1, h2⟩
theorem Cells.own0 {E : Env} {H : List Res} {g cap n m : Nat} {e : TypeId} {size : Nat} {cs xs : List Value} {o : Nat} (hm : Res.own (.slice (some ⟨g, 0, none⟩) m cap) e size n cs ∈ H) (hp : Pre cs o xs) : Cells E H g o xs := Cells.own hm rfl hp

namespace OpY
variable {E : Env} {f : Fr} {H : List Res} {d : Option Tmp} {ty : TypeId} {pos : String} {after : Array Edge} {gd : Option (Nat × Bool)}
theorem index {t : TypeId} {x y : Operand} {b o n c kk off : Nat} {k : IntKind} {i : Int} {e : TypeId} {size : Nat} {z : Nat × List Value} (ht : sliceOf E.P t = some (e, size, z)) (hx : f.eval x = .slice (some ⟨b, o, none⟩) n c) (hy : f.eval y = .int k i)
    (hi : i = (kk : Int)) (hlt : kk < n) (ho : o + kk * size = off) : OpY E ⟨d, .indexAddr t x y, ty, pos, after, gd⟩ f H (.pointer (some ⟨b, off, none⟩)) := by
  subst hi; subst ho
  have := indexAddr (E := E) (f := f) (H := H) (d := d) (ty := ty) (pos := pos) (after := after) (gd := gd) ht hx hy (by omega) (by omega)
  simpa using this
theorem moveB {x : Operand} {b c : Bool} (hx : f.eval x = .bool b) (hb : b = c) : OpY E ⟨d, .move x, ty, pos, after, gd⟩ f H (.bool c) := by
  subst hb
  exact OpY.pure (by simp only [execOp, hx]; rfl)
end OpY
/-- The form of a slice of the list that has an element. -/
theorem Run.openOwn {E : Env} {k : List It} {f : Fr} {H : List Res} {v : Value} {e : TypeId} {size n : Nat} {xs : List Value} (hm : Res.own v e size n xs ∈ H) (hn : 0 < n)
    (h : ∀ g c, v = .slice (some ⟨g, 0, none⟩) n c → n ≤ c → c ≤ maxLen → Run E k f H) (hk : ∀ G i k', k ≠ .goal G :: k' ∧ k ≠ .block i :: k' ∧ k ≠ []) : Run E k f H := by
  have key : ∀ w, St E.M E.w0 w H → Run E k f H := by
    intro w hs
    have h1 : w.ownsRow 0 e size v n xs := hs.holds (.own v e size n xs) hm
    rcases h1.2 with ⟨_, h0⟩ | ⟨g, cap, cur, rfl, _, hg, h3, h4, _⟩
    · omega
    · exact h g cap rfl h3 h4
  match k, hk with
  | [], hk => exact absurd rfl (hk (fun _ _ => True) 0 []).2.2
  | .goal G :: k', hk => exact absurd rfl (hk G 0 k').1
  | .block i :: k', hk => exact absurd rfl (hk (fun _ _ => True) i k').2.1
  | .rounds c n :: k', _ => exact fun a w ha hs => key w hs a w ha hs
  | .ops ops l :: k', _ => exact fun a w ha hs => key w hs a w ha hs
  | .code c :: k', _ => exact fun a w ha hs => key w hs a w ha hs
/-- The form of a slice of the list, whatever its length. -/
theorem Run.formOwn {E : Env} {k : List It} {f : Fr} {H : List Res} {v : Value} {e : TypeId} {size n : Nat} {xs : List Value} (hm : Res.own v e size n xs ∈ H)
    (h : ∀ A c, v = .slice A n c → n ≤ c → c ≤ maxLen → Run E k f H) (hk : ∀ G i k', k ≠ .goal G :: k' ∧ k ≠ .block i :: k' ∧ k ≠ []) : Run E k f H := by
  have key : ∀ w, St E.M E.w0 w H → Run E k f H := by
    intro w hs
    obtain ⟨A, c, h1, h2, h3⟩ := (hs.slOwn hm).form0
    exact h A c h1 h2 h3
  match k, hk with
  | [], hk => exact absurd rfl (hk (fun _ _ => True) 0 []).2.2
  | .goal G :: k', hk => exact absurd rfl (hk G 0 k').1
  | .block i :: k', hk => exact absurd rfl (hk (fun _ _ => True) i k').2.1
  | .rounds c n :: k', _ => exact fun a w ha hs => key w hs a w ha hs
  | .ops ops l :: k', _ => exact fun a w ha hs => key w hs a w ha hs
  | .code c :: k', _ => exact fun a w ha hs => key w hs a w ha hs

theorem Same.put {D : List Nat} {f f' : Fr} {n : Nat} {o : Option Nat} {v : Value} (hd : (match o with | some d => D.contains d | none => true) = true) (h : Same D f f') : Same D f (putF n f' o v) := by
  cases o with
  | none => exact h
  | some d => exact Same.upd hd h
theorem Weak.nilOwn {H : List Res} (e : TypeId) (size : Nat) : Weak H (.own (.slice none 0 0) e size 0 [] :: H) := by
  intro M w0 w h
  refine ⟨h.os, h.tape, h.output, h.size, h.keep, ?_, ?_, ?_⟩
  · intro r hr
    rcases List.mem_cons.1 hr with rfl | hr
    · exact World.ownsRow_nil w 0 e size
    · exact h.holds r hr
  · intro r hr k hk hl
    rcases List.mem_cons.1 hr with rfl | hr
    · simp [Res.has, Value.ownBlock] at hk
    · exact h.fresh r hr k hk hl
  · refine List.pairwise_cons.2 ⟨fun r _ k hk => by simp [Res.has, Value.ownBlock] at hk, h.disj⟩

namespace OpY
variable {E : Env} {f : Fr} {H : List Res} {d : Option Tmp} {ty : TypeId} {pos : String} {after : Array Edge} {gd : Option (Nat × Bool)}
theorem mul {t t' : TypeId} {x y : Operand} {a b c : Int} (hx : f.eval x = .int .i64 a) (hy : f.eval y = .int .i64 b) (hc : a * b = c) (h0 : -9223372036854775808 ≤ c) (h1 : c ≤ 9223372036854775807) :
    OpY E ⟨d, .binOp .mul t x y t', ty, pos, after, gd⟩ f H (.int .i64 c) := by
  subst hc
  intro w _
  have : IntKind.i64.wrap (a * b) = a * b := by rw [IntKind.wrap_i64]; omega
  simp [execOp, hx, hy, eqGuard, binOp, Op.intArith, this]
theorem shr {t t' : TypeId} {x y : Operand} {a b : Int} {n : Nat} {k : IntKind} (hx : f.eval x = .int .i64 a) (hy : f.eval y = .int k b) (hn : b = (n : Int)) (h1 : n ≤ 64) :
    OpY E ⟨d, .binOp .shr t x y t', ty, pos, after, gd⟩ f H (.int .i64 (a >>> n)) := by
  subst hn
  intro w _
  have h3 : a / 2 ^ n = a >>> n := by rw [Int.shiftRight_eq_div_pow]; norm_cast
  simp only [execOp, hx, hy, eqGuard, binOp]
  rw [shift_shr .i64 k a n (by omega) (by simp only [IntKind.bits]; omega)]
  simp [h3]
theorem and1 {t t' : TypeId} {x y : Operand} {a : Int} (hx : f.eval x = .int .i64 a) (hy : f.eval y = .int .i64 1) :
    OpY E ⟨d, .binOp .and t x y t', ty, pos, after, gd⟩ f H (.int .i64 (a % 2)) := by
  intro w _
  have h : bits .and .i64 a 1 = a % 2 := by
    show IntKind.i64.wrap ((BitVec.ofInt 64 a &&& BitVec.ofInt 64 1).toNat : Int) = a % 2
    have e1 : (BitVec.ofInt 64 1).toNat = 1 := rfl
    rw [BitVec.toNat_and, e1, Nat.and_one_is_mod, BitVec.toNat_ofInt, IntKind.wrap_i64]
    omega
  simp [execOp, hx, hy, eqGuard, binOp, intBits_and, h]
theorem rem {t t' : TypeId} {x y : Operand} {a b : Int} (hx : f.eval x = .int .i64 a) (hy : f.eval y = .int .i64 b) (h0 : 0 ≤ a) (h1 : 0 < b) :
    OpY E ⟨d, .binOp .rem t x y t', ty, pos, after, gd⟩ f H (.int .i64 (a % b)) := by
  intro w _
  have hb : ¬ b = 0 := by omega
  have h : a.tmod b = a % b := Int.tmod_eq_emod_of_nonneg h0
  simp [execOp, hx, hy, eqGuard, binOp, Op.intDiv, hb, h]
theorem max {x y : Operand} {ats : Array TypeId} {a b : Int} (hx : f.eval x = .int .i64 a) (hy : f.eval y = .int .i64 b) :
    OpY E ⟨d, .call { callee := .builtin .max, args := #[x, y], argTypes := ats }, ty, pos, after, gd⟩ f H (.int .i64 (Max.max a b)) := by
  intro w _
  have h : (if b > a then b else a) = Max.max a b := by simp only [Int.max_def]; split <;> split <;> omega
  simp [execOp, resolve, invoke, builtin, hx, hy, Builtin.max_, Builtin.max2]
  exact h
theorem min {x y : Operand} {ats : Array TypeId} {a b : Int} (hx : f.eval x = .int .i64 a) (hy : f.eval y = .int .i64 b) :
    OpY E ⟨d, .call { callee := .builtin .min, args := #[x, y], argTypes := ats }, ty, pos, after, gd⟩ f H (.int .i64 (Min.min a b)) := by
  intro w _
  have h : (if b < a then b else a) = Min.min a b := by simp only [Int.min_def]; split <;> split <;> omega
  simp [execOp, resolve, invoke, builtin, hx, hy, Builtin.min_, Builtin.min2]
  exact h
theorem convIntEq {s t : TypeId} {x : Operand} {k k' : IntKind} {n m : Int} (hs : (E.P.underlying s).isSome = true) (ht : E.P.underlying t = some (.int k')) (hx : f.eval x = .int k n) (hm : k'.wrap n = m) :
    OpY E ⟨d, .convert s t x, ty, pos, after, gd⟩ f H (.int k' m) := by
  subst hm; exact convInt hs ht hx
theorem indexArr {t : TypeId} {x y : Operand} {b o n kk off : Nat} {k : IntKind} {i : Int} {size : Nat} (ht : arrayOf E.P t = some (n, size)) (hx : f.eval x = .pointer (some ⟨b, o, none⟩)) (hy : f.eval y = .int k i)
    (hi : i = (kk : Int)) (hlt : kk < n) (ho : o + kk * size = off) : OpY E ⟨d, .indexAddr t x y, ty, pos, after, gd⟩ f H (.pointer (some ⟨b, off, none⟩)) := by
  subst hi; subst ho
  have := indexAddrArr (E := E) (f := f) (H := H) (d := d) (ty := ty) (pos := pos) (after := after) (gd := gd) ht hx hy (by omega) (by omega)
  simpa using this
theorem eqBn {t t' : TypeId} {x y : Operand} {a b : Bool} (ht : E.P.underlying t = some .bool) (hx : f.eval x = .bool a) (hy : f.eval y = .bool b) :
    OpY E ⟨d, .binOp .neq t x y t', ty, pos, after, gd⟩ f H (.bool (a != b)) := by
  intro w _
  have h0 : ∀ d : Nat, (Op.equalIn (d + 1) t (.bool a) (.bool b)).run E.P w = .ok (a == b) w := fun d => by
    simp [Op.equalIn, run_underlying ht]
  have h : (Op.equal t (.bool a) (.bool b)).run E.P w = .ok (a == b) w := by
    simp [Op.equal, Op.maxDepth, h0 9999]
  simp [execOp, hx, hy, eqGuard, binOp, h, bne]
end OpY
theorem St.start1 {r : Res} {w : World} (h : r.holds w) : St (Of [r]) w w [r] := St.start (fun s hs => by simp only [List.mem_singleton] at hs; subst hs; exact h) (by simp)
namespace OpY
variable {E : Env} {f : Fr} {H : List Res} {d : Option Tmp} {ty : TypeId} {pos : String} {after : Array Edge} {gd : Option (Nat × Bool)}
theorem addW {t t' : TypeId} {x y : Operand} {a b c : Int} (hx : f.eval x = .int .i64 a) (hy : f.eval y = .int .i64 b) (hc : IntKind.i64.wrap (a + b) = c) :
    OpY E ⟨d, .binOp .add t x y t', ty, pos, after, gd⟩ f H (.int .i64 c) := by
  subst hc
  intro w _
  simp [execOp, hx, hy, eqGuard, binOp, Op.intArith]
theorem sliceHN {t : TypeId} {x y : Operand} {A : Option Addr} {n c h : Nat} {k : IntKind} {i : Int} {e : TypeId} {size : Nat} {z : Nat × List Value} (ht : sliceOf E.P t = some (e, size, z)) (hx : f.eval x = .slice A n c) (hy : f.eval y = .int k i) (hi : i = (h : Int)) (h1 : h ≤ c) :
    OpY E ⟨d, .slice t x none (some y) none, ty, pos, after, gd⟩ f H (.slice A h c) := by
  subst hi
  have := sliceH (E := E) (f := f) (H := H) (d := d) (ty := ty) (pos := pos) (after := after) (gd := gd) ht hx hy (by omega) (by omega)
  have e : sliced A 0 ((h : Int).toNat) c size = .slice A h c := by
    unfold sliced
    cases A with
    | none => simp
    | some a => simp [Addr.add]
  rw [e] at this; exact this
theorem neqSame {t t' : TypeId} {x y : Operand} {a b : Int} {k : IntKind} (hx : f.eval x = .int k a) (hy : f.eval y = .int k b) (h : a = b) :
    OpY E ⟨d, .binOp .neq t x y t', ty, pos, after, gd⟩ f H (.bool false) := by
  intro w _
  simp [execOp, hx, hy, eqGuard, binOp, Op.intCmp, h]
theorem neqBSame {t t' : TypeId} {x y : Operand} {a b : Bool} (ht : E.P.underlying t = some .bool) (hx : f.eval x = .bool a) (hy : f.eval y = .bool b) (h : a = b) :
    OpY E ⟨d, .binOp .neq t x y t', ty, pos, after, gd⟩ f H (.bool false) := by
  have := eqBn (E := E) (f := f) (H := H) (d := d) (t' := t') (ty := ty) (pos := pos) (after := after) (gd := gd) ht hx hy
  subst h; simpa using this
end OpY
/-- The fields are numbers, each in its own cell. -/
def numFields (P : Program) : List Field → Nat → Bool
  | [], _ => true
  | f :: fs, i => f.name != "_" && f.offset == i && (match P.underlying f.type with | some (.int .i64) => true | _ => false) && numFields P fs (i + 1)
def numStruct (P : Program) (t : TypeId) (k : Nat) : Bool := match P.underlying t with
  | some (.struct fs) => numFields P fs.toList 0 && fs.size == k && !P.stoodInHeld t && !P.eqGuardType P.depth t
  | _ => false
theorem eqFields_num {P : Program} {d : Nat} {xs ys : List Int} (w : World) : ∀ (fs : List Field) (i : Nat), numFields P fs i = true → xs.length = i + fs.length → ys.length = i + fs.length →
    (Op.eqFields (d + 1) (xs.map (Value.int .i64)).toArray (ys.map (Value.int .i64)).toArray fs).run P w = .ok (decide (xs.drop i = ys.drop i)) w
  | [], i, _, hx, hy => by
    simp only [List.length_nil, Nat.add_zero] at hx hy
    rw [Op.eqFields, List.drop_of_length_le (by omega), List.drop_of_length_le (by omega)]
    rfl
  | f :: fs, i, h, hx, hy => by
    simp only [numFields, Bool.and_eq_true] at h
    simp only [List.length_cons] at hx hy
    obtain ⟨⟨⟨hn, ho⟩, hu⟩, hf⟩ := h
    have hn' : f.name ≠ "_" := by simpa using hn
    have ho' : f.offset = i := by simpa using ho
    have hu' : P.underlying f.type = some (.int .i64) := by
      split at hu
      · assumption
      · cases hu
    have ih := eqFields_num (P := P) (d := d) (xs := xs) (ys := ys) w fs (i + 1) hf (by omega) (by omega)
    have px : (part f.type (xs.map (Value.int .i64)).toArray f.offset).run P w = .ok (.int .i64 (xs[i]'(by omega))) w := by
      have : (xs.map (Value.int .i64)).toArray[f.offset]? = some (.int .i64 (xs[i]'(by omega))) := by rw [ho']; simp
      simp [part, isAgg, run_underlying hu', this]
    have py : (part f.type (ys.map (Value.int .i64)).toArray f.offset).run P w = .ok (.int .i64 (ys[i]'(by omega))) w := by
      have : (ys.map (Value.int .i64)).toArray[f.offset]? = some (.int .i64 (ys[i]'(by omega))) := by rw [ho']; simp
      simp [part, isAgg, run_underlying hu', this]
    have dx : xs.drop i = xs[i]'(by omega) :: xs.drop (i + 1) := List.drop_eq_getElem_cons (by omega)
    have dy : ys.drop i = ys[i]'(by omega) :: ys.drop (i + 1) := List.drop_eq_getElem_cons (by omega)
    rw [Op.eqFields, if_pos hn', dx, dy]
    simp only [Sem.run_bind, px, py, Result.andThen_ok, run_equalIn_int w d f.type .i64 .i64 _ _ hu']
    generalize (xs[i]'(by omega)) = a
    generalize (ys[i]'(by omega)) = b
    by_cases hxy : a = b
    · simp [hxy, ih]
    · simp [hxy]
theorem OpY.neStruct {E : Env} {f : Fr} {H : List Res} {d : Option Tmp} {ty : TypeId} {pos : String} {after : Array Edge} {gd : Option (Nat × Bool)} {t t' : TypeId} {x y : Operand} {xs ys : List Int} {k : Nat} (ht : numStruct E.P t k = true)
    (hx : f.eval x = .agg (xs.map (Value.int .i64)).toArray) (hy : f.eval y = .agg (ys.map (Value.int .i64)).toArray) (hxl : xs.length = k) (hyl : ys.length = k) : OpY E ⟨d, .binOp .neq t x y t', ty, pos, after, gd⟩ f H (.bool (!decide (xs = ys))) := by
  intro w _
  unfold numStruct at ht
  split at ht
  · rename_i fs hu
    simp only [Bool.and_eq_true, beq_iff_eq, Bool.not_eq_true'] at ht
    obtain ⟨⟨⟨h1, h2⟩, h3⟩, h6⟩ := ht
    have hfs : E.P.fieldsOf t = fs := by simp [Program.fieldsOf, hu]
    have h := run_equalIn_struct (P := E.P) w 9999 t (xs.map (Value.int .i64)).toArray (ys.map (Value.int .i64)).toArray (by rw [hfs]; exact hu) h3
    have h4 := eqFields_num (P := E.P) (d := 9998) (xs := xs) (ys := ys) w fs.toList 0 h1 (by simp [hxl, h2]) (by simp [hyl, h2])
    rw [hfs, h4] at h
    have h5 : (Op.equal t (.agg (xs.map (Value.int .i64)).toArray) (.agg (ys.map (Value.int .i64)).toArray)).run E.P w = .ok (decide (xs = ys)) w := by
      simpa [Op.equal, Op.maxDepth] using h
    simp only [execOp, hx, hy, eqGuard, binOp]
    simp [h5, h6]
  · cases ht
/-- A block of the list, as a slice of one element. -/
theorem St.slBlk {M : Nat → Prop} {w0 w : World} {H : List Res} {b : Nat} {t : TypeId} {cs : List Value} (hs : St M w0 w H) (hm : Res.blk b t cs ∈ H) : Sl w (.slice (some ⟨b, 0, none⟩) 1 1) cs.length 1 cs := by
  refine ⟨by omega, some ⟨b, 0, none⟩, 1, rfl, Nat.le_refl _, by simp [maxLen], fun _ => ⟨b, 0, rfl, ?_, ?_⟩⟩
  · have h1 : w.heap[b]? = some (.cells cs.toArray t (0, 0)) := hs.holds (.blk b t cs) hm
    exact (Array.getElem?_eq_some_iff.1 h1).1
  · intro j v hv
    rw [Nat.zero_add, hs.cell_blk hm]; exact hv
theorem OpStep.storeInt {E : Env} {f : Fr} {H : List Res} {d : Option Tmp} {ty : TypeId} {pos : String} {after : Array Edge} {gd : Option (Nat × Bool)} {K : Fr → List Res → Prop} {t : TypeId} {x y : Operand} {b o : Nat} {e : TypeId} {xs : List Value} {a : Int} {H' : List Res} (ht : (E.P.info? t).map (·.size) = some 1) (hx : f.eval x = .pointer (some ⟨b, o, none⟩)) (hy : f.eval y = .int .i64 a)
    (hH : Turn (.blk b e xs) (.blk b e (xs.set o (.int .i64 a))) H H') (hfit : o < xs.length) (hk : K (putF E.n f d undef) H') :
    OpStep E ⟨d, .store t x y, ty, pos, after, gd⟩ f H K :=
  OpStep.store (us := [.int .i64 a]) (cs := xs) ht hx (by rw [hy]; rfl) rfl hH (by simp only [List.length_cons, List.length_nil]; omega) hk
theorem Cells.env {E : Env} {H : List Res} {b o n c size : Nat} {xs ys : List Value} {k : Nat} (h : Sl E.w0 (.slice (some ⟨b, 0, none⟩) n c) size n xs) (hM : E.M = No) (hn : 0 < n) (hp : Pre xs k ys) (ho : k = o := by rfl) : Cells E H b o ys := by
  subst ho
  have h1 := Cells.arg (H := H) h hM hn hp
  rwa [Nat.zero_add] at h1
theorem OpY.makeFunc {E : Env} {f : Fr} {H : List Res} {d : Option Tmp} {ty : TypeId} {pos : String} {after : Array Edge} {gd : Option (Nat × Bool)} {g : FuncId} {captured : Array Operand} {caps : List Value} (hc : captured.toList.map f.eval = caps) :
    OpY E ⟨d, .makeFunc (.func g) #[] captured, ty, pos, after, gd⟩ f H (.func (.func g) #[] caps.toArray) := by
  intro w _
  have h : captured.map f.eval = caps.toArray := by subst hc; apply Array.ext'; simp
  simp [execOp, Instr.makeFunc, h]
/-- The form of a slice of the list, in a region that draws its order. -/
theorem DW.formOwn {E : Env} {ops : Array Oper} {base : List Res} {k : List It} {fuel : Nat} {listed : Array Bool} {f : Fr} {H : List Res} {v : Value} {e : TypeId} {size n : Nat} {xs : List Value} (hm : Res.own v e size n xs ∈ H)
    (h : ∀ A c, v = .slice A n c → n ≤ c → c ≤ maxLen → DW E ops base k fuel listed f H) : DW E ops base k fuel listed f H := by
  intro a w ha hs
  obtain ⟨A, c, h1, h2, h3⟩ := (hs.slOwn hm).form0
  exact h A c h1 h2 h3 a w ha hs
theorem DW.openOwn {E : Env} {ops : Array Oper} {base : List Res} {k : List It} {fuel : Nat} {listed : Array Bool} {f : Fr} {H : List Res} {v : Value} {e : TypeId} {size n : Nat} {xs : List Value} (hm : Res.own v e size n xs ∈ H) (hn : 0 < n)
    (h : ∀ g c, v = .slice (some ⟨g, 0, none⟩) n c → n ≤ c → c ≤ maxLen → DW E ops base k fuel listed f H) : DW E ops base k fuel listed f H := by
  intro a w ha hs
  have h1 : w.ownsRow 0 e size v n xs := hs.holds (.own v e size n xs) hm
  rcases h1.2 with ⟨_, h0⟩ | ⟨g, cap, cur, rfl, _, hg, h3, h4, _⟩
  · omega
  · exact h g cap rfl h3 h4 a w ha hs
theorem DL.formOwn {E : Env} {ops : Array Oper} {Z : List Nat} {base : List Res} {k : List It} {fuel : Nat} {listed : Array Bool} {f : Fr} {H : List Res} {v : Value} {e : TypeId} {size n : Nat} {xs : List Value} (hm : Res.own v e size n xs ∈ H)
    (h : ∀ A c, v = .slice A n c → n ≤ c → c ≤ maxLen → DL E ops Z base k fuel listed f H) : DL E ops Z base k fuel listed f H := by
  intro a w ha hs
  obtain ⟨A, c, h1, h2, h3⟩ := (hs.slOwn hm).form0
  exact h A c h1 h2 h3 a w ha hs
theorem DL.openOwn {E : Env} {ops : Array Oper} {Z : List Nat} {base : List Res} {k : List It} {fuel : Nat} {listed : Array Bool} {f : Fr} {H : List Res} {v : Value} {e : TypeId} {size n : Nat} {xs : List Value} (hm : Res.own v e size n xs ∈ H) (hn : 0 < n)
    (h : ∀ g c, v = .slice (some ⟨g, 0, none⟩) n c → n ≤ c → c ≤ maxLen → DL E ops Z base k fuel listed f H) : DL E ops Z base k fuel listed f H := by
  intro a w ha hs
  have h1 : w.ownsRow 0 e size v n xs := hs.holds (.own v e size n xs) hm
  rcases h1.2 with ⟨_, h0⟩ | ⟨g, cap, cur, rfl, _, hg, h3, h4, _⟩
  · omega
  · exact h g cap rfl h3 h4 a w ha hs
namespace OpY
variable {E : Env} {f : Fr} {H : List Res} {d : Option Tmp} {ty : TypeId} {pos : String} {after : Array Edge} {gd : Option (Nat × Bool)}
theorem and {t t' : TypeId} {x y : Operand} {a b : Int} {k : IntKind} (hx : f.eval x = .int k a) (hy : f.eval y = .int k b) : OpY E ⟨d, .binOp .and t x y t', ty, pos, after, gd⟩ f H (.int k (bits .and k a b)) := by
  intro w _
  simp [execOp, hx, hy, eqGuard, binOp, intBits_and]
theorem or {t t' : TypeId} {x y : Operand} {a b : Int} {k : IntKind} (hx : f.eval x = .int k a) (hy : f.eval y = .int k b) : OpY E ⟨d, .binOp .or t x y t', ty, pos, after, gd⟩ f H (.int k (bits .or k a b)) := by
  intro w _
  simp [execOp, hx, hy, eqGuard, binOp, intBits_or]
theorem xor {t t' : TypeId} {x y : Operand} {a b : Int} {k : IntKind} (hx : f.eval x = .int k a) (hy : f.eval y = .int k b) : OpY E ⟨d, .binOp .xor t x y t', ty, pos, after, gd⟩ f H (.int k (bits .xor k a b)) := by
  intro w _
  simp [execOp, hx, hy, eqGuard, binOp, intBits_xor]
theorem andNot {t t' : TypeId} {x y : Operand} {a b : Int} {k : IntKind} (hx : f.eval x = .int k a) (hy : f.eval y = .int k b) : OpY E ⟨d, .binOp .andNot t x y t', ty, pos, after, gd⟩ f H (.int k (bits .andNot k a b)) := by
  intro w _
  simp [execOp, hx, hy, eqGuard, binOp, intBits_andNot]
theorem shl {t t' : TypeId} {x y : Operand} {a b c : Int} {n : Nat} {k : IntKind} (hx : f.eval x = .int .i64 a) (hy : f.eval y = .int k b) (hn : b = (n : Int)) (h1 : n ≤ 64) (hc : a * 2 ^ n = c) (h0 : -9223372036854775808 ≤ c) (h2 : c ≤ 9223372036854775807) :
    OpY E ⟨d, .binOp .shl t x y t', ty, pos, after, gd⟩ f H (.int .i64 c) := by
  subst hn
  intro w _
  have h3 : IntKind.i64.wrap (a * 2 ^ n) = c := by rw [hc, IntKind.wrap_i64]; omega
  simp only [execOp, hx, hy, eqGuard, binOp]
  rw [shift_shl .i64 k a n (by omega) (by simp only [IntKind.bits]; omega)]
  simp [h3]
theorem cap {t : TypeId} {x : Operand} {A : Option Addr} {n c : Nat} {e : TypeId} {z : Nat × Nat × List Value} (ht : sliceOf E.P t = some (e, z)) (hx : f.eval x = .slice A n c) :
    OpY E ⟨d, .call { callee := .builtin .cap, args := #[x], argTypes := #[t] }, ty, pos, after, gd⟩ f H (.int .i64 c) := by
  intro w _
  obtain ⟨hu, _⟩ := sliceOf_spec ht
  simp [execOp, resolve, invoke, builtin, hx, Builtin.cap_, run_underlying hu, goInt]
end OpY
theorem OpY.eqNilSome {E : Env} {f : Fr} {H : List Res} {d : Option Tmp} {ty : TypeId} {pos : String} {after : Array Edge} {gd : Option (Nat × Bool)} {t t' : TypeId} {x y : Operand} {a : Addr} {n c : Nat} {e : TypeId} {z : Nat × Nat × List Value} (ht : sliceOf E.P t = some (e, z)) (hx : f.eval x = .slice (some a) n c) (hy : f.eval y = .slice none 0 0) :
    OpY E ⟨d, .binOp .eql t x y t', ty, pos, after, gd⟩ f H (.bool false) := by
  intro w hs
  obtain ⟨hu, _⟩ := sliceOf_spec ht
  have h0 : ∀ d : Nat, (Op.equalIn (d + 1) t (.slice (some a) n c) (.slice none 0 0)).run E.P w = .ok false w := fun d => by simp [Op.equalIn, run_underlying hu]
  have h : (Op.equal t (.slice (some a) n c) (.slice none 0 0)).run E.P w = .ok false w := by simp [Op.equal, Op.maxDepth, h0 9999]
  simp [execOp, hx, hy, eqGuard, binOp, h]
theorem OpY.eqNilNil {E : Env} {f : Fr} {H : List Res} {d : Option Tmp} {ty : TypeId} {pos : String} {after : Array Edge} {gd : Option (Nat × Bool)} {t t' : TypeId} {x y : Operand} {n c : Nat} {e : TypeId} {z : Nat × Nat × List Value} (ht : sliceOf E.P t = some (e, z)) (hx : f.eval x = .slice none n c) (hy : f.eval y = .slice none 0 0) :
    OpY E ⟨d, .binOp .eql t x y t', ty, pos, after, gd⟩ f H (.bool true) := by
  intro w hs
  obtain ⟨hu, _⟩ := sliceOf_spec ht
  have h0 : ∀ d : Nat, (Op.equalIn (d + 1) t (.slice none n c) (.slice none 0 0)).run E.P w = .ok true w := fun d => by simp [Op.equalIn, run_underlying hu]
  have h : (Op.equal t (.slice none n c) (.slice none 0 0)).run E.P w = .ok true w := by simp [Op.equal, Op.maxDepth, h0 9999]
  simp [execOp, hx, hy, eqGuard, binOp, h]
namespace OpY
variable {E : Env} {f : Fr} {H : List Res} {d : Option Tmp} {ty : TypeId} {pos : String} {after : Array Edge} {gd : Option (Nat × Bool)}
theorem shrU {t t' : TypeId} {x y : Operand} {a b : Int} {n : Nat} {k : IntKind} (hx : f.eval x = .int .u64 a) (hy : f.eval y = .int k b) (hn : b = (n : Int)) (h1 : n ≤ 64) :
    OpY E ⟨d, .binOp .shr t x y t', ty, pos, after, gd⟩ f H (.int .u64 (a >>> n)) := by
  subst hn
  intro w _
  have h3 : a / 2 ^ n = a >>> n := by rw [Int.shiftRight_eq_div_pow]; norm_cast
  simp only [execOp, hx, hy, eqGuard, binOp]
  rw [shift_shr .u64 k a n (by omega) (by simp only [IntKind.bits]; omega)]
  simp [h3]
theorem addU {t t' : TypeId} {x y : Operand} {a b : Int} (hx : f.eval x = .int .u64 a) (hy : f.eval y = .int .u64 b) :
    OpY E ⟨d, .binOp .add t x y t', ty, pos, after, gd⟩ f H (.int .u64 (IntKind.u64.wrap (a + b))) := by
  intro w _
  simp [execOp, hx, hy, eqGuard, binOp, Op.intArith]
end OpY
theorem OpY.run {E : Env} {o : Oper} {f : Fr} {H : List Res} {v : Value} (h : ∀ w, (execOp f.eval o).run E.P w = .ok (.value v) w) : OpY E o f H v := fun w _ => h w
/-! Groups of slices. -/
theorem Weak.grpNil {H : List Res} (e : TypeId) (size : Nat) : Weak H (.grp e size [] :: H) := by
  intro M w0 w h
  refine ⟨h.os, h.tape, h.output, h.size, h.keep, ?_, ?_, List.pairwise_cons.2 ⟨?_, h.disj⟩⟩
  · intro r hr
    rcases List.mem_cons.1 hr with rfl | hr
    · exact ⟨(fun p hp => nomatch hp), List.Pairwise.nil⟩
    · exact h.holds r hr
  · intro r hr k hk hl
    rcases List.mem_cons.1 hr with rfl | hr
    · obtain ⟨p, hp, _⟩ := hk; nomatch hp
    · exact h.fresh r hr k hk hl
  · rintro r _ k ⟨p, hp, _⟩; nomatch hp
theorem Weak.grpIn {H : List Res} {e : TypeId} {size : Nat} {v : Value} {n : Nat} {xs : List Value} {l : List (Value × Nat × List Value)} : Weak (.own v e size n xs :: .grp e size l :: H) (.grp e size ((v, n, xs) :: l) :: H) := by
  intro M w0 w h
  have hd := List.pairwise_cons.1 h.disj
  have hd2 := List.pairwise_cons.1 hd.2
  have h1 := h.holds (.own v e size n xs) (.head _)
  have h2 := h.holds (.grp e size l) (.tail _ (.head _))
  refine ⟨h.os, h.tape, h.output, h.size, h.keep, ?_, ?_, List.pairwise_cons.2 ⟨?_, hd2.2⟩⟩
  · intro r hr
    rcases List.mem_cons.1 hr with rfl | hr
    · refine ⟨fun p hp => ?_, List.pairwise_cons.2 ⟨fun q hq k hk hk2 => ?_, h2.2⟩⟩
      · rcases List.mem_cons.1 hp with rfl | hp
        · exact h1
        · exact h2.1 p hp
      · exact hd.1 (.grp e size l) (.head _) k hk ⟨q, hq, hk2⟩
    · exact h.holds r (.tail _ (.tail _ hr))
  · intro r hr k hk hl
    rcases List.mem_cons.1 hr with rfl | hr
    · obtain ⟨p, hp, hpk⟩ := hk
      rcases List.mem_cons.1 hp with rfl | hp
      · exact h.fresh (.own v e size n xs) (.head _) k hpk hl
      · exact h.fresh (.grp e size l) (.tail _ (.head _)) k ⟨p, hp, hpk⟩ hl
    · exact h.fresh r (.tail _ (.tail _ hr)) k hk hl
  · rintro r hr k ⟨p, hp, hpk⟩ hrk
    rcases List.mem_cons.1 hp with rfl | hp
    · exact hd.1 r (.tail _ hr) k hpk hrk
    · exact hd2.1 r hr k ⟨p, hp, hpk⟩ hrk
theorem Weak.grpOut {H : List Res} {e : TypeId} {size : Nat} {v : Value} {n : Nat} {xs : List Value} {l : List (Value × Nat × List Value)} : Weak (.grp e size ((v, n, xs) :: l) :: H) (.own v e size n xs :: .grp e size l :: H) := by
  intro M w0 w h
  have hd := List.pairwise_cons.1 h.disj
  have h1 := h.holds (.grp e size ((v, n, xs) :: l)) (.head _)
  have hp := List.pairwise_cons.1 h1.2
  refine ⟨h.os, h.tape, h.output, h.size, h.keep, ?_, ?_, List.pairwise_cons.2 ⟨?_, List.pairwise_cons.2 ⟨?_, hd.2⟩⟩⟩
  · intro r hr
    rcases List.mem_cons.1 hr with rfl | hr
    · exact h1.1 (v, n, xs) (.head _)
    · rcases List.mem_cons.1 hr with rfl | hr
      · exact ⟨fun p hp => h1.1 p (.tail _ hp), hp.2⟩
      · exact h.holds r (.tail _ hr)
  · intro r hr k hk hl
    rcases List.mem_cons.1 hr with rfl | hr
    · exact h.fresh _ (.head _) k ⟨(v, n, xs), .head _, hk⟩ hl
    · rcases List.mem_cons.1 hr with rfl | hr
      · obtain ⟨p, hp, hpk⟩ := hk
        exact h.fresh _ (.head _) k ⟨p, .tail _ hp, hpk⟩ hl
      · exact h.fresh r (.tail _ hr) k hk hl
  · intro r hr k hk hrk
    rcases List.mem_cons.1 hr with rfl | hr
    · obtain ⟨q, hq, hqk⟩ := hrk
      exact hp.1 q hq k hk hqk
    · exact hd.1 r hr k ⟨(v, n, xs), .head _, hk⟩ hrk
  · rintro r hr k ⟨q, hq, hqk⟩ hrk
    exact hd.1 r hr k ⟨q, .tail _ hq, hqk⟩ hrk
theorem Weak.grpPerm {H : List Res} {e : TypeId} {size : Nat} {l l' : List (Value × Nat × List Value)} (hl : l.Perm l') : Weak (.grp e size l :: H) (.grp e size l' :: H) := by
  intro M w0 w h
  have hd := List.pairwise_cons.1 h.disj
  have h1 := h.holds (.grp e size l) (.head _)
  refine ⟨h.os, h.tape, h.output, h.size, h.keep, ?_, ?_, List.pairwise_cons.2 ⟨?_, hd.2⟩⟩
  · intro r hr
    rcases List.mem_cons.1 hr with rfl | hr
    · exact ⟨fun p hp => h1.1 p (hl.mem_iff.2 hp), hl.pairwise h1.2 fun hxy k hk hk' => hxy k hk' hk⟩
    · exact h.holds r (.tail _ hr)
  · intro r hr k hk hl2
    rcases List.mem_cons.1 hr with rfl | hr
    · obtain ⟨p, hp, hpk⟩ := hk
      exact h.fresh _ (.head _) k ⟨p, hl.mem_iff.2 hp, hpk⟩ hl2
    · exact h.fresh r (.tail _ hr) k hk hl2
  · rintro r hr k ⟨q, hq, hqk⟩ hrk
    exact hd.1 r hr k ⟨q, hl.mem_iff.2 hq, hqk⟩ hrk
/-- The front of a slice that the list owns. -/
theorem Weak.ownTake {H : List Res} {A : Option Addr} {c m n : Nat} {e : TypeId} {size : Nat} {xs : List Value} (hm : m ≤ n) : Weak (.own (.slice A n c) e size n xs :: H) (.own (.slice A m c) e size m (xs.take (m * size)) :: H) := by
  intro M w0 w h
  have h1 : w.ownsRow 0 e size (.slice A n c) n xs := h.holds (.own (.slice A n c) e size n xs) (by simp)
  refine St.turn h rfl rfl rfl (Nat.le_refl _) (fun _ _ _ => rfl) ?_ (fun k hk => .inl ?_)
  · have hle : m * size ≤ n * size := Nat.mul_le_mul_right _ hm
    refine ⟨by rw [List.length_take, h1.1]; omega, ?_⟩
    rcases h1.2 with ⟨hv, hn⟩ | ⟨g, cap, cur, hv, h0, hg, h3, h4, h5, h6⟩
    · injection hv with e1 e2 e3
      subst e1; subst e3
      have : m = 0 := by omega
      subst this; exact .inl ⟨rfl, rfl⟩
    · injection hv with e1 e2 e3
      subst e1; subst e3
      exact .inr ⟨g, c, cur, rfl, h0, hg, by omega, h4, h5, by rw [← h6, List.take_take]; congr 1; omega⟩
  · cases A with
    | none => simp [Res.has, Value.ownBlock] at hk
    | some a => simpa [Res.has, Value.ownBlock] using hk
section
variable {E : Env} {f : Fr} {H : List Res} {d : Option Tmp} {ty : TypeId} {pos : String} {after : Array Edge} {gd : Option (Nat × Bool)}
theorem OpY.nilCheck {x : Operand} {a : Addr} (hx : f.eval x = .pointer (some a)) : OpY E ⟨d, .nilCheck x, ty, pos, after, gd⟩ f H (.pointer (some a)) := by
  intro w _
  simp [execOp, hx]
theorem OpY.mulU {t t' : TypeId} {x y : Operand} {a b : Int} (hx : f.eval x = .int .u64 a) (hy : f.eval y = .int .u64 b) :
    OpY E ⟨d, .binOp .mul t x y t', ty, pos, after, gd⟩ f H (.int .u64 (IntKind.u64.wrap (a * b))) := by
  intro w _
  simp [execOp, hx, hy, eqGuard, binOp, Op.intArith]
end
theorem OpY.quo {E : Env} {f : Fr} {H : List Res} {d : Option Tmp} {ty : TypeId} {pos : String} {after : Array Edge} {gd : Option (Nat × Bool)} {t t' : TypeId} {x y : Operand} {a b : Int} (hx : f.eval x = .int .i64 a) (hy : f.eval y = .int .i64 b) (h0 : 0 ≤ a) (h2 : a ≤ 9223372036854775807) (h1 : 0 < b) :
    OpY E ⟨d, .binOp .quo t x y t', ty, pos, after, gd⟩ f H (.int .i64 (a / b)) := by
  intro w _
  have e : a.tdiv b = a / b := Int.tdiv_eq_ediv_of_nonneg h0
  have e2 : IntKind.i64.wrap (a / b) = a / b := by
    have h3 : 0 ≤ a / b := Int.ediv_nonneg h0 (by omega)
    have h4 : a / b ≤ a := Int.ediv_le_self b h0
    rw [IntKind.wrap_i64]; omega
  have hb : ¬ b = 0 := by omega
  simp [execOp, hx, hy, eqGuard, binOp, Op.intDiv, hb, e, e2]
/-- What was there and may not turn can still be read. -/
theorem St.slOff {M : Nat → Prop} {w0 w : World} {H : List Res} {v : Value} {size n : Nat} {xs : List Value} (hs : St M w0 w H) (h : Sl w0 v size n xs) (hoff : 0 < n → ∀ k, v.ownBlock = some k → ¬ M k) : Sl w v size n xs := by
  obtain ⟨h1, A, c, rfl, h2, h3, h4⟩ := h
  refine ⟨h1, A, c, rfl, h2, h3, fun h0 => ?_⟩
  obtain ⟨b, o, rfl, hb, hr⟩ := h4 h0
  have hk := hs.keep b hb (hoff h0 b rfl)
  refine ⟨b, o, rfl, Nat.lt_of_lt_of_le hb hs.size, fun j u hu => ?_⟩
  have := hr j u hu
  unfold World.cell? at this ⊢
  rw [hk]; exact this
end Go.Proofs.Yteehfidjofcfmaa
/- Plain functions on numbers and lists that the walks speak of. -/
set_option linter.unusedSimpArgs false
set_option linter.unusedVariables false
namespace Go.Proofs.Yteehfidjofcfmaa
open Go Go.RowKit
/-- What the conditions of the code say, in one name. -/
theorem bs : (∀ {p : Prop} [inst : Decidable p], (decide p = true) = p) ∧
  (∀ {p : Prop} {x : Decidable p}, decide p = false ↔ ¬p) ∧
  (∀ {α : Type} [inst : BEq α] [LawfulBEq α] {a b : α}, (a == b) = true ↔ a = b) ∧
  (∀ {α : Type} [inst : BEq α] [LawfulBEq α] {a b : α}, (a != b) = true ↔ a ≠ b) ∧
  (∀ {α : Type} [inst : BEq α] [LawfulBEq α] {a b : α}, (a == b) = false ↔ a ≠ b) ∧
  (∀ {α : Type} (a b : α), (a ≠ b) = ¬a = b) ∧
  (∀ {α : Type} [inst : LT α] {x y : α}, x > y ↔ y < x) ∧
  (∀ {α : Type} [inst : LE α] {x y : α}, x ≥ y ↔ y ≤ x) ∧
  (∀ {a b : Int}, ¬a < b ↔ b ≤ a) ∧
  (∀ {a b : Int}, ¬a ≤ b ↔ b < a) ∧
  (∀ {α : Type} [inst : BEq α] [LawfulBEq α] {a b : α}, (a != b) = false ↔ a = b) ∧
  (∀ (b : Bool), ((!b) = true) = (b = false)) ∧
  (∀ (b : Bool), ((!b) = false) = (b = true)) ∧
  (∀ (a b : Bool), ((a && b) = true) = (a = true ∧ b = true)) ∧
  (∀ {x y : Bool}, (x && y) = false ↔ x = false ∨ y = false) ∧
  (∀ (a b : Bool), ((a || b) = true) = (a = true ∨ b = true)) ∧
  (∀ {x y : Bool}, (x || y) = false ↔ x = false ∧ y = false) ∧
  (∀ {p : Prop} [Decidable p], ¬¬p ↔ p) ∧
  (∀ {α : Type} (head : α) (tail : List α) (head_1 : α) (tail_1 : List α), (head :: tail = head_1 :: tail_1) = (head = head_1 ∧ tail = tail_1)) ∧
  ∀ (p : Prop), (p ∧ True) = p :=
  And.intro @decide_eq_true_eq (And.intro @decide_eq_false_iff_not (And.intro @beq_iff_eq.{0} (And.intro @bne_iff_ne.{0} (And.intro @beq_eq_false_iff_ne.{0} (And.intro @ne_eq (And.intro @gt_iff_lt.{0} (And.intro @ge_iff_le.{0} (And.intro @Int.not_lt (And.intro @Int.not_le (And.intro @bne_eq_false_iff_eq.{0} (And.intro @Bool.not_eq_true' (And.intro @Bool.not_eq_false' (And.intro @Bool.and_eq_true (And.intro @Bool.and_eq_false_iff (And.intro @Bool.or_eq_true (And.intro @Bool.or_eq_false_iff (And.intro @Decidable.not_not (And.intro @List.cons.injEq.{0} and_true))))))))))))))))))
/-- A number lies in a range. -/
def within (x lo hi : Int) : Bool := decide (lo ≤ x) && decide (x ≤ hi)
theorem within_iff {x lo hi : Int} : within x lo hi = true ↔ lo ≤ x ∧ x ≤ hi := by simp [within]

/-- A number of 64 bits. -/
def In64 (x : Int) : Prop := -9223372036854775808 ≤ x ∧ x ≤ 9223372036854775807

/-- A list of numbers as cells. -/
def ints (xs : List Int) : List Value := xs.map (Value.int .i64)
def ix (xs : List Int) (i : Nat) : Int := xs.getD i 0
theorem ints_get {xs : List Int} {i : Nat} (h : i < xs.length) : (ints xs)[i]? = some (.int .i64 (ix xs i)) := by
  simp [ints, ix, List.getD, h]
@[simp] theorem ints_length (xs : List Int) : (ints xs).length = xs.length := by simp [ints]
theorem ints_append (xs ys : List Int) : ints (xs ++ ys) = ints xs ++ ints ys := by simp [ints]
theorem ints_set (xs : List Int) (o : Nat) (a : Int) : spl (ints xs) o [.int .i64 a] = ints (xs.set o a) := by
  simp [spl, ints, List.map_set]
theorem pre1 {xs : List Int} {o : Nat} (h : o < xs.length) : Pre (ints xs) o [.int .i64 (ix xs o)] := ⟨ints_get h, trivial⟩
theorem pre3 {xs : List Int} {o : Nat} (h : o + 2 < xs.length) : Pre (ints xs) o [.int .i64 (ix xs o), .int .i64 (ix xs (o + 1)), .int .i64 (ix xs (o + 2))] := ⟨ints_get (by omega), ints_get (by omega), ints_get h, trivial⟩
theorem ints_all (xs : List Int) : (ints xs).all (·.oneCell') = true := by simp [ints, Value.oneCell']

/-- The numbers k, k + 1, .. -/
def mks (k : Int) (m : Nat) : List Int := (List.range m).map fun j : Nat => k + (j : Int)
@[simp] theorem mks_length (k : Int) (m : Nat) : (mks k m).length = m := by simp [mks]
/-- A list whose first m numbers are written over so. -/
def marked (k : Int) (m : Nat) (xs : List Int) : List Int := (List.range xs.length).map fun j : Nat => if j < m then k + (j : Int) else ix xs j
@[simp] theorem marked_length (k : Int) (m : Nat) (xs : List Int) : (marked k m xs).length = xs.length := by simp [marked]
theorem Sl.opn {w : World} {A : Option Addr} {size n c : Nat} {xs : List Value} (h : Sl w (.slice A n c) size n xs) (hn : 0 < n) : ∃ b o, A = some ⟨b, o, none⟩ := by
  obtain ⟨b, o, c', he, _, _⟩ := h.form hn
  injection he with h1
  exact ⟨b, o, h1⟩
theorem Sl.len {w : World} {v : Value} {size n : Nat} {xs : List Int} (h : Sl w v size n (ints xs)) : xs.length = n * size := by simpa using h.1
theorem Sl.le {w : World} {v : Value} {size n : Nat} {xs : List Value} (h : Sl w v size n xs) : n ≤ 9223372036854775807 := by
  obtain ⟨A, c, rfl, h1, h2⟩ := h.form0
  simp only [maxLen] at h2; omega

theorem OpStep.storeOwnInt {E : Env} {f : Fr} {H : List Res} {d : Option Tmp} {ty : TypeId} {pos : String} {after : Array Edge} {gd : Option (Nat × Bool)} {K : Fr → List Res → Prop} {t : TypeId} {x y : Operand} {g cap n m o : Nat} {e : TypeId} {size : Nat} {xs : List Int} {a : Int} {H' : List Res} (ht : (E.P.info? t).map (·.size) = some 1) (hx : f.eval x = .pointer (some ⟨g, o, none⟩)) (hy : f.eval y = .int .i64 a)
    (hH : Turn (.own (.slice (some ⟨g, 0, none⟩) m cap) e size n (ints xs)) (.own (.slice (some ⟨g, 0, none⟩) m cap) e size n (ints (xs.set o a))) H H') (hfit : o < n * size) (hk : K (putF E.n f d undef) H') :
    OpStep E ⟨d, .store t x y, ty, pos, after, gd⟩ f H K := by
  refine OpStep.storeOwn (us := [.int .i64 a]) (cs := ints xs) ht hx rfl (by rw [hy]; rfl) rfl (by rw [ints_set]; exact hH) (by simp only [List.length_cons, List.length_nil]; omega) hk

theorem OpStep.storeInts {E : Env} {f : Fr} {H : List Res} {d : Option Tmp} {ty : TypeId} {pos : String} {after : Array Edge} {gd : Option (Nat × Bool)} {K : Fr → List Res → Prop} {t : TypeId} {x y : Operand} {b o : Nat} {e : TypeId} {xs : List Int} {a : Int} {H' : List Res} (ht : (E.P.info? t).map (·.size) = some 1) (hx : f.eval x = .pointer (some ⟨b, o, none⟩)) (hy : f.eval y = .int .i64 a)
    (hH : Turn (.blk b e (ints xs)) (.blk b e (ints (xs.set o a))) H H') (hfit : o < xs.length) (hk : K (putF E.n f d undef) H') :
    OpStep E ⟨d, .store t x y, ty, pos, after, gd⟩ f H K :=
  OpStep.storeInt (xs := ints xs) ht hx hy (by have e : (ints xs).set o (.int .i64 a) = ints (xs.set o a) := by simp [ints, List.map_set]
                                               rw [e]; exact hH) (by simpa using hfit) hk

theorem OpStep.storeOwnInt3 {E : Env} {f : Fr} {H : List Res} {d : Option Tmp} {ty : TypeId} {pos : String} {after : Array Edge} {gd : Option (Nat × Bool)} {K : Fr → List Res → Prop} {t : TypeId} {x y : Operand} {g cap n m o : Nat} {e : TypeId} {size : Nat} {xs : List Int} {a b c : Int} {H' : List Res} (ht : (E.P.info? t).map (·.size) = some 3) (hx : f.eval x = .pointer (some ⟨g, o, none⟩)) (hy : f.eval y = .agg #[.int .i64 a, .int .i64 b, .int .i64 c])
    (hH : Turn (.own (.slice (some ⟨g, 0, none⟩) m cap) e size n (ints xs)) (.own (.slice (some ⟨g, 0, none⟩) m cap) e size n (ints (((xs.set o a).set (o + 1) b).set (o + 2) c))) H H') (hfit : o + 3 ≤ n * size) (hk : K (putF E.n f d undef) H') :
    OpStep E ⟨d, .store t x y, ty, pos, after, gd⟩ f H K := by
  refine OpStep.storeOwn (v := .slice (some ⟨g, 0, none⟩) m cap) (e := e) (m := m) (cap := cap) (us := [.int .i64 a, .int .i64 b, .int .i64 c]) (cs := ints xs) ht hx rfl (by rw [hy]; rfl) rfl ?_ hfit hk
  have e : spl (ints xs) o [.int .i64 a, .int .i64 b, .int .i64 c] = ints (((xs.set o a).set (o + 1) b).set (o + 2) c) := by simp [spl, ints, List.map_set]
  rw [e]; exact hH

/-- A list that is being copied: behind the first m numbers 0. -/
def filled (m : Nat) (xs : List Int) : List Int := (List.range xs.length).map fun j : Nat => if j < m then ix xs j else 0
@[simp] theorem filled_length (m : Nat) (xs : List Int) : (filled m xs).length = xs.length := by simp [filled]
end Go.Proofs.Yteehfidjofcfmaa
/- How the laws' arguments are read: numbers, slices of numbers and of structs of numbers, structs. -/
set_option linter.unusedSimpArgs false
set_option linter.unusedVariables false
namespace Go.Proofs.Yteehfidjofcfmaa
open Go Go.RowKit
open Go.ChangeShapes Go.WideShapes Go.Deep
theorem in64_wf {n : Int} (h : (Lit.int .i64 n).wf = true) : In64 n := by
  have h' : (decide (-9223372036854775808 ≤ n) && decide (n ≤ 9223372036854775807)) = true := by
    first | exact h | simpa [Lit.wf, IntKind.min, IntKind.max] using h
  simpa [In64] using h'
/-- A type that is laid out as k numbers. -/
def FlatT (P : Program) (t : TypeId) (k : Nat) : Prop :=
  P.cellsOf t = k ∧ ∀ (H : Type) (enc : TypeId × Value → H) (w : World) (base : Nat) (spare : Nat → Bool) (held : Bool) (fuel : Nat) (cs : List Value) (x : DataW H × List MemPlace),
    DataW.trod enc P w base spare held fuel t cs = some x → ∀ j, j < k → ∃ n, cs[j]? = some (.int .i64 n) ∧ In64 n
theorem FlatT.int {P : Program} {t : TypeId} (hc : P.cellsOf t = 1) (h : P.underlying t = some (.int .i64)) : FlatT P t 1 := by
  refine ⟨hc, fun H enc w base spare held fuel cs x hx j hj => ?_⟩
  obtain ⟨n, rfl, _, hw⟩ := DataW.trod_int h hx
  obtain rfl : j = 0 := by omega
  exact ⟨n, rfl, in64_wf hw⟩
/-- Every field is a number of its own cell. -/
def intFields (P : Program) (fs : Array Field) : Bool :=
  (List.range fs.size).all fun i => match fs[i]? with
    | some f => f.offset == i && P.cellsOf f.type == 1 && (match P.underlying f.type with | some (.int .i64) => true | _ => false)
    | none => false
theorem FlatT.struct {P : Program} {t : TypeId} {fs : Array Field} {k : Nat} (hk : fs.size = k) (hc : P.cellsOf t = k) (h : P.underlying t = some (.struct fs)) (hf : intFields P fs = true) : FlatT P t k := by
  refine ⟨hc, fun H enc w base spare held fuel cs x hx j hj => ?_⟩
  obtain ⟨xs, n, _, _, hl, hxs, hg⟩ := DataW.trod_struct h hx
  have h1 := List.all_eq_true.1 hf j (by simp; omega)
  split at h1
  · rename_i f hfj
    simp only [Bool.and_eq_true, beq_iff_eq] at h1
    obtain ⟨⟨ho, hcc⟩, hu⟩ := h1
    have hu' : P.underlying f.type = some (.int .i64) := by
      split at hu
      · assumption
      · cases hu
    have h2 := hg j f hfj
    rw [ho, hcc] at h2
    obtain ⟨y, hy⟩ : ∃ y, xs[j]? = some y := ⟨_, List.getElem?_eq_getElem (by omega)⟩
    rw [hy] at h2
    obtain ⟨m, he, _, hw⟩ := DataW.trod_int hu' h2
    refine ⟨m, ?_, in64_wf hw⟩
    have : (cs.drop j)[0]? = some (.int .i64 m) := by
      have h3 : ((cs.drop j).take 1)[0]? = some (Value.int .i64 m) := by rw [he]; rfl
      rwa [List.getElem?_take_of_lt (by omega)] at h3
    simpa using this
  · cases h1

theorem open_sl {H : Type} {enc : TypeId × Value → H} {P : Program} {w : World} {base : Nat} {spare : Nat → Bool} {held : Bool} {r : Reach} {b0 : Nat} {t e : TypeId} {v : Value} {d : DataW H} {p : List MemPlace}
    (ht : P.underlying t = some (.slice e)) (hv : Value.okWide P w r b0 t v) (h : DataW.Trod enc P w base spare held t v d p) : ∃ (fuel : Nat), DataW.trod enc P w base spare held fuel t [v] = some (d, p) := by
  obtain ⟨a, len, cap, rfl⟩ := okWide_slice ht hv
  obtain ⟨fuel, hf⟩ := h
  exact ⟨fuel, by simpa [Value.cells] using hf⟩
end Go.Proofs.Yteehfidjofcfmaa
/- Plain functions: the first index with a property. -/
set_option linter.unusedSimpArgs false
set_option linter.unusedVariables false
namespace Go.Proofs.Yteehfidjofcfmaa
open Go Go.RowKit
theorem ix_mem {xs : List Int} {i : Nat} (h : i < xs.length) : ix xs i ∈ xs := by
  simp [ix, List.getD, h]
def anyI (p : Nat → Bool) : Nat → Bool
  | 0 => false
  | n + 1 => anyI p n || p n
theorem anyI_iff {p : Nat → Bool} {n : Nat} : anyI p n = true ↔ ∃ i, i < n ∧ p i = true := by
  induction n with
  | zero => simp [anyI]
  | succ n ih =>
    simp only [anyI, Bool.or_eq_true, ih]
    constructor
    · rintro (⟨i, h1, h2⟩ | h)
      · exact ⟨i, by omega, h2⟩
      · exact ⟨n, by omega, h⟩
    · rintro ⟨i, h1, h2⟩
      by_cases h : i = n
      · subst h; exact .inr h2
      · exact .inl ⟨i, by omega, h2⟩
theorem anyI_false {p : Nat → Bool} {n : Nat} (h : ∀ i, i < n → p i = false) : anyI p n = false := by
  cases hb : anyI p n with
  | false => rfl
  | true => obtain ⟨i, h1, h2⟩ := anyI_iff.1 hb; rw [h i h1] at h2; cases h2
theorem anyI_true {p : Nat → Bool} {n i : Nat} (h : i < n) (hp : p i = true) : anyI p n = true := anyI_iff.2 ⟨i, h, hp⟩
/-- The first index below n with the property, or -1. -/
def findI (p : Nat → Bool) : Nat → Int
  | 0 => -1
  | n + 1 => if anyI p n then findI p n else if p n then n else -1
theorem findI_none {p : Nat → Bool} {n : Nat} (h : ∀ i, i < n → p i = false) : findI p n = -1 := by
  cases n with
  | zero => rfl
  | succ n => rw [findI, anyI_false fun i hi => h i (by omega), h n (by omega)]; rfl
theorem findI_hit {p : Nat → Bool} {n k : Nat} (h : ∀ i, i < k → p i = false) (hk : p k = true) (hn : k < n) : findI p n = k := by
  induction n with
  | zero => omega
  | succ n ih =>
    by_cases e : k = n
    · subst e; rw [findI, anyI_false h, hk]; simp
    · have : anyI p n = true := anyI_true (by omega : k < n) hk
      rw [findI, this, if_pos rfl]; exact ih (by omega)
theorem findI_nonneg {p : Nat → Bool} {n : Nat} : 0 ≤ findI p n ↔ anyI p n = true := by
  induction n with
  | zero => simp [findI, anyI]
  | succ n ih =>
    simp only [findI, anyI, Bool.or_eq_true]
    split
    · rename_i h; simp [ih, h]
    · rename_i h
      split
      · rename_i h2; simp [h2] <;> omega
      · rename_i h2; simp [h, h2]
theorem findI_ge {p : Nat → Bool} {n : Nat} : decide (findI p n ≥ 0) = anyI p n := by
  rw [Bool.eq_iff_iff, decide_eq_true_iff]; exact findI_nonneg
def allI (p : Nat → Bool) (n : Nat) : Bool := !anyI (fun i => !p i) n
theorem allI_iff {p : Nat → Bool} {n : Nat} : allI p n = true ↔ ∀ i, i < n → p i = true := by
  simp only [allI, Bool.not_eq_true']
  constructor
  · intro h i hi
    cases hb : p i with
    | true => rfl
    | false => rw [anyI_true (p := fun i => !p i) hi (by simp [hb])] at h; cases h
  · intro h; exact anyI_false fun i hi => by simp [h i hi]
theorem allI_false {p : Nat → Bool} {n i : Nat} (hi : i < n) (h : p i = false) : allI p n = false := by
  cases hb : allI p n with
  | false => rfl
  | true => rw [allI_iff.1 hb i hi] at h; cases h
/-- A slice's front. -/
theorem Sl.take {w : World} {A : Option Addr} {size n c m : Nat} {xs : List Int} (h : Sl w (.slice A n c) size n (ints xs)) (hm : m ≤ n) : Sl w (.slice A m c) size m (ints (xs.take (m * size))) := by
  have hl := h.len
  obtain ⟨_, A', c', he, h1, h2, h3⟩ := h
  injection he with e1 e2 e3
  subst e1; subst e3
  have hle : m * size ≤ n * size := Nat.mul_le_mul_right _ hm
  refine ⟨by simp; omega, A, c, rfl, by omega, h2, fun h0 => ?_⟩
  obtain ⟨b, o, hA, hb, hr⟩ := h3 (by omega)
  refine ⟨b, o, hA, hb, fun j v hv => hr j v ?_⟩
  have : (ints xs)[j]? = (ints (xs.take (m * size)))[j]? := by
    have hj : j < m * size := by
      have := (List.getElem?_eq_some_iff.1 hv).1
      simp at this; omega
    simp [ints, List.getElem?_take, hj]
  rw [this]; exact hv
def hasI (xs : List Int) (x : Int) (n : Nat) : Bool := anyI (fun i => decide (ix xs i = x)) n
end Go.Proofs.Yteehfidjofcfmaa
/- Walks: the generator of draws. -/
set_option linter.unusedSimpArgs false
set_option linter.unusedVariables false
namespace Go.Proofs.Yteehfidjofcfmaa
open Go Go.RowKit
namespace DrT
theorem Tcall_105 : callable Try.prog 105 = true := by kernel_rfl
theorem Tcall_64 : callable Try.prog 64 = true := by kernel_rfl
theorem Tfo_84_0 : fieldOff Try.prog 84 0 = some 0 := by kernel_rfl
theorem Tfo_84_1 : fieldOff Try.prog 84 1 = some 1 := by kernel_rfl
theorem Tfo_84_2 : fieldOff Try.prog 84 2 = some 2 := by kernel_rfl
theorem Tint_3 : Try.prog.underlying 3 = some (.int .i64) := by kernel_rfl
theorem Tint_82 : Try.prog.underlying 82 = some (.int .u64) := by kernel_rfl
theorem Tone_3 : oneOf Try.prog 3 = true := by kernel_rfl
theorem Tone_46 : oneOf Try.prog 46 = true := by kernel_rfl
theorem Tone_5 : oneOf Try.prog 5 = true := by kernel_rfl
theorem Tone_82 : oneOf Try.prog 82 = true := by kernel_rfl
theorem Tsize_3 : (Try.prog.info? 3).map (·.size) = some 1 := by kernel_rfl
theorem Tsize_82 : (Try.prog.info? 82).map (·.size) = some 1 := by kernel_rfl
theorem Tsl_22 : sliceOf Try.prog 22 = some (3, 1, 8, [.int .i64 0]) := by kernel_rfl
theorem Tsl_46 : sliceOf Try.prog 46 = some (5, 1, 1, [.int .u8 0]) := by kernel_rfl
theorem Tsome_3 : (Try.prog.underlying 3).isSome = true := by kernel_rfl
theorem Tsome_5 : (Try.prog.underlying 5).isSome = true := by kernel_rfl
theorem Tsome_82 : (Try.prog.underlying 82).isSome = true := by kernel_rfl
end DrT
open DrT
/-- Bytes as cells. -/
def u8s (cs : List Int) : List Value := cs.map (Value.int .u8)
theorem preB {cs : List Int} {i : Nat} (h : i < cs.length) : Pre (u8s cs) i [.int .u8 (ix cs i)] := ⟨by simp [u8s, ix, List.getD, h], trivial⟩
/-- The bytes from which is drawn; they do not lie in the generator's own block. -/
structure Cur (w : World) (bc : Nat) (vc : Value) (n : Nat) (cs : List Int) : Prop where
  sl : Sl w vc 1 n (u8s cs)
  off : 0 < n → ∀ k, vc.ownBlock = some k → k ≠ bc
  by_ : ∀ x ∈ cs, 0 ≤ x ∧ x < 256
theorem Cur.go {w0 w : World} {bc : Nat} {vc : Value} {n : Nat} {cs : List Int} {t : TypeId} {us : List Value} {H : List Res} (h : Cur w0 bc vc n cs) (hs : St (Of [.blk bc t us]) w0 w H) : Cur w bc vc n cs :=
  ⟨hs.slOff h.sl fun h0 k hk ⟨r, hr, hrk⟩ => by
    simp only [List.mem_singleton] at hr; subst hr
    exact h.off h0 k hk hrk.symm, h.off, h.by_⟩
theorem Cur.lt {w : World} {bc : Nat} {vc : Value} {n : Nat} {cs : List Int} (h : Cur w bc vc n cs) (h0 : 0 < n) {k : Nat} (hk : vc.ownBlock = some k) : k < w.heap.size := by
  obtain ⟨_, A, c, rfl, _, _, h4⟩ := h.sl
  obtain ⟨b, o, rfl, hb, _⟩ := h4 h0
  simp only [Value.ownBlock, Option.some.injEq] at hk; subst hk; exact hb
theorem Cur.apart {w0 w : World} {bc : Nat} {vc vl : Value} {n m size : Nat} {e : TypeId} {cs : List Int} {t : TypeId} {us ls : List Value} {H : List Res} (h : Cur w0 bc vc n cs) (hs : St (Of [.blk bc t us]) w0 w H) (hm : Res.own vl e size m ls ∈ H) : 0 < n → ∀ k, vc.ownBlock = some k → vl.ownBlock ≠ some k := by
  intro h0 k hk hl
  obtain ⟨r, hr, hrk⟩ := hs.fresh _ hm k hl (h.lt h0 hk)
  simp only [List.mem_singleton] at hr; subst hr
  exact h.off h0 k hk hrk.symm
theorem Cur.top {w0 w : World} {b : Nat} {va : Value} {n : Nat} {cs : List Int} {t : TypeId} {us : List Value} {H : List Res} (ha : Sl w0 va 1 n (u8s cs)) (hby : ∀ x ∈ cs, 0 ≤ x ∧ x < 256) (hs : St No w0 w H) (hm : Res.blk b t us ∈ H) : Cur w b va n cs := by
  refine ⟨hs.sl ha, fun h0 k hk e => ?_, hby⟩
  obtain ⟨_, A, c, rfl, _, _, h4⟩ := ha
  obtain ⟨b', o, rfl, hb, _⟩ := h4 h0
  simp only [Value.ownBlock, Option.some.injEq] at hk; subst hk; subst e
  exact hs.fresh _ hm b' rfl hb
theorem Cells.cur {E : Env} {H : List Res} {b o n c bc : Nat} {cs : List Int} {ys : List Value} {k : Nat} {t : TypeId} {us : List Value} (h : Cur E.w0 bc (.slice (some ⟨b, o, none⟩) n c) n cs) (hM : E.M = Of [.blk bc t us]) (hn : 0 < n) (hp : Pre (u8s cs) k ys) : Cells E H b (o + k) ys := by
  intro w hs
  have hs' : St (Of [.blk bc t us]) E.w0 w H := by rw [← hM]; exact hs
  obtain ⟨_, A, c', he, _, _, h4⟩ := (h.go hs').sl
  injection he with e1 _ _
  obtain ⟨b', o', hA, _, hr⟩ := h4 hn
  rw [hA] at e1
  injection e1 with e1
  injection e1 with e2 e3
  subst e2; subst e3
  intro j v hv
  have := hr (k + j) v (hp.get j v hv)
  rw [← Nat.add_assoc] at this; exact this
def nxB (cs : List Int) (n : Nat) (s : Nat × Int) : Int := if s.1 < n then ix cs s.1 else 0
def sdE (sd b : Int) : Int := IntKind.u64.wrap (IntKind.u64.wrap (IntKind.u64.wrap (sd * 6364136223846793005) + IntKind.u64.wrap b) + 1442695040888963407)
/-- The generator behind a draw, and what is drawn. -/
def nxS (cs : List Int) (n : Nat) (s : Nat × Int) : Nat × Int := (s.1 + 1, sdE s.2 (nxB cs n s))
def nxV (cs : List Int) (n : Nat) (s : Nat × Int) : Int := if s.1 + 1 ≤ n then nxB cs n s else IntKind.i64.wrap (bits .and .u64 ((sdE s.2 (nxB cs n s)) >>> (40 : Nat)) 255)
theorem nxV_range {cs : List Int} {n : Nat} (hl : cs.length = n) (h : ∀ x ∈ cs, 0 ≤ x ∧ x < 256) (s : Nat × Int) : 0 ≤ nxV cs n s ∧ nxV cs n s ≤ 255 := by
  unfold nxV
  split
  · unfold nxB
    split
    · have := h _ (ix_mem (xs := cs) (i := s.1) (by omega)); omega
    · omega
  · generalize (sdE s.2 (nxB cs n s)) >>> (40 : Nat) = a
    have h1 : (BitVec.ofInt 64 a &&& BitVec.ofInt 64 255).toNat ≤ 255 := by
      rw [BitVec.toNat_and]
      exact Nat.le_trans Nat.and_le_right (by decide)
    have h2 : bits .and .u64 a 255 = ((BitVec.ofInt 64 a &&& BitVec.ofInt 64 255).toNat : Int) := by
      show IntKind.u64.wrap ((BitVec.ofInt 64 a &&& BitVec.ofInt 64 255).toNat : Int) = _
      rw [IntKind.wrap_u64]; omega
    rw [h2, IntKind.wrap_i64]; omega
def pkV (cs : List Int) (n : Nat) (k : Int) (s : Nat × Int) : Int :=
  if k ≤ 1 then 0 else (if k > 200 then nxV cs n s * 256 + nxV cs n (nxS cs n s) else nxV cs n s) % k
def pkS (cs : List Int) (n : Nat) (k : Int) (s : Nat × Int) : Nat × Int := if k ≤ 1 then s else if k > 200 then nxS cs n (nxS cs n s) else nxS cs n s
theorem pkS_le (cs : List Int) (n : Nat) (k : Int) (s : Nat × Int) : (pkS cs n k s).1 ≤ s.1 + 2 := by
  unfold pkS; split
  · omega
  · split <;> simp only [nxS] <;> omega
theorem pkV_range (cs : List Int) (n : Nat) (k : Int) (s : Nat × Int) : 0 ≤ pkV cs n k s ∧ (pkV cs n k s < k ∨ pkV cs n k s = 0) := by
  unfold pkV; split
  · omega
  · have h1 := Int.emod_nonneg (if k > 200 then nxV cs n s * 256 + nxV cs n (nxS cs n s) else nxV cs n s) (show k ≠ 0 by omega)
    have h2 := Int.emod_lt_of_pos (if k > 200 then nxV cs n s * 256 + nxV cs n (nxS cs n s) else nxV cs n s) (show 0 < k by omega)
    exact ⟨h1, .inl h2⟩

set_option maxHeartbeats 1000000 in
set_option maxRecDepth 20000 in
theorem next_spec {bc n : Nat} {vc : Value} {cs : List Int} {s : Nat × Int} {w : World} (hat : s.1 < 2305843009213693952) (hc : Cur w bc vc n cs) (hst : St (Of [.blk bc 84 [vc, .int .i64 (((s.1 : Nat) : Int)), .int .u64 (s.2)]]) w w [.blk bc 84 [vc, .int .i64 (((s.1 : Nat) : Int)), .int .u64 (s.2)]]) : Calls Try.prog 105 #[.pointer (some ⟨bc, 0, none⟩)] w (Post (Of [.blk bc 84 [vc, .int .i64 (((s.1 : Nat) : Int)), .int .u64 (s.2)]]) w fun v H => v = .int .i64 (nxV cs n s) ∧ H = [.blk bc 84 [vc, .int .i64 ((((nxS cs n s).1 : Nat) : Int)), .int .u64 ((nxS cs n s).2)]]) := by
 have hcl : cs.length = n := by have := hc.sl.1; simpa [u8s] using this
 obtain ⟨Ac, cc, rfl, _, _⟩ := hc.sl.form0
 refine enter (n := 62) (args := [.pointer (some ⟨bc, 0, none⟩)]) Try.func105 rfl rfl (hst) ?_
 refine Run.sr ?_
 refine Run.p (.int .i64 0) rfl rfl ?_
 refine Run.dsr ?_
 refine Run.p (.int .i64 0) rfl rfl ?_
 refine Run.done ?_
 refine Run.seq ?_
 refine Run.seq ?_
 refine Run.draws (by kernel_rfl) (by kernel_rfl) ?_
 refine Lex.q (v := .pointer (some ⟨bc, 0, none⟩)) rfl (OpQ.y (OpY.pure rfl)) ?_
 refine Lex.q (v := .pointer (some ⟨bc, 0, none⟩)) rfl (OpQ.y (OpY.nilCheck rfl)) ?_
 refine Lex.q (v := .pointer (some ⟨bc, 1, none⟩)) rfl (OpQ.y (OpY.fieldAddr Tfo_84_1 rfl rfl)) ?_
 refine Lex.q (v := .int .i64 (((s.1 : Nat) : Int))) rfl (OpQ.y (OpY.load1 Tone_3 rfl (Cells.blk (.head _) ⟨rfl, trivial⟩))) ?_
 refine Lex.q (v := .pointer (some ⟨bc, 0, none⟩)) rfl (OpQ.y (OpY.pure rfl)) ?_
 refine Lex.q (v := .pointer (some ⟨bc, 0, none⟩)) rfl (OpQ.y (OpY.nilCheck rfl)) ?_
 refine Lex.q (v := .pointer (some ⟨bc, 0, none⟩)) rfl (OpQ.y (OpY.fieldAddr Tfo_84_0 rfl rfl)) ?_
 refine Lex.q (v := .slice Ac n cc) rfl (OpQ.y (OpY.load1 Tone_46 rfl (Cells.blk (.head _) ⟨rfl, trivial⟩))) ?_
 refine Lex.q (v := .int .i64 (((n : Nat) : Int))) rfl (OpQ.y (OpY.len Tsl_46 rfl)) ?_
 refine Lex.q (v := .bool (decide ((((s.1 : Nat) : Int)) < (((n : Nat) : Int))))) rfl (OpQ.y (OpY.pure rfl)) ?_
 refine Lex.done ?_
 refine Run.cond (b := decide ((((s.1 : Nat) : Int)) < (((n : Nat) : Int)))) rfl (fun h13 => ?_) (fun h13 => ?_)
 ·have p13 := h13; try simp only [bs] at p13
  have hlt : s.1 < n := by omega
  have hB : nxB cs n s = ix cs s.1 := if_pos hlt
  have hby := hc.by_ _ (ix_mem (xs := cs) (i := s.1) (by omega))
  obtain ⟨b, o, rfl⟩ : ∃ b o, Ac = some ⟨b, o, none⟩ := by
   obtain ⟨b, o, c2, he, _⟩ := hc.sl.form (by omega)
   injection he with e1
   exact ⟨b, o, e1⟩
  refine Run.draws (by kernel_rfl) (by kernel_rfl) ?_
  refine Lex.q (v := .pointer (some ⟨bc, 0, none⟩)) rfl (OpQ.y (OpY.pure rfl)) ?_
  refine Lex.q (v := .pointer (some ⟨bc, 0, none⟩)) rfl (OpQ.y (OpY.nilCheck rfl)) ?_
  refine Lex.q (v := .pointer (some ⟨bc, 0, none⟩)) rfl (OpQ.y (OpY.fieldAddr Tfo_84_0 rfl rfl)) ?_
  refine Lex.q (v := .slice (some ⟨b, o, none⟩) n cc) rfl (OpQ.y (OpY.load1 Tone_46 rfl (Cells.blk (.head _) ⟨rfl, trivial⟩))) ?_
  refine Lex.q (v := .pointer (some ⟨bc, 0, none⟩)) rfl (OpQ.y (OpY.pure rfl)) ?_
  refine Lex.q (v := .pointer (some ⟨bc, 0, none⟩)) rfl (OpQ.y (OpY.nilCheck rfl)) ?_
  refine Lex.q (v := .pointer (some ⟨bc, 1, none⟩)) rfl (OpQ.y (OpY.fieldAddr Tfo_84_1 rfl rfl)) ?_
  refine Lex.q (v := .int .i64 (((s.1 : Nat) : Int))) rfl (OpQ.y (OpY.load1 Tone_3 rfl (Cells.blk (.head _) ⟨rfl, trivial⟩))) ?_
  refine Lex.q (v := .pointer (some ⟨b, o + s.1, none⟩)) rfl (OpQ.y (OpY.index (kk := s.1) Tsl_46 rfl rfl (by omega) (by omega) (by first | rfl | omega))) ?_
  refine Lex.q (v := .int .u8 (ix cs s.1)) rfl (OpQ.y (OpY.load1 Tone_5 rfl (Cells.cur (k := s.1) hc rfl (by omega) (preB (by omega))))) ?_
  refine Lex.q (v := .int .i64 (ix cs s.1)) rfl (OpQ.y (OpY.convIntEq Tsome_5 Tint_3 rfl (by first | (rw [IntKind.wrap_i64]; omega) | (rw [IntKind.wrap_u64]; omega)))) ?_
  refine Lex.q (v := .int .i64 (ix cs s.1)) rfl (OpQ.y (OpY.pure rfl)) ?_
  refine Lex.done ?_
  refine Run.sr ?_
  refine Run.p (.pointer (some ⟨bc, 0, none⟩)) rfl rfl ?_
  refine Run.y (.pointer (some ⟨bc, 0, none⟩)) rfl (OpY.nilCheck rfl) ?_
  refine Run.y (.pointer (some ⟨bc, 1, none⟩)) rfl (OpY.fieldAddr Tfo_84_1 rfl rfl) ?_
  refine Run.y (.int .i64 (((s.1 : Nat) : Int))) rfl (OpY.load1 Tone_3 rfl (Cells.blk (.head _) ⟨rfl, trivial⟩)) ?_
  refine Run.y (.int .i64 ((((s.1 : Nat) : Int)) + 1)) rfl (OpY.add rfl rfl rfl (by omega) (by omega)) ?_
  refine Run.y (.pointer (some ⟨bc, 0, none⟩)) rfl (OpY.nilCheck rfl) ?_
  refine Run.y (.pointer (some ⟨bc, 1, none⟩)) rfl (OpY.fieldAddr Tfo_84_1 rfl rfl) ?_
  refine Run.step rfl (OpStep.store (us := [.int .i64 ((((s.1 : Nat) : Int)) + 1)]) Tsize_3 rfl rfl rfl (.here _) (by simp only [List.length_cons, List.length_nil]; omega) ?_)
  show Run _ _ _ [.blk bc 84 [.slice (some ⟨b, o, none⟩) n cc, .int .i64 ((((s.1 : Nat) : Int)) + 1), .int .u64 (s.2)]]
  refine Run.dsr ?_
  refine Run.p (.pointer (some ⟨bc, 0, none⟩)) rfl rfl ?_
  refine Run.p (.pointer (some ⟨bc, 0, none⟩)) rfl rfl ?_
  refine Run.y (.pointer (some ⟨bc, 0, none⟩)) rfl (OpY.nilCheck rfl) ?_
  refine Run.y (.pointer (some ⟨bc, 2, none⟩)) rfl (OpY.fieldAddr Tfo_84_2 rfl rfl) ?_
  refine Run.y (.int .u64 (s.2)) rfl (OpY.load1 Tone_82 rfl (Cells.blk (.head _) ⟨rfl, trivial⟩)) ?_
  refine Run.y (.int .u64 (IntKind.u64.wrap (s.2 * 6364136223846793005))) rfl (OpY.mulU rfl rfl) ?_
  refine Run.p (.int .i64 (ix cs s.1)) rfl rfl ?_
  refine Run.y (.int .u64 (IntKind.u64.wrap (ix cs s.1))) rfl (OpY.convInt Tsome_3 Tint_82 rfl) ?_
  refine Run.y (.int .u64 (IntKind.u64.wrap (IntKind.u64.wrap (s.2 * 6364136223846793005) + IntKind.u64.wrap (ix cs s.1)))) rfl (OpY.addU rfl rfl) ?_
  refine Run.y (.int .u64 (IntKind.u64.wrap (IntKind.u64.wrap (IntKind.u64.wrap (s.2 * 6364136223846793005) + IntKind.u64.wrap (ix cs s.1)) + 1442695040888963407))) rfl (OpY.addU rfl rfl) ?_
  refine Run.y (.pointer (some ⟨bc, 0, none⟩)) rfl (OpY.nilCheck rfl) ?_
  refine Run.y (.pointer (some ⟨bc, 2, none⟩)) rfl (OpY.fieldAddr Tfo_84_2 rfl rfl) ?_
  refine Run.step rfl (OpStep.store (us := [.int .u64 (IntKind.u64.wrap (IntKind.u64.wrap (IntKind.u64.wrap (s.2 * 6364136223846793005) + IntKind.u64.wrap (ix cs s.1)) + 1442695040888963407))]) Tsize_82 rfl rfl rfl (.here _) (by simp only [List.length_cons, List.length_nil]; omega) ?_)
  show Run _ _ _ [.blk bc 84 [.slice (some ⟨b, o, none⟩) n cc, .int .i64 ((((s.1 : Nat) : Int)) + 1), .int .u64 (IntKind.u64.wrap (IntKind.u64.wrap (IntKind.u64.wrap (s.2 * 6364136223846793005) + IntKind.u64.wrap (ix cs s.1)) + 1442695040888963407))]]
  refine Run.done ?_
  refine Run.seq ?_
  refine Run.seq ?_
  refine Run.draws (by kernel_rfl) (by kernel_rfl) ?_
  refine Lex.q (v := .pointer (some ⟨bc, 0, none⟩)) rfl (OpQ.y (OpY.pure rfl)) ?_
  refine Lex.q (v := .pointer (some ⟨bc, 0, none⟩)) rfl (OpQ.y (OpY.nilCheck rfl)) ?_
  refine Lex.q (v := .pointer (some ⟨bc, 1, none⟩)) rfl (OpQ.y (OpY.fieldAddr Tfo_84_1 rfl rfl)) ?_
  refine Lex.q (v := .int .i64 ((((s.1 : Nat) : Int)) + 1)) rfl (OpQ.y (OpY.load1 Tone_3 rfl (Cells.blk (.head _) ⟨rfl, trivial⟩))) ?_
  refine Lex.q (v := .pointer (some ⟨bc, 0, none⟩)) rfl (OpQ.y (OpY.pure rfl)) ?_
  refine Lex.q (v := .pointer (some ⟨bc, 0, none⟩)) rfl (OpQ.y (OpY.nilCheck rfl)) ?_
  refine Lex.q (v := .pointer (some ⟨bc, 0, none⟩)) rfl (OpQ.y (OpY.fieldAddr Tfo_84_0 rfl rfl)) ?_
  refine Lex.q (v := .slice (some ⟨b, o, none⟩) n cc) rfl (OpQ.y (OpY.load1 Tone_46 rfl (Cells.blk (.head _) ⟨rfl, trivial⟩))) ?_
  refine Lex.q (v := .int .i64 (((n : Nat) : Int))) rfl (OpQ.y (OpY.len Tsl_46 rfl)) ?_
  refine Lex.q (v := .bool (decide (((((s.1 : Nat) : Int)) + 1) ≤ (((n : Nat) : Int))))) rfl (OpQ.y (OpY.pure rfl)) ?_
  refine Lex.done ?_
  refine Run.cond (b := decide (((((s.1 : Nat) : Int)) + 1) ≤ (((n : Nat) : Int)))) rfl (fun h53 => ?_) (fun h53 => ?_)
  ·have p53 := h53; try simp only [bs] at p53
   have hV : nxV cs n s = nxB cs n s := if_pos (by omega)
   refine Run.sr ?_
   refine Run.p (.int .i64 (ix cs s.1)) rfl rfl ?_
   refine Run.p (.int .i64 (ix cs s.1)) rfl rfl ?_
   refine Run.done ?_
   refine Run.ret ?_
   refine ⟨.int .i64 (ix cs s.1), [.blk bc 84 [.slice (some ⟨b, o, none⟩) n cc, .int .i64 ((((nxS cs n s).1 : Nat) : Int)), .int .u64 ((nxS cs n s).2)]], Out.one rfl rfl, (Some'.weak (.takeEq (by rw [nxS, hB]; rfl) (.nil _))), ?_⟩
   exact ⟨by rw [hV, hB]; try rfl, rfl⟩
  ·have p53 := h53; try simp only [bs] at p53
   have hV : nxV cs n s = IntKind.i64.wrap (bits .and .u64 ((sdE s.2 (nxB cs n s)) >>> (40 : Nat)) 255) := if_neg (by omega)
   refine Run.skip ?_
   refine Run.sr ?_
   refine Run.p (.pointer (some ⟨bc, 0, none⟩)) rfl rfl ?_
   refine Run.y (.pointer (some ⟨bc, 0, none⟩)) rfl (OpY.nilCheck rfl) ?_
   refine Run.y (.pointer (some ⟨bc, 2, none⟩)) rfl (OpY.fieldAddr Tfo_84_2 rfl rfl) ?_
   refine Run.y (.int .u64 (IntKind.u64.wrap (IntKind.u64.wrap (IntKind.u64.wrap (s.2 * 6364136223846793005) + IntKind.u64.wrap (ix cs s.1)) + 1442695040888963407))) rfl (OpY.load1 Tone_82 rfl (Cells.blk (.head _) ⟨rfl, trivial⟩)) ?_
   refine Run.y (.int .u64 ((IntKind.u64.wrap (IntKind.u64.wrap (IntKind.u64.wrap (s.2 * 6364136223846793005) + IntKind.u64.wrap (ix cs s.1)) + 1442695040888963407)) >>> (40 : Nat))) rfl (OpY.shrU (n := 40) rfl rfl rfl (by decide)) ?_
   refine Run.y (.int .u64 (bits .and .u64 ((IntKind.u64.wrap (IntKind.u64.wrap (IntKind.u64.wrap (s.2 * 6364136223846793005) + IntKind.u64.wrap (ix cs s.1)) + 1442695040888963407)) >>> (40 : Nat)) 255)) rfl (OpY.and rfl rfl) ?_
   refine Run.y (.int .i64 (IntKind.i64.wrap (bits .and .u64 ((IntKind.u64.wrap (IntKind.u64.wrap (IntKind.u64.wrap (s.2 * 6364136223846793005) + IntKind.u64.wrap (ix cs s.1)) + 1442695040888963407)) >>> (40 : Nat)) 255))) rfl (OpY.convInt Tsome_82 Tint_3 rfl) ?_
   refine Run.p (.int .i64 (IntKind.i64.wrap (bits .and .u64 ((IntKind.u64.wrap (IntKind.u64.wrap (IntKind.u64.wrap (s.2 * 6364136223846793005) + IntKind.u64.wrap (ix cs s.1)) + 1442695040888963407)) >>> (40 : Nat)) 255))) rfl rfl ?_
   refine Run.done ?_
   refine Run.ret ?_
   refine ⟨.int .i64 (IntKind.i64.wrap (bits .and .u64 ((IntKind.u64.wrap (IntKind.u64.wrap (IntKind.u64.wrap (s.2 * 6364136223846793005) + IntKind.u64.wrap (ix cs s.1)) + 1442695040888963407)) >>> (40 : Nat)) 255)), [.blk bc 84 [.slice (some ⟨b, o, none⟩) n cc, .int .i64 ((((nxS cs n s).1 : Nat) : Int)), .int .u64 ((nxS cs n s).2)]], Out.one rfl rfl, (Some'.weak (.takeEq (by rw [nxS, hB]; rfl) (.nil _))), ?_⟩
   exact ⟨by rw [hV, hB]; try rfl, rfl⟩
 ·have p13 := h13; try simp only [bs] at p13
  have hB : nxB cs n s = 0 := if_neg (by omega)
  refine Run.skip ?_
  refine Run.sr ?_
  refine Run.p (.pointer (some ⟨bc, 0, none⟩)) rfl rfl ?_
  refine Run.y (.pointer (some ⟨bc, 0, none⟩)) rfl (OpY.nilCheck rfl) ?_
  refine Run.y (.pointer (some ⟨bc, 1, none⟩)) rfl (OpY.fieldAddr Tfo_84_1 rfl rfl) ?_
  refine Run.y (.int .i64 (((s.1 : Nat) : Int))) rfl (OpY.load1 Tone_3 rfl (Cells.blk (.head _) ⟨rfl, trivial⟩)) ?_
  refine Run.y (.int .i64 ((((s.1 : Nat) : Int)) + 1)) rfl (OpY.add rfl rfl rfl (by omega) (by omega)) ?_
  refine Run.y (.pointer (some ⟨bc, 0, none⟩)) rfl (OpY.nilCheck rfl) ?_
  refine Run.y (.pointer (some ⟨bc, 1, none⟩)) rfl (OpY.fieldAddr Tfo_84_1 rfl rfl) ?_
  refine Run.step rfl (OpStep.store (us := [.int .i64 ((((s.1 : Nat) : Int)) + 1)]) Tsize_3 rfl rfl rfl (.here _) (by simp only [List.length_cons, List.length_nil]; omega) ?_)
  show Run _ _ _ [.blk bc 84 [.slice Ac n cc, .int .i64 ((((s.1 : Nat) : Int)) + 1), .int .u64 (s.2)]]
  refine Run.dsr ?_
  refine Run.p (.pointer (some ⟨bc, 0, none⟩)) rfl rfl ?_
  refine Run.p (.pointer (some ⟨bc, 0, none⟩)) rfl rfl ?_
  refine Run.y (.pointer (some ⟨bc, 0, none⟩)) rfl (OpY.nilCheck rfl) ?_
  refine Run.y (.pointer (some ⟨bc, 2, none⟩)) rfl (OpY.fieldAddr Tfo_84_2 rfl rfl) ?_
  refine Run.y (.int .u64 (s.2)) rfl (OpY.load1 Tone_82 rfl (Cells.blk (.head _) ⟨rfl, trivial⟩)) ?_
  refine Run.y (.int .u64 (IntKind.u64.wrap (s.2 * 6364136223846793005))) rfl (OpY.mulU rfl rfl) ?_
  refine Run.p (.int .i64 0) rfl rfl ?_
  refine Run.y (.int .u64 (IntKind.u64.wrap (0))) rfl (OpY.convInt Tsome_3 Tint_82 rfl) ?_
  refine Run.y (.int .u64 (IntKind.u64.wrap (IntKind.u64.wrap (s.2 * 6364136223846793005) + IntKind.u64.wrap (0)))) rfl (OpY.addU rfl rfl) ?_
  refine Run.y (.int .u64 (IntKind.u64.wrap (IntKind.u64.wrap (IntKind.u64.wrap (s.2 * 6364136223846793005) + IntKind.u64.wrap (0)) + 1442695040888963407))) rfl (OpY.addU rfl rfl) ?_
  refine Run.y (.pointer (some ⟨bc, 0, none⟩)) rfl (OpY.nilCheck rfl) ?_
  refine Run.y (.pointer (some ⟨bc, 2, none⟩)) rfl (OpY.fieldAddr Tfo_84_2 rfl rfl) ?_
  refine Run.step rfl (OpStep.store (us := [.int .u64 (IntKind.u64.wrap (IntKind.u64.wrap (IntKind.u64.wrap (s.2 * 6364136223846793005) + IntKind.u64.wrap (0)) + 1442695040888963407))]) Tsize_82 rfl rfl rfl (.here _) (by simp only [List.length_cons, List.length_nil]; omega) ?_)
  show Run _ _ _ [.blk bc 84 [.slice Ac n cc, .int .i64 ((((s.1 : Nat) : Int)) + 1), .int .u64 (IntKind.u64.wrap (IntKind.u64.wrap (IntKind.u64.wrap (s.2 * 6364136223846793005) + IntKind.u64.wrap (0)) + 1442695040888963407))]]
  refine Run.done ?_
  refine Run.seq ?_
  refine Run.seq ?_
  refine Run.draws (by kernel_rfl) (by kernel_rfl) ?_
  refine Lex.q (v := .pointer (some ⟨bc, 0, none⟩)) rfl (OpQ.y (OpY.pure rfl)) ?_
  refine Lex.q (v := .pointer (some ⟨bc, 0, none⟩)) rfl (OpQ.y (OpY.nilCheck rfl)) ?_
  refine Lex.q (v := .pointer (some ⟨bc, 1, none⟩)) rfl (OpQ.y (OpY.fieldAddr Tfo_84_1 rfl rfl)) ?_
  refine Lex.q (v := .int .i64 ((((s.1 : Nat) : Int)) + 1)) rfl (OpQ.y (OpY.load1 Tone_3 rfl (Cells.blk (.head _) ⟨rfl, trivial⟩))) ?_
  refine Lex.q (v := .pointer (some ⟨bc, 0, none⟩)) rfl (OpQ.y (OpY.pure rfl)) ?_
  refine Lex.q (v := .pointer (some ⟨bc, 0, none⟩)) rfl (OpQ.y (OpY.nilCheck rfl)) ?_
  refine Lex.q (v := .pointer (some ⟨bc, 0, none⟩)) rfl (OpQ.y (OpY.fieldAddr Tfo_84_0 rfl rfl)) ?_
  refine Lex.q (v := .slice Ac n cc) rfl (OpQ.y (OpY.load1 Tone_46 rfl (Cells.blk (.head _) ⟨rfl, trivial⟩))) ?_
  refine Lex.q (v := .int .i64 (((n : Nat) : Int))) rfl (OpQ.y (OpY.len Tsl_46 rfl)) ?_
  refine Lex.q (v := .bool (decide (((((s.1 : Nat) : Int)) + 1) ≤ (((n : Nat) : Int))))) rfl (OpQ.y (OpY.pure rfl)) ?_
  refine Lex.done ?_
  refine Run.cond (b := decide (((((s.1 : Nat) : Int)) + 1) ≤ (((n : Nat) : Int)))) rfl (fun h53 => ?_) (fun h53 => ?_)
  ·have p53 := h53; try simp only [bs] at p53
   have hV : nxV cs n s = nxB cs n s := if_pos (by omega)
   refine Run.sr ?_
   refine Run.p (.int .i64 0) rfl rfl ?_
   refine Run.p (.int .i64 0) rfl rfl ?_
   refine Run.done ?_
   refine Run.ret ?_
   refine ⟨.int .i64 0, [.blk bc 84 [.slice Ac n cc, .int .i64 ((((nxS cs n s).1 : Nat) : Int)), .int .u64 ((nxS cs n s).2)]], Out.one rfl rfl, (Some'.weak (.takeEq (by rw [nxS, hB]; rfl) (.nil _))), ?_⟩
   exact ⟨by rw [hV, hB]; try rfl, rfl⟩
  ·have p53 := h53; try simp only [bs] at p53
   have hV : nxV cs n s = IntKind.i64.wrap (bits .and .u64 ((sdE s.2 (nxB cs n s)) >>> (40 : Nat)) 255) := if_neg (by omega)
   refine Run.skip ?_
   refine Run.sr ?_
   refine Run.p (.pointer (some ⟨bc, 0, none⟩)) rfl rfl ?_
   refine Run.y (.pointer (some ⟨bc, 0, none⟩)) rfl (OpY.nilCheck rfl) ?_
   refine Run.y (.pointer (some ⟨bc, 2, none⟩)) rfl (OpY.fieldAddr Tfo_84_2 rfl rfl) ?_
   refine Run.y (.int .u64 (IntKind.u64.wrap (IntKind.u64.wrap (IntKind.u64.wrap (s.2 * 6364136223846793005) + IntKind.u64.wrap (0)) + 1442695040888963407))) rfl (OpY.load1 Tone_82 rfl (Cells.blk (.head _) ⟨rfl, trivial⟩)) ?_
   refine Run.y (.int .u64 ((IntKind.u64.wrap (IntKind.u64.wrap (IntKind.u64.wrap (s.2 * 6364136223846793005) + IntKind.u64.wrap (0)) + 1442695040888963407)) >>> (40 : Nat))) rfl (OpY.shrU (n := 40) rfl rfl rfl (by decide)) ?_
   refine Run.y (.int .u64 (bits .and .u64 ((IntKind.u64.wrap (IntKind.u64.wrap (IntKind.u64.wrap (s.2 * 6364136223846793005) + IntKind.u64.wrap (0)) + 1442695040888963407)) >>> (40 : Nat)) 255)) rfl (OpY.and rfl rfl) ?_
   refine Run.y (.int .i64 (IntKind.i64.wrap (bits .and .u64 ((IntKind.u64.wrap (IntKind.u64.wrap (IntKind.u64.wrap (s.2 * 6364136223846793005) + IntKind.u64.wrap (0)) + 1442695040888963407)) >>> (40 : Nat)) 255))) rfl (OpY.convInt Tsome_82 Tint_3 rfl) ?_
   refine Run.p (.int .i64 (IntKind.i64.wrap (bits .and .u64 ((IntKind.u64.wrap (IntKind.u64.wrap (IntKind.u64.wrap (s.2 * 6364136223846793005) + IntKind.u64.wrap (0)) + 1442695040888963407)) >>> (40 : Nat)) 255))) rfl rfl ?_
   refine Run.done ?_
   refine Run.ret ?_
   refine ⟨.int .i64 (IntKind.i64.wrap (bits .and .u64 ((IntKind.u64.wrap (IntKind.u64.wrap (IntKind.u64.wrap (s.2 * 6364136223846793005) + IntKind.u64.wrap (0)) + 1442695040888963407)) >>> (40 : Nat)) 255)), [.blk bc 84 [.slice Ac n cc, .int .i64 ((((nxS cs n s).1 : Nat) : Int)), .int .u64 ((nxS cs n s).2)]], Out.one rfl rfl, (Some'.weak (.takeEq (by rw [nxS, hB]; rfl) (.nil _))), ?_⟩
   exact ⟨by rw [hV, hB]; try rfl, rfl⟩

set_option maxHeartbeats 1000000 in
set_option maxRecDepth 20000 in
theorem pick_spec {k : Int} {bc n : Nat} {vc : Value} {cs : List Int} {s : Nat × Int} {w : World} (hat : s.1 < 2305843009213693950) (hc : Cur w bc vc n cs) (hst : St (Of [.blk bc 84 [vc, .int .i64 (((s.1 : Nat) : Int)), .int .u64 (s.2)]]) w w [.blk bc 84 [vc, .int .i64 (((s.1 : Nat) : Int)), .int .u64 (s.2)]]) : Calls Try.prog 64 #[.pointer (some ⟨bc, 0, none⟩), .int .i64 k] w (Post (Of [.blk bc 84 [vc, .int .i64 (((s.1 : Nat) : Int)), .int .u64 (s.2)]]) w fun v H => v = .int .i64 (pkV cs n k s) ∧ H = [.blk bc 84 [vc, .int .i64 ((((pkS cs n k s).1 : Nat) : Int)), .int .u64 ((pkS cs n k s).2)]]) := by
 have hcl : cs.length = n := by have := hc.sl.1; simpa [u8s] using this
 refine enter (n := 20) (args := [.pointer (some ⟨bc, 0, none⟩), .int .i64 k]) Try.func64 rfl rfl (hst) ?_
 refine Run.sr ?_
 refine Run.p (.int .i64 0) rfl rfl ?_
 refine Run.done ?_
 refine Run.seq ?_
 refine Run.sr ?_
 refine Run.p (.int .i64 k) rfl rfl ?_
 refine Run.p (.bool (decide (k ≤ 1))) rfl rfl ?_
 refine Run.done ?_
 refine Run.cond (b := decide (k ≤ 1)) rfl (fun h7 => ?_) (fun h7 => ?_)
 ·have p7 := h7; try simp only [bs] at p7
  have hV : pkV cs n k s = 0 := if_pos p7
  have hS : pkS cs n k s = s := if_pos p7
  refine Run.sr ?_
  refine Run.p (.int .i64 0) rfl rfl ?_
  refine Run.done ?_
  refine Run.ret ?_
  refine ⟨.int .i64 0, [.blk bc 84 [vc, .int .i64 ((((pkS cs n k s).1 : Nat) : Int)), .int .u64 ((pkS cs n k s).2)]], Out.one rfl rfl, (Some'.weak (.takeEq (by rw [hS]) (.nil _))), ?_⟩
  exact ⟨by rw [hV], rfl⟩
 ·have p7 := h7; try simp only [bs] at p7
  refine Run.skip ?_
  refine Run.sr ?_
  refine Run.p (.pointer (some ⟨bc, 0, none⟩)) rfl rfl ?_
  refine Run.step rfl (OpStep.callM (H1 := [.blk bc 84 [vc, .int .i64 (((s.1 : Nat) : Int)), .int .u64 (s.2)]]) (H2 := []) (vs := [.pointer (some ⟨bc, 0, none⟩)]) (caps := []) Tcall_105 rfl rfl (Weak.refl _) (fun w hs => next_spec (s := s) (by first | omega | (show s.1 + 1 < _; omega)) (hc.go hs) (hs.sub (List.sublist_append_left _ _)).self) ?_)
  rintro _ _ ⟨rfl, rfl⟩
  show Run _ _ (putF _ _ _ (.int .i64 (nxV cs n s))) [.blk bc 84 [vc, .int .i64 ((((nxS cs n s).1 : Nat) : Int)), .int .u64 ((nxS cs n s).2)]]
  have hr1 := nxV_range hcl hc.by_ s
  refine Run.p (.int .i64 (nxV cs n s)) rfl rfl ?_
  refine Run.done ?_
  refine Run.seq ?_
  refine Run.sr ?_
  refine Run.p (.int .i64 k) rfl rfl ?_
  refine Run.p (.bool (decide (k > 200))) rfl rfl ?_
  refine Run.done ?_
  refine Run.cond (b := decide (k > 200)) rfl (fun h11 => ?_) (fun h11 => ?_)
  ·have p11 := h11; try simp only [bs] at p11
   have hV : pkV cs n k s = (nxV cs n s * 256 + nxV cs n (nxS cs n s)) % k := by rw [pkV, if_neg (by omega), if_pos p11]
   have hS : pkS cs n k s = nxS cs n (nxS cs n s) := by rw [pkS, if_neg (by omega), if_pos p11]
   refine Run.region ?_
   refine Run.p (.int .i64 (nxV cs n s)) rfl rfl ?_
   refine Run.y (.int .i64 ((nxV cs n s) * 256)) rfl (OpY.mul rfl rfl (by first | rfl | grind) (by omega) (by omega)) ?_
   refine Run.p (.pointer (some ⟨bc, 0, none⟩)) rfl rfl ?_
   refine Run.step rfl (OpStep.callM (H1 := [.blk bc 84 [vc, .int .i64 ((((nxS cs n s).1 : Nat) : Int)), .int .u64 ((nxS cs n s).2)]]) (H2 := []) (vs := [.pointer (some ⟨bc, 0, none⟩)]) (caps := []) Tcall_105 rfl rfl (Weak.refl _) (fun w hs => next_spec (s := (nxS cs n s)) (by first | omega | (show s.1 + 1 < _; omega)) (hc.go hs) (hs.sub (List.sublist_append_left _ _)).self) ?_)
   rintro _ _ ⟨rfl, rfl⟩
   show Run _ _ (putF _ _ _ (.int .i64 (nxV cs n (nxS cs n s)))) [.blk bc 84 [vc, .int .i64 ((((nxS cs n (nxS cs n s)).1 : Nat) : Int)), .int .u64 ((nxS cs n (nxS cs n s)).2)]]
   have hr2 := nxV_range hcl hc.by_ (nxS cs n s)
   refine Run.y (.int .i64 (((nxV cs n s) * 256) + (nxV cs n (nxS cs n s)))) rfl (OpY.add rfl rfl rfl (by omega) (by omega)) ?_
   refine Run.p (.int .i64 (((nxV cs n s) * 256) + (nxV cs n (nxS cs n s)))) rfl rfl ?_
   refine Run.dsr ?_
   refine Run.p (.int .i64 (((nxV cs n s) * 256) + (nxV cs n (nxS cs n s)))) rfl rfl ?_
   refine Run.p (.int .i64 k) rfl rfl ?_
   refine Run.y (.int .i64 ((((nxV cs n s) * 256) + (nxV cs n (nxS cs n s))) % k)) rfl (OpY.rem rfl rfl (by omega) (by omega)) ?_
   refine Run.p (.int .i64 ((((nxV cs n s) * 256) + (nxV cs n (nxS cs n s))) % k)) rfl rfl ?_
   refine Run.done ?_
   refine Run.ret ?_
   refine ⟨.int .i64 ((((nxV cs n s) * 256) + (nxV cs n (nxS cs n s))) % k), [.blk bc 84 [vc, .int .i64 ((((pkS cs n k s).1 : Nat) : Int)), .int .u64 ((pkS cs n k s).2)]], Out.one rfl rfl, (Some'.weak (.takeEq (by rw [hS]) (.nil _))), ?_⟩
   exact ⟨by rw [hV], rfl⟩
  ·have p11 := h11; try simp only [bs] at p11
   have hV : pkV cs n k s = nxV cs n s % k := by rw [pkV, if_neg (by omega), if_neg (by omega)]
   have hS : pkS cs n k s = nxS cs n s := by rw [pkS, if_neg (by omega), if_neg (by omega)]
   refine Run.skip ?_
   refine Run.sr ?_
   refine Run.p (.int .i64 (nxV cs n s)) rfl rfl ?_
   refine Run.p (.int .i64 k) rfl rfl ?_
   refine Run.y (.int .i64 ((nxV cs n s) % k)) rfl (OpY.rem rfl rfl (by omega) (by omega)) ?_
   refine Run.p (.int .i64 ((nxV cs n s) % k)) rfl rfl ?_
   refine Run.done ?_
   refine Run.ret ?_
   refine ⟨.int .i64 ((nxV cs n s) % k), [.blk bc 84 [vc, .int .i64 ((((pkS cs n k s).1 : Nat) : Int)), .int .u64 ((pkS cs n k s).2)]], Out.one rfl rfl, (Some'.weak (.takeEq (by rw [hS]) (.nil _))), ?_⟩
   exact ⟨by rw [hV], rfl⟩

theorem pick_ex {k : Int} {bc n : Nat} {vc : Value} {cs : List Int} {s : Nat × Int} {w : World} (hat : s.1 < 2305843009213693950) (hc : Cur w bc vc n cs) (hst : St (Of [.blk bc 84 [vc, .int .i64 (((s.1 : Nat) : Int)), .int .u64 (s.2)]]) w w [.blk bc 84 [vc, .int .i64 (((s.1 : Nat) : Int)), .int .u64 (s.2)]]) : Calls Try.prog 64 #[.pointer (some ⟨bc, 0, none⟩), .int .i64 k] w (Post (Of [.blk bc 84 [vc, .int .i64 (((s.1 : Nat) : Int)), .int .u64 (s.2)]]) w fun v H => ∃ (x : Int) (s1 : Nat × Int), (0 ≤ x ∧ (x < k ∨ x = 0)) ∧ s1.1 ≤ s.1 + 2 ∧ v = .int .i64 x ∧ H = [.blk bc 84 [vc, .int .i64 (((s1.1 : Nat) : Int)), .int .u64 (s1.2)]]) :=
  (pick_spec hat hc hst).mono fun e w1 ⟨v, H, h1, h2, h3, h4⟩ => ⟨v, H, h1, h2, _, _, pkV_range cs n k s, pkS_le cs n k s, h3, h4⟩

set_option maxHeartbeats 1000000 in
set_option maxRecDepth 20000 in
theorem one_spec {k : Int} {bc n : Nat} {vc : Value} {cs : List Int} {s : Nat × Int} {w : World} (hat : s.1 < 2305843009213693950) (hc : Cur w bc vc n cs) (hst : St (Of [.blk bc 84 [vc, .int .i64 (((s.1 : Nat) : Int)), .int .u64 (s.2)]]) w w [.blk bc 84 [vc, .int .i64 (((s.1 : Nat) : Int)), .int .u64 (s.2)]]) : Calls Try.prog 62 #[.pointer (some ⟨bc, 0, none⟩), .int .i64 k] w (Post (Of [.blk bc 84 [vc, .int .i64 (((s.1 : Nat) : Int)), .int .u64 (s.2)]]) w fun v H => v = .bool (pkV cs n k s == 0) ∧ H = [.blk bc 84 [vc, .int .i64 ((((pkS cs n k s).1 : Nat) : Int)), .int .u64 ((pkS cs n k s).2)]]) := by
 refine enter (n := 9) (args := [.pointer (some ⟨bc, 0, none⟩), .int .i64 k]) Try.func62 rfl rfl (hst) ?_
 refine Run.sr ?_
 refine Run.p (.bool false) rfl rfl ?_
 refine Run.dsr ?_
 refine Run.p (.pointer (some ⟨bc, 0, none⟩)) rfl rfl ?_
 refine Run.p (.int .i64 k) rfl rfl ?_
 refine Run.step rfl (OpStep.callM (H1 := [.blk bc 84 [vc, .int .i64 (((s.1 : Nat) : Int)), .int .u64 (s.2)]]) (H2 := []) (vs := [.pointer (some ⟨bc, 0, none⟩), .int .i64 k]) (caps := []) Tcall_64 rfl rfl (Weak.refl _) (fun w hs => pick_spec (s := s) hat (hc.go hs) (hs.sub (List.sublist_append_left _ _)).self) ?_)
 rintro _ _ ⟨rfl, rfl⟩
 show Run _ _ (putF _ _ _ (.int .i64 (pkV cs n k s))) [.blk bc 84 [vc, .int .i64 ((((pkS cs n k s).1 : Nat) : Int)), .int .u64 ((pkS cs n k s).2)]]
 refine Run.p (.bool ((pkV cs n k s) == 0)) rfl rfl ?_
 refine Run.p (.bool ((pkV cs n k s) == 0)) rfl rfl ?_
 refine Run.done ?_
 refine Run.ret ?_
 refine ⟨.bool ((pkV cs n k s) == 0), [.blk bc 84 [vc, .int .i64 ((((pkS cs n k s).1 : Nat) : Int)), .int .u64 ((pkS cs n k s).2)]], Out.one rfl rfl, (Some'.weak (.take (.nil _))), ?_⟩
 exact ⟨rfl, rfl⟩

theorem one_ex {k : Int} {bc n : Nat} {vc : Value} {cs : List Int} {s : Nat × Int} {w : World} (hat : s.1 < 2305843009213693950) (hc : Cur w bc vc n cs) (hst : St (Of [.blk bc 84 [vc, .int .i64 (((s.1 : Nat) : Int)), .int .u64 (s.2)]]) w w [.blk bc 84 [vc, .int .i64 (((s.1 : Nat) : Int)), .int .u64 (s.2)]]) : Calls Try.prog 62 #[.pointer (some ⟨bc, 0, none⟩), .int .i64 k] w (Post (Of [.blk bc 84 [vc, .int .i64 (((s.1 : Nat) : Int)), .int .u64 (s.2)]]) w fun v H => ∃ (x : Bool) (s1 : Nat × Int), s1.1 ≤ s.1 + 2 ∧ v = .bool x ∧ H = [.blk bc 84 [vc, .int .i64 (((s1.1 : Nat) : Int)), .int .u64 (s1.2)]]) :=
  (one_spec hat hc hst).mono fun e w1 ⟨v, H, h1, h2, h3, h4⟩ => ⟨v, H, h1, h2, _, _, pkS_le cs n k s, h3, h4⟩


theorem Cur.go2 {w0 w : World} {bc : Nat} {vc vl : Value} {n m size : Nat} {e : TypeId} {cs : List Int} {t : TypeId} {us ls : List Value} {H : List Res} (h : Cur w0 bc vc n cs) (ho : 0 < n → ∀ k, vc.ownBlock = some k → vl.ownBlock ≠ some k) (hs : St (Of [.blk bc t us, .own vl e size m ls]) w0 w H) : Cur w bc vc n cs :=
  ⟨hs.slOff h.sl fun h0 k hk ⟨r, hr, hrk⟩ => by
    simp only [List.mem_cons, List.not_mem_nil, or_false] at hr
    rcases hr with rfl | rfl
    · exact h.off h0 k hk hrk.symm
    · exact ho h0 k hk hrk, h.off, h.by_⟩

set_option maxHeartbeats 1000000 in
set_option maxRecDepth 20000 in
theorem among_spec {vl : Value} {m : Nat} {ls : List Int} {bc n : Nat} {vc : Value} {cs : List Int} {s : Nat × Int} {w : World} (hat : s.1 < 2305843009213693950) (hm : 0 < m) (hc : Cur w bc vc n cs) (hoff : 0 < n → ∀ k, vc.ownBlock = some k → vl.ownBlock ≠ some k) (hst : St (Of [.blk bc 84 [vc, .int .i64 (((s.1 : Nat) : Int)), .int .u64 (s.2)], .own vl 3 1 m (ints ls)]) w w [.blk bc 84 [vc, .int .i64 (((s.1 : Nat) : Int)), .int .u64 (s.2)], .own vl 3 1 m (ints ls)]) : Calls Try.prog 65 #[.pointer (some ⟨bc, 0, none⟩), vl] w (Post (Of [.blk bc 84 [vc, .int .i64 (((s.1 : Nat) : Int)), .int .u64 (s.2)], .own vl 3 1 m (ints ls)]) w fun v H => ∃ (i : Nat) (s1 : Nat × Int), i < m ∧ s1.1 ≤ s.1 + 2 ∧ v = .int .i64 (ix ls i) ∧ H = [.blk bc 84 [vc, .int .i64 (((s1.1 : Nat) : Int)), .int .u64 (s1.2)]]) := by
 have hll : ls.length = m := by have h := (hst.slOwn (.tail _ (.head _))).len; omega
 refine enter (n := 12) (args := [.pointer (some ⟨bc, 0, none⟩), vl]) Try.func65 rfl rfl (hst) ?_
 refine Run.sr ?_
 refine Run.p (.int .i64 0) rfl rfl ?_
 refine Run.dsr ?_
 refine Run.p (vl) rfl rfl ?_
 refine Run.p (.pointer (some ⟨bc, 0, none⟩)) rfl rfl ?_
 refine Run.p (vl) rfl rfl ?_
 refine Run.formOwn (.tail _ (List.Mem.head _)) (fun A_vl1 c_vl1 hv hcapc_vl1 hmaxc_vl1 => ?_) (fun _ _ _ => ⟨nofun, nofun, nofun⟩)
 subst hv
 refine Run.y (.int .i64 (((m : Nat) : Int))) rfl (OpY.len Tsl_22 rfl) ?_
 have hoff2 := hoff
 refine Run.step rfl (OpStep.callM (H1 := [.blk bc 84 [vc, .int .i64 (((s.1 : Nat) : Int)), .int .u64 (s.2)]]) (H2 := [.own (.slice A_vl1 m c_vl1) 3 1 m (ints ls)]) (vs := [.pointer (some ⟨bc, 0, none⟩), .int .i64 (((m : Nat) : Int))]) (caps := []) Tcall_64 rfl rfl (Weak.refl _) (fun w hs => pick_ex (s := s) hat (Cur.go2 hc hoff2 hs) (hs.sub (List.sublist_append_left _ _)).self) ?_)
 rintro _ _ ⟨x1, s1, hx1, hs1, rfl, rfl⟩
 show Run _ _ (putF _ _ _ (.int .i64 x1)) [.blk bc 84 [vc, .int .i64 (((s1.1 : Nat) : Int)), .int .u64 (s1.2)], .own (.slice A_vl1 m c_vl1) 3 1 m (ints ls)]
 refine Run.openOwn (.tail _ (List.Mem.head _)) (by omega) (fun gl cl hvgl hcapgl _ => ?_) (fun _ _ _ => ⟨nofun, nofun, nofun⟩)
 injection hvgl with hAgl _ hcgl; subst hAgl; subst hcgl
 refine Run.y (.pointer (some ⟨gl, x1.toNat, none⟩)) rfl (OpY.index (kk := x1.toNat) Tsl_22 rfl rfl (by omega) (by omega) (by first | rfl | omega)) ?_
 refine Run.y (.int .i64 (ix ls (x1.toNat))) rfl (OpY.load1 Tone_3 rfl (Cells.own0 (.tail _ (List.Mem.head _)) (pre1 (by omega)))) ?_
 refine Run.p (.int .i64 (ix ls (x1.toNat))) rfl rfl ?_
 refine Run.done ?_
 refine Run.ret ?_
 refine ⟨.int .i64 (ix ls (x1.toNat)), [.blk bc 84 [vc, .int .i64 (((s1.1 : Nat) : Int)), .int .u64 (s1.2)]], Out.one rfl rfl, (Some'.weak (.take (.nil _))), ?_⟩
 exact ⟨x1.toNat, s1, by omega, hs1, rfl, rfl⟩

end Go.Proofs.Yteehfidjofcfmaa
/- How the laws' slices of bytes are read. -/
set_option linter.unusedSimpArgs false
set_option linter.unusedVariables false
namespace Go.Proofs.Yteehfidjofcfmaa
open Go Go.RowKit
open Go.ChangeShapes Go.WideShapes Go.Deep
theorem byte_wf {n : Int} (h : (Lit.int .u8 n).wf = true) : 0 ≤ n ∧ n < 256 := by
  have h' : (decide (0 ≤ n) && decide (n ≤ 255)) = true := by
    first | exact h | simpa [Lit.wf, IntKind.min, IntKind.max] using h
  simp only [Bool.and_eq_true, decide_eq_true_eq] at h'
  omega
theorem open_bytes {H : Type} {enc : TypeId × Value → H} {P : Program} {w : World} {base : Nat} {spare : Nat → Bool} {held : Bool} {t e : TypeId} {fuel : Nat} {v : Value} {x : DataW H × List MemPlace}
    (ht : P.underlying t = some (.slice e)) (hu : P.underlying e = some (.int .u8)) (hc : P.cellsOf e = 1) (h : DataW.trod enc P w base spare held fuel t [v] = some x) :
    ∃ n cs, Sl w v 1 n (u8s cs) ∧ ∀ i ∈ cs, 0 ≤ i ∧ i < 256 := by
  rcases open_slice1 ht hc h with ⟨hv, _⟩ | ⟨a, len, cap, m, n, V, D, Pl, hcs, hb, hl, hm, hmm, hx, hi⟩
  · simp only [List.cons.injEq, and_true] at hv
    subst hv
    exact ⟨0, [], ⟨by simp [u8s], none, 0, rfl, Nat.le_refl _, by simp, fun h => absurd h (by omega)⟩, by simp⟩
  · simp only [List.cons.injEq, and_true] at hcs
    subst hcs
    have hle : len ≤ m := by rw [hmm]; split <;> omega
    have key : ∀ j, j < len → ∃ n, w.cell? (a.add j) = some (.int .u8 n) ∧ 0 ≤ n ∧ n < 256 := by
      intro j hj
      obtain ⟨h1, h2⟩ := hi j (by omega)
      obtain ⟨n', he, _, hw⟩ := DataW.trod_int hu h2
      simp only [List.cons.injEq, and_true] at he
      rw [he] at h1
      exact ⟨n', h1, byte_wf hw⟩
    have hnil : ∀ {a : Addr} {u : Value}, w.cell? a = some u → ∃ b o, a = ⟨b, o, none⟩ ∧ b < w.heap.size := by
      rintro ⟨b, o, sp⟩ u hu
      unfold World.cell? at hu
      split at hu
      · rename_i c _ _ hb
        cases sp with
        | none => exact ⟨b, o, rfl, (Array.getElem?_eq_some_iff.1 hb).1⟩
        | some s => simp at hu
      · cases hu
    rcases Nat.eq_zero_or_pos len with hl0 | hl0
    · subst hl0
      exact ⟨0, [], ⟨by simp [u8s], some a, cap, rfl, by omega, hm, fun h => absurd h (by omega)⟩, by simp⟩
    · obtain ⟨n0, h0, _⟩ := key 0 hl0
      have h00 : w.cell? a = some (.int .u8 n0) := by simpa [Addr.add] using h0
      obtain ⟨b, o, rfl, hbs⟩ := hnil h00
      let g : Nat → Int := fun j => match w.cell? ⟨b, o + j, none⟩ with | some (.int _ n) => n | _ => 0
      have hg : ∀ j, j < len → w.cell? ⟨b, o + j, none⟩ = some (.int .u8 (g j)) ∧ 0 ≤ g j ∧ g j < 256 := by
        intro j hj
        obtain ⟨n, h1, h2⟩ := key j hj
        rw [Addr.add_mid] at h1
        have : g j = n := by simp only [g, h1]
        rw [this]; exact ⟨h1, h2⟩
      refine ⟨len, (List.range len).map g, ⟨by simp [u8s], some ⟨b, o, none⟩, cap, rfl, hl, hm, fun _ => ⟨b, o, rfl, hbs, ?_⟩⟩, ?_⟩
      · intro j v hv
        have hj : j < len := by
          have := (List.getElem?_eq_some_iff.1 hv).1
          simpa [u8s] using this
        have : v = .int .u8 (g j) := by simpa [u8s, hj] using hv.symm
        rw [this]; exact (hg j hj).1
      · intro i hi'
        obtain ⟨j, hj, rfl⟩ := List.mem_map.1 hi'
        exact (hg j (by simpa using hj)).2

end Go.Proofs.Yteehfidjofcfmaa
/- Plain laws: rows of bits, their rank by two ways, and additions of rows. -/
set_option linter.unusedSimpArgs false
set_option linter.unusedVariables false
namespace Go.Proofs.Yteehfidjofcfmaa
open Go Go.RowKit
/-- Numbers without a sign, as numbers. -/
def nl (r : List Nat) : List Int := r.map fun x : Nat => (x : Int)
def nx (r : List Nat) (i : Nat) : Nat := r.getD i 0
@[simp] theorem nl_length (r : List Nat) : (nl r).length = r.length := by simp [nl]
theorem ix_nl (r : List Nat) (i : Nat) : ix (nl r) i = (nx r i : Nat) := by
  simp only [ix, nl, nx, List.getD, List.getElem?_map]
  cases r[i]? <;> rfl
theorem nl_set (r : List Nat) (i x : Nat) : (nl r).set i (x : Int) = nl (r.set i x) := by simp [nl, List.map_set]
theorem nx_set {r : List Nat} {i k x : Nat} (h : k < r.length) : nx (r.set i x) k = if i = k then x else nx r k := by
  simp only [nx, List.getD, List.getElem?_set]
  by_cases e : i = k
  · subst e; simp [h]
  · simp [e]
theorem nx_ge {r : List Nat} {i : Nat} (h : r.length ≤ i) : nx r i = 0 := by simp [nx, List.getD, List.getElem?_eq_none h]
theorem list_ext_nx {r s : List Nat} (hl : r.length = s.length) (h : ∀ i, i < r.length → nx r i = nx s i) : r = s := by
  apply List.ext_getElem hl
  intro i h1 h2
  have := h i h1
  simpa [nx, List.getD, h1, h2] using this
theorem nl_inj {r s : List Nat} (h : nl r = nl s) : r = s := by
  refine list_ext_nx (by have := congrArg List.length h; simpa using this) fun i hi => ?_
  have h1 := ix_nl r i
  rw [h, ix_nl] at h1; omega
/-- The rows below a bound, as numbers without a sign. -/
def nats (xs : List Int) : List Nat := xs.map Int.toNat
theorem nl_nats {xs : List Int} (h : ∀ x ∈ xs, 0 ≤ x) : nl (nats xs) = xs := by
  induction xs with
  | nil => rfl
  | cons x xs ih =>
    have h1 := h x (by simp)
    have h2 := ih fun y hy => h y (by simp [hy])
    simp only [nl, nats, List.map_cons, List.map_map] at h2 ⊢
    rw [h2, Int.toNat_of_nonneg h1]

/-! ### Selections of rows -/
/-- Bit j of the sum of the selected rows. -/
def parS : List Bool → List Nat → Nat → Bool
  | [], _, _ => false
  | _ :: _, [], _ => false
  | b :: s, x :: r, j => (b && x.testBit j) ^^ parS s r j
/-- No sum of rows is 0 but that of none. -/
def Indep (r : List Nat) : Prop := ∀ s : List Bool, s.length = r.length → (∀ j, parS s r j = false) → ∀ b ∈ s, b = false
theorem parS_append : ∀ (s : List Bool) (r : List Nat) (t : List Bool) (q : List Nat) (j : Nat), s.length = r.length → parS (s ++ t) (r ++ q) j = (parS s r j ^^ parS t q j)
  | [], [], t, q, j, _ => by simp [parS]
  | b :: s, x :: r, t, q, j, h => by
    have := parS_append s r t q j (by simpa using h)
    simp only [List.cons_append, parS, this, Bool.xor_assoc]
/-- The rows, each with p added where a mark says so. -/
theorem parS_addp (p : Nat) (f : Nat → Bool) : ∀ (s : List Bool) (r : List Nat) (j : Nat), s.length = r.length →
    parS s (r.map fun x => if f x then x ^^^ p else x) j = (parS s r j ^^ ((s.zip r).foldr (fun y c => (y.1 && f y.2) ^^ c) false && p.testBit j))
  | [], [], j, _ => by simp [parS]
  | b :: s, x :: r, j, h => by
    have ih := parS_addp p f s r j (by simpa using h)
    simp only [List.map_cons, parS, ih, List.zip_cons_cons, List.foldr_cons]
    cases hf : f x <;> cases b <;> simp [Nat.testBit_xor]
    all_goals (generalize parS s r j = u; generalize List.foldr _ false (s.zip r) = v; generalize p.testBit j = q; generalize x.testBit j = z; cases u <;> cases v <;> cases q <;> cases z <;> rfl)
theorem parS_zero : ∀ (s : List Bool) (r : List Nat) (j : Nat), (∀ b ∈ s, b = false) → parS s r j = false
  | [], _, _, _ => rfl
  | _ :: _, [], _, _ => rfl
  | b :: s, x :: r, j, h => by
    have h1 := h b (by simp)
    have h2 := parS_zero s r j fun c hc => h c (by simp [hc])
    simp [parS, h1, h2]
theorem indep_perm_swap {A B : List Nat} {x : Nat} : Indep (A ++ x :: B) ↔ Indep (x :: (A ++ B)) := by
  constructor
  · intro h s hs hz
    obtain ⟨c, t, rfl⟩ : ∃ c t, s = c :: t := by
      cases s with
      | nil => simp at hs
      | cons c t => exact ⟨c, t, rfl⟩
    have hl : t.length = A.length + B.length := by simpa using hs
    have h1 := h (t.take A.length ++ c :: t.drop A.length) (by simp; omega) fun j => by
      have := hz j
      rw [parS_append _ _ _ _ _ (by simp; omega)]
      simp only [parS] at this ⊢
      have e : parS t (A ++ B) j = (parS (t.take A.length) A j ^^ parS (t.drop A.length) B j) := by
        conv => lhs; rw [← List.take_append_drop A.length t]
        exact parS_append _ _ _ _ _ (by simp; omega)
      rw [e] at this
      revert this
      generalize parS (t.take A.length) A j = u; generalize parS (t.drop A.length) B j = v; generalize (c && x.testBit j) = z
      cases u <;> cases v <;> cases z <;> simp
    intro b hb
    apply h1 b
    simp only [List.mem_append, List.mem_cons] at hb ⊢
    rcases hb with rfl | hb
    · exact .inr (.inl rfl)
    · rw [← List.take_append_drop A.length t] at hb
      rcases List.mem_append.1 hb with hb | hb
      · exact .inl hb
      · exact .inr (.inr hb)
  · intro h s hs hz
    have hl : s.length = A.length + (B.length + 1) := by simpa using hs
    obtain ⟨c, t, ht⟩ : ∃ c t, s.drop A.length = c :: t := by
      cases hd : s.drop A.length with
      | nil => have := congrArg List.length hd; simp at this; omega
      | cons c t => exact ⟨c, t, rfl⟩
    have htl : t.length = B.length := by have := congrArg List.length ht; simp at this; omega
    have es : s = s.take A.length ++ c :: t := by rw [← ht, List.take_append_drop]
    have h1 := h (c :: (s.take A.length ++ t)) (by simp; omega) fun j => by
      have := hz j
      rw [es, parS_append _ _ _ _ _ (by simp; omega)] at this
      simp only [parS] at this ⊢
      rw [parS_append _ _ _ _ _ (by simp; omega)]
      revert this
      generalize parS (s.take A.length) A j = u; generalize parS t B j = v; generalize (c && x.testBit j) = z
      cases u <;> cases v <;> cases z <;> simp
    intro b hb
    apply h1 b
    rw [es] at hb
    simp only [List.mem_append, List.mem_cons] at hb ⊢
    rcases hb with hb | rfl | hb
    · exact .inr (.inl hb)
    · exact .inl rfl
    · exact .inr (.inr hb)
/-- The first row may be added to others. -/
theorem indep_add {x : Nat} {f : Nat → Bool} {r : List Nat} : Indep (x :: r) ↔ Indep (x :: r.map fun y => if f y then y ^^^ x else y) := by
  have key : ∀ (c : Bool) (s : List Bool), s.length = r.length → ∀ j, parS (c :: s) (x :: r.map fun y => if f y then y ^^^ x else y) j = parS ((c ^^ (s.zip r).foldr (fun y c => (y.1 && f y.2) ^^ c) false) :: s) (x :: r) j := by
    intro c s hs j
    simp only [parS, parS_addp x f s r j hs]
    generalize parS s r j = u; generalize List.foldr _ false (s.zip r) = v; generalize x.testBit j = q
    cases u <;> cases v <;> cases q <;> cases c <;> rfl
  have fz : ∀ (s : List Bool) (r : List Nat), (∀ b ∈ s, b = false) → (s.zip r).foldr (fun y c => (y.1 && f y.2) ^^ c) false = false := by
    intro s
    induction s with
    | nil => intro r _; rfl
    | cons b s ih =>
      intro r h
      cases r with
      | nil => rfl
      | cons y r => simp only [List.zip_cons_cons, List.foldr_cons]; rw [ih r fun c hc => h c (by simp [hc]), h b (by simp)]; rfl
  constructor
  · intro h s hs hz
    obtain ⟨c, t, rfl⟩ : ∃ c t, s = c :: t := by
      cases s with
      | nil => simp at hs
      | cons c t => exact ⟨c, t, rfl⟩
    have ht : t.length = r.length := by simpa using hs
    have h1 := h ((c ^^ (t.zip r).foldr (fun y c => (y.1 && f y.2) ^^ c) false) :: t) (by simp [ht]) fun j => by rw [← key c t ht j]; exact hz j
    have h2 : ∀ b ∈ t, b = false := fun b hb => h1 b (by simp [hb])
    intro b hb
    rcases List.mem_cons.1 hb with rfl | hb
    · have := h1 _ (List.mem_cons_self ..)
      rw [fz t r h2] at this; simpa using this
    · exact h2 b hb
  · intro h s hs hz
    obtain ⟨c, t, rfl⟩ : ∃ c t, s = c :: t := by
      cases s with
      | nil => simp at hs
      | cons c t => exact ⟨c, t, rfl⟩
    have ht : t.length = r.length := by simpa using hs
    have h1 := h ((c ^^ (t.zip r).foldr (fun y c => (y.1 && f y.2) ^^ c) false) :: t) (by simp [ht]) fun j => by
      rw [key _ t ht j]
      have e : ((c ^^ (t.zip r).foldr (fun y c => (y.1 && f y.2) ^^ c) false) ^^ (t.zip r).foldr (fun y c => (y.1 && f y.2) ^^ c) false) = c := by
        generalize List.foldr _ false (t.zip r) = v; cases c <;> cases v <;> rfl
      rw [e]; exact hz j
    have h2 : ∀ b ∈ t, b = false := fun b hb => h1 b (by simp [hb])
    intro b hb
    rcases List.mem_cons.1 hb with rfl | hb
    · have := h1 _ (List.mem_cons_self ..)
      rw [fz t r h2] at this; simpa using this
    · exact h2 b hb
/-- A row with a bit that no other row has plays no part. -/
theorem indep_private {x b : Nat} {r : List Nat} (hx : x.testBit b = true) (hr : ∀ y ∈ r, y.testBit b = false) : Indep (x :: r) ↔ Indep r := by
  have hpb : ∀ (s : List Bool) (r : List Nat), (∀ y ∈ r, y.testBit b = false) → parS s r b = false := by
    intro s
    induction s with
    | nil => intro r _; rfl
    | cons c s ih =>
      intro r h
      cases r with
      | nil => rfl
      | cons y r => simp only [parS]; rw [ih r fun z hz => h z (by simp [hz]), h y (by simp)]; simp
  constructor
  · intro h s hs hz b' hb'
    exact h (false :: s) (by simp [hs]) (fun j => by simp [parS, hz j]) b' (by simp [hb'])
  · intro h s hs hz
    obtain ⟨c, t, rfl⟩ : ∃ c t, s = c :: t := by
      cases s with
      | nil => simp at hs
      | cons c t => exact ⟨c, t, rfl⟩
    have hc : c = false := by
      have := hz b
      simp only [parS, hx, Bool.and_true] at this
      rw [hpb t r hr] at this; simpa using this
    subst hc
    have h1 := h t (by simpa using hs) fun j => by have := hz j; simpa [parS] using this
    intro b' hb'
    rcases List.mem_cons.1 hb' with rfl | hb'
    · rfl
    · exact h1 b' hb'
theorem indep_nil : Indep [] := fun s hs _ b hb => by
  have : s = [] := by simpa using hs
  subst this; cases hb
/-- Rows that are all 0. -/
theorem indep_zeros {r : List Nat} (h : ∀ x ∈ r, ∀ j, x.testBit j = false) : Indep r ↔ r = [] := by
  constructor
  · intro hi
    cases r with
    | nil => rfl
    | cons x r =>
      have hz : ∀ (s : List Bool) (r : List Nat), (∀ x ∈ r, ∀ j, x.testBit j = false) → ∀ j, parS s r j = false := by
        intro s
        induction s with
        | nil => intro r _ j; rfl
        | cons c s ih =>
          intro r h j
          cases r with
          | nil => rfl
          | cons y r => simp only [parS]; rw [ih r (fun z hz => h z (by simp [hz])) j, h y (by simp) j]; simp
      have := hi (List.replicate (r.length + 1) true) (by simp) (hz _ _ h) true (by simp)
      cases this
  · rintro rfl; exact indep_nil

/-! ### The program's rank -/
def idxB (b : Nat) (l : List Nat) : Nat := l.findIdx (·.testBit b)
def pstep (b : Nat) (l : List Nat) : List Nat := (l.eraseIdx (idxB b l)).map fun r => if r.testBit b then r ^^^ nx l (idxB b l) else r
def hasB (b : Nat) (l : List Nat) : Bool := l.any (·.testBit b)
def rkS (l : List Nat) : Nat → List Nat × Nat
  | 0 => (l, 0)
  | b + 1 => if hasB b (rkS l b).1 then (pstep b (rkS l b).1, (rkS l b).2 + 1) else rkS l b
theorem split_idx {b : Nat} {l : List Nat} (h : hasB b l = true) : ∃ A x B, l = A ++ x :: B ∧ A.length = idxB b l ∧ x = nx l (idxB b l) ∧ x.testBit b = true ∧ l.eraseIdx (idxB b l) = A ++ B := by
  have hlt : idxB b l < l.length := List.findIdx_lt_length_of_exists (by simpa [hasB, List.any_eq_true] using h)
  refine ⟨l.take (idxB b l), l[idxB b l], l.drop (idxB b l + 1), ?_, by simp; omega, by simp [nx, List.getD, hlt], ?_, ?_⟩
  · rw [List.getElem_cons_drop, List.take_append_drop]
  · exact List.findIdx_getElem (w := hlt)
  · exact List.eraseIdx_eq_take_drop_succ ..
theorem pstep_len {b : Nat} {l : List Nat} (h : hasB b l = true) : (pstep b l).length + 1 = l.length := by
  obtain ⟨A, x, B, h1, _, _, _, h2⟩ := split_idx h
  have := congrArg List.length h1
  simp only [pstep, h2, List.length_map, List.length_append, List.length_cons] at this ⊢
  omega
theorem pstep_indep {b : Nat} {l : List Nat} (h : hasB b l = true) : Indep l ↔ Indep (pstep b l) := by
  obtain ⟨A, x, B, h1, _, hx, hb, h2⟩ := split_idx h
  rw [pstep, h2, ← hx]
  conv => lhs; rw [h1]
  rw [indep_perm_swap, indep_add (f := fun y => y.testBit b), indep_private hb]
  intro y hy
  obtain ⟨z, _, rfl⟩ := List.mem_map.1 hy
  cases hz : z.testBit b <;> simp [hz, Nat.testBit_xor, hb]
theorem rkS_len (l : List Nat) : ∀ b, (rkS l b).1.length + (rkS l b).2 = l.length
  | 0 => rfl
  | b + 1 => by
    have ih := rkS_len l b
    simp only [rkS]
    split
    · rename_i h
      have := pstep_len h
      dsimp only; omega
    · exact ih
theorem rkS_indep (l : List Nat) : ∀ b, Indep l ↔ Indep (rkS l b).1
  | 0 => Iff.rfl
  | b + 1 => by
    rw [rkS_indep l b]
    simp only [rkS]
    split
    · rename_i h; exact pstep_indep h
    · exact Iff.rfl
theorem rkS_low (l : List Nat) : ∀ b, ∀ x ∈ (rkS l b).1, ∀ j, j < b → x.testBit j = false
  | 0, _, _, _, h => by omega
  | b + 1, x, hx, j, hj => by
    have ih := rkS_low l b
    simp only [rkS] at hx
    split at hx
    · rename_i h
      obtain ⟨A, p, B, h1, _, hp, hb, h2⟩ := split_idx h
      simp only [pstep, h2, List.mem_map] at hx
      obtain ⟨z, hz, rfl⟩ := hx
      have hzm : z ∈ (rkS l b).1 := by rw [h1]; simp only [List.mem_append, List.mem_cons] at hz ⊢; exact hz.elim .inl fun h => .inr (.inr h)
      have hpm : p ∈ (rkS l b).1 := by rw [h1]; simp
      rw [← hp]
      by_cases e : j = b
      · subst e
        cases hzb : z.testBit j <;> simp [hzb, Nat.testBit_xor, hb]
      · have h3 := ih z hzm j (by omega)
        have h4 := ih p hpm j (by omega)
        split
        · rw [Nat.testBit_xor, h3, h4]; rfl
        · exact h3
    · rename_i h
      by_cases e : j = b
      · subst e
        simp only [hasB, List.any_eq_true, not_exists, not_and, Bool.not_eq_true] at h
        exact h x hx
      · exact ih x hx j (by omega)
theorem rkS_bound (l : List Nat) {k : Nat} (hl : ∀ x ∈ l, x < 2 ^ k) : ∀ b, ∀ x ∈ (rkS l b).1, x < 2 ^ k
  | 0, x, h => hl x h
  | b + 1, x, hx => by
    have ih := rkS_bound l hl b
    simp only [rkS] at hx
    split at hx
    · rename_i h
      obtain ⟨A, p, B, h1, _, hp, hb, h2⟩ := split_idx h
      simp only [pstep, h2, List.mem_map] at hx
      obtain ⟨z, hz, rfl⟩ := hx
      have hzm : z ∈ (rkS l b).1 := by rw [h1]; simp only [List.mem_append, List.mem_cons] at hz ⊢; exact hz.elim .inl fun h => .inr (.inr h)
      have hpm : p ∈ (rkS l b).1 := by rw [h1]; simp
      rw [← hp]
      split
      · exact Nat.xor_lt_two_pow (ih z hzm) (ih p hpm)
      · exact ih z hzm
    · exact ih x hx
/-- The program's rank is whole exactly where the rows are independent. -/
theorem rkS_full {l : List Nat} {k : Nat} (hl : ∀ x ∈ l, x < 2 ^ k) : (rkS l k).2 = l.length ↔ Indep l := by
  rw [rkS_indep l k, indep_zeros]
  · have := rkS_len l k
    rw [← List.length_eq_zero_iff]; omega
  · intro x hx j
    by_cases e : j < k
    · exact rkS_low l k x hx j e
    · exact Nat.testBit_lt_two_pow (Nat.lt_of_lt_of_le (rkS_bound l hl k x hx) (Nat.pow_le_pow_right (by omega) (by omega)))

end Go.Proofs.Yteehfidjofcfmaa
/- Walks: small functions. -/
set_option linter.unusedSimpArgs false
set_option linter.unusedVariables false
namespace Go.Proofs.Yteehfidjofcfmaa
open Go Go.RowKit
namespace W1T
theorem Tagg_71 : aggOf Try.prog 71 = some 3 := by kernel_rfl
theorem Tfo_71_0 : fieldOff Try.prog 71 0 = some 0 := by kernel_rfl
theorem Tfo_71_1 : fieldOff Try.prog 71 1 = some 1 := by kernel_rfl
theorem Tfo_71_2 : fieldOff Try.prog 71 2 = some 2 := by kernel_rfl
theorem Tone_3 : oneOf Try.prog 3 = true := by kernel_rfl
theorem Tsize_3 : (Try.prog.info? 3).map (·.size) = some 1 := by kernel_rfl
theorem Tsl_36 : sliceOf Try.prog 36 = some (71, 3, 24, [.int .i64 0, .int .i64 0, .int .i64 0]) := by kernel_rfl
end W1T
open W1T
set_option maxHeartbeats 1000000 in
set_option maxRecDepth 20000 in
theorem within_spec (x lo hi : Int) (w : World) : Calls Try.prog 73 #[.int .i64 x, .int .i64 lo, .int .i64 hi] w (Post No w fun v _ => v = .bool (within x lo hi)) := by
 refine enter (n := 15) (args := [.int .i64 x, .int .i64 lo, .int .i64 hi]) Try.func73 rfl rfl (St.empty _ _) ?_
 refine Run.sr ?_
 refine Run.p (.bool false) rfl rfl ?_
 refine Run.dsr ?_
 refine Run.p (.int .i64 lo) rfl rfl ?_
 refine Run.p (.int .i64 x) rfl rfl ?_
 refine Run.p (.bool (decide (lo ≤ x))) rfl rfl ?_
 rcases Bool.eq_false_or_eq_true (decide (lo ≤ x)) with h10 | h10
 ·refine Run.q (v := .bool true) rfl (OpQ.y (OpY.moveB rfl h10)) ?_
  have p10 := h10; try simp only [bs] at p10
  refine Run.p (.int .i64 x) rfl rfl ?_
  refine Run.p (.int .i64 hi) rfl rfl ?_
  refine Run.p (.bool (decide (x ≤ hi))) rfl rfl ?_
  refine Run.p (.bool (decide (x ≤ hi))) rfl rfl ?_
  refine Run.p (.bool (decide (x ≤ hi))) rfl rfl ?_
  refine Run.done ?_
  refine Run.ret ?_
  refine ⟨.bool (decide (x ≤ hi)), [], Out.one rfl rfl, (Some'.weak (.nil _)), ?_⟩
  show _ = _; simp [within, *]
 ·refine Run.q (v := .bool false) rfl (OpQ.y (OpY.moveB rfl h10)) ?_
  have p10 := h10; try simp only [bs] at p10
  refine Run.pass rfl ?_
  refine Run.pass rfl ?_
  refine Run.pass rfl ?_
  refine Run.p (.bool false) rfl rfl ?_
  refine Run.p (.bool false) rfl rfl ?_
  refine Run.done ?_
  refine Run.ret ?_
  refine ⟨.bool false, [], Out.one rfl rfl, (Some'.weak (.nil _)), ?_⟩
  show _ = _; simp [within, *]

set_option maxHeartbeats 1000000 in
set_option maxRecDepth 20000 in
theorem l1In_spec (x lo hi : Int) (w : World) : Calls Try.prog 100 #[.int .i64 x, .int .i64 lo, .int .i64 hi] w (Post No w fun v _ => v = .bool (within x lo hi)) := by
 refine enter (n := 15) (args := [.int .i64 x, .int .i64 lo, .int .i64 hi]) Try.func100 rfl rfl (St.empty _ _) ?_
 refine Run.sr ?_
 refine Run.p (.bool false) rfl rfl ?_
 refine Run.dsr ?_
 refine Run.p (.int .i64 x) rfl rfl ?_
 refine Run.p (.int .i64 lo) rfl rfl ?_
 refine Run.p (.bool (decide (x ≥ lo))) rfl rfl ?_
 rcases Bool.eq_false_or_eq_true (decide (x ≥ lo)) with h10 | h10
 ·refine Run.q (v := .bool true) rfl (OpQ.y (OpY.moveB rfl h10)) ?_
  have p10 := h10; try simp only [bs] at p10
  refine Run.p (.int .i64 x) rfl rfl ?_
  refine Run.p (.int .i64 hi) rfl rfl ?_
  refine Run.p (.bool (decide (x ≤ hi))) rfl rfl ?_
  refine Run.p (.bool (decide (x ≤ hi))) rfl rfl ?_
  refine Run.p (.bool (decide (x ≤ hi))) rfl rfl ?_
  refine Run.done ?_
  refine Run.ret ?_
  refine ⟨.bool (decide (x ≤ hi)), [], Out.one rfl rfl, (Some'.weak (.nil _)), ?_⟩
  show _ = _; simp_all [within] <;> omega
 ·refine Run.q (v := .bool false) rfl (OpQ.y (OpY.moveB rfl h10)) ?_
  have p10 := h10; try simp only [bs] at p10
  refine Run.pass rfl ?_
  refine Run.pass rfl ?_
  refine Run.pass rfl ?_
  refine Run.p (.bool false) rfl rfl ?_
  refine Run.p (.bool false) rfl rfl ?_
  refine Run.done ?_
  refine Run.ret ?_
  refine ⟨.bool false, [], Out.one rfl rfl, (Some'.weak (.nil _)), ?_⟩
  show _ = _; simp_all [within] <;> omega

end Go.Proofs.Yteehfidjofcfmaa
/- Walks: the laws' own functions on edges and coupling graphs. -/
set_option linter.unusedSimpArgs false
set_option linter.unusedVariables false
namespace Go.Proofs.Yteehfidjofcfmaa
open Go Go.RowKit
end Go.Proofs.Yteehfidjofcfmaa
/- Walks: valid edges, valid coupling graphs; the law FnExactIsValidCouplingGraph. -/
set_option linter.unusedSimpArgs false
set_option linter.unusedVariables false
namespace Go.Proofs.Yteehfidjofcfmaa
open Go Go.RowKit
/-- Edge i of a flat list of edges is in range and behind the one before it. -/
def edgeOk (N : Int) (xs : List Int) (i : Nat) : Prop :=
  0 ≤ ix xs (i * 2) ∧ ix xs (i * 2) < ix xs (i * 2 + 1) ∧ ix xs (i * 2 + 1) < N ∧ (0 < i → ix xs ((i - 1) * 2) < ix xs (i * 2) ∨ (ix xs ((i - 1) * 2) = ix xs (i * 2) ∧ ix xs ((i - 1) * 2 + 1) < ix xs (i * 2 + 1)))
instance (N : Int) (xs : List Int) (i : Nat) : Decidable (edgeOk N xs i) := by unfold edgeOk; infer_instance
end Go.Proofs.Yteehfidjofcfmaa
/- Walks: searches in slices, placements, neighbours in a coupling graph. -/
set_option linter.unusedSimpArgs false
set_option linter.unusedVariables false
namespace Go.Proofs.Yteehfidjofcfmaa
open Go Go.RowKit
namespace Cg3T
theorem Tcall_125 : callable Try.prog 125 = true := by kernel_rfl
theorem Tone_3 : oneOf Try.prog 3 = true := by kernel_rfl
theorem Tsl_22 : sliceOf Try.prog 22 = some (3, 1, 8, [.int .i64 0]) := by kernel_rfl
end Cg3T
open Cg3T
set_option maxHeartbeats 1000000 in
set_option maxRecDepth 20000 in
theorem l1Has_spec {va : Value} {n : Nat} {xs : List Int} {x : Int} {w : World} (ha : Sl w va 1 n (ints xs)) : Calls Try.prog 126 #[va, .int .i64 x] w (Post No w fun v _ => v = .bool (hasI xs x n)) := by
 have hxl := ha.len
 have hn := ha.le
 obtain ⟨A, c, rfl, _, _⟩ := ha.form0
 refine enter (n := 17) (args := [.slice A n c, .int .i64 x]) Try.func126 rfl rfl (St.empty _ _) ?_
 refine Run.sr ?_
 refine Run.p (.bool false) rfl rfl ?_
 refine Run.done ?_
 refine Run.seq ?_
 refine Run.sr ?_
 refine Run.p (.slice A n c) rfl rfl ?_
 refine Run.y (.int .i64 (((n : Nat) : Int))) rfl (OpY.len Tsl_22 rfl) ?_
 refine Run.p (.int .i64 0) rfl rfl ?_
 refine Run.done ?_
 refine Run.block ?_
 refine Run.loop (ι := Nat) [4, 6, 9, 10, 11, 12, 13, 14, 15, 16] (fun k => [(9, .int .i64 (((k : Nat) : Int)))]) (fun k => []) (fun k => k ≤ n ∧ (∀ i, i < k → decide (ix xs i = x) = false)) (fun k => n - k) 0 ?_ ?_ ?_ ?_
 ·exact ⟨Nat.zero_le _, by first | trivial | (intro i hi; omega)⟩
 ·exact ⟨rfl, trivial⟩
 ·exact (Some'.weak (.nil _))
 ·rintro k fr hinv
  show Run _ _ (over _ _ [(9, .int .i64 (((k : Nat) : Int)))] fr) []
  try dsimp only at hinv
  refine Run.sr ?_
  refine Run.p (.bool (decide ((((k : Nat) : Int)) < (((n : Nat) : Int))))) rfl rfl ?_
  refine Run.done ?_
  refine Run.seq ?_
  refine Run.cond (b := decide ((((k : Nat) : Int)) < (((n : Nat) : Int)))) rfl (fun h10 => ?_) (fun h10 => ?_)
  ·have p10 := h10; try simp only [bs] at p10
   have hltk : k < n := by omega
   obtain ⟨b, o, rfl⟩ := ha.opn (by omega)
   refine Run.skip ?_
   refine Run.seq ?_
   refine Run.block ?_
   refine Run.sr ?_
   refine Run.y (.pointer (some ⟨b, o + k, none⟩)) rfl (OpY.index (kk := k) Tsl_22 rfl rfl (by omega) (by omega) (by first | rfl | omega)) ?_
   refine Run.y (.int .i64 (ix xs (k))) rfl (OpY.load1 Tone_3 rfl (Cells.arg (k := k) ha rfl (by omega) (pre1 (by omega)))) ?_
   refine Run.p (.int .i64 (ix xs (k))) rfl rfl ?_
   refine Run.dsr ?_
   refine Run.p (.int .i64 (ix xs (k))) rfl rfl ?_
   refine Run.p (.int .i64 x) rfl rfl ?_
   refine Run.p (.bool ((ix xs (k)) == x)) rfl rfl ?_
   refine Run.done ?_
   refine Run.cond (b := (ix xs (k)) == x) rfl (fun h15 => ?_) (fun h15 => ?_)
   ·have p15 := h15; try simp only [bs] at p15
    refine Run.seq ?_
    have hres : hasI xs x n = true := anyI_true hltk (by simpa using p15)
    refine Run.region ?_
    refine Run.p (.bool true) rfl rfl ?_
    refine Run.done ?_
    refine Run.ret ?_
    refine ⟨.bool true, [], Out.one rfl rfl, (Some'.weak (.nil _)), ?_⟩
    show _ = _; rw [hres]
   ·have p15 := h15; try simp only [bs] at p15
    refine Run.skip ?_
    refine Run.blockEnd ?_
    have hgood : decide (ix xs k = x) = false := by simpa using p15
    refine Run.region ?_
    refine Run.y (.int .i64 ((((k : Nat) : Int)) + 1)) rfl (OpY.add rfl rfl rfl (by omega) (by omega)) ?_
    refine Run.p (.int .i64 ((((k : Nat) : Int)) + 1)) rfl rfl ?_
    refine Run.done ?_
    refine Run.goal ⟨(by repeat (first | exact Same.refl _ _ | refine Same.put rfl ?_ | refine Same.over rfl rfl ?_)), k + 1, ?_, ?_, ?_, ?_⟩
    ·refine ⟨by omega, ?_⟩
     intro i hi
     rcases Nat.lt_succ_iff_lt_or_eq.1 hi with h | h
     ·exact hinv.2 i h
     ·rw [h]; exact hgood
    ·omega
    ·exact ⟨(by first | rfl | (congr 1; omega) | simp), trivial⟩
    ·exact (Some'.weak (.nil _))
  ·have p10 := h10; try simp only [bs] at p10
   have hknk : k = n := by omega
   have hres : hasI xs x n = false := by rw [← hknk]; exact anyI_false hinv.2
   refine Run.exit rfl ?_
   refine Run.sr ?_
   refine Run.p (.bool false) rfl rfl ?_
   refine Run.done ?_
   refine Run.ret ?_
   refine ⟨.bool false, [], Out.one rfl rfl, (Some'.weak (.nil _)), ?_⟩
   show _ = _; rw [hres]

set_option maxHeartbeats 1000000 in
set_option maxRecDepth 20000 in
theorem IndexInt_spec {va : Value} {n : Nat} {xs : List Int} {x : Int} {w : World} (ha : Sl w va 1 n (ints xs)) : Calls Try.prog 125 #[va, .int .i64 x] w (Post No w fun v _ => v = .int .i64 (findI (fun i => decide (ix xs i = x)) n)) := by
 have hxl := ha.len
 have hn := ha.le
 obtain ⟨A, c, rfl, _, _⟩ := ha.form0
 refine enter (n := 19) (args := [.slice A n c, .int .i64 x]) Try.func125 rfl rfl (St.empty _ _) ?_
 refine Run.sr ?_
 refine Run.p (.int .i64 0) rfl rfl ?_
 refine Run.done ?_
 refine Run.seq ?_
 refine Run.sr ?_
 refine Run.p (.slice A n c) rfl rfl ?_
 refine Run.y (.int .i64 (((n : Nat) : Int))) rfl (OpY.len Tsl_22 rfl) ?_
 refine Run.p (.int .i64 0) rfl rfl ?_
 refine Run.done ?_
 refine Run.block ?_
 refine Run.loop (ι := Nat) [4, 5, 8, 9, 10, 11, 12, 13, 14, 15, 16, 17, 18] (fun k => [(8, .int .i64 (((k : Nat) : Int)))]) (fun k => []) (fun k => k ≤ n ∧ (∀ i, i < k → decide (ix xs i = x) = false)) (fun k => n - k) 0 ?_ ?_ ?_ ?_
 ·exact ⟨Nat.zero_le _, by first | trivial | (intro i hi; omega)⟩
 ·exact ⟨rfl, trivial⟩
 ·exact (Some'.weak (.nil _))
 ·rintro k fr hinv
  show Run _ _ (over _ _ [(8, .int .i64 (((k : Nat) : Int)))] fr) []
  try dsimp only at hinv
  refine Run.sr ?_
  refine Run.p (.bool (decide ((((k : Nat) : Int)) < (((n : Nat) : Int))))) rfl rfl ?_
  refine Run.done ?_
  refine Run.seq ?_
  refine Run.cond (b := decide ((((k : Nat) : Int)) < (((n : Nat) : Int)))) rfl (fun h9 => ?_) (fun h9 => ?_)
  ·have p9 := h9; try simp only [bs] at p9
   have hltk : k < n := by omega
   obtain ⟨b, o, rfl⟩ := ha.opn (by omega)
   refine Run.skip ?_
   refine Run.seq ?_
   refine Run.block ?_
   refine Run.sr ?_
   refine Run.p (.int .i64 (((k : Nat) : Int))) rfl rfl ?_
   refine Run.p (.int .i64 (((k : Nat) : Int))) rfl rfl ?_
   refine Run.dsr ?_
   refine Run.p (.int .i64 x) rfl rfl ?_
   refine Run.p (.slice (some ⟨b, o, none⟩) n c) rfl rfl ?_
   refine Run.p (.int .i64 (((k : Nat) : Int))) rfl rfl ?_
   refine Run.y (.pointer (some ⟨b, o + k, none⟩)) rfl (OpY.index (kk := k) Tsl_22 rfl rfl (by omega) (by omega) (by first | rfl | omega)) ?_
   refine Run.y (.int .i64 (ix xs (k))) rfl (OpY.load1 Tone_3 rfl (Cells.arg (k := k) ha rfl (by omega) (pre1 (by omega)))) ?_
   refine Run.p (.bool (x == (ix xs (k)))) rfl rfl ?_
   refine Run.done ?_
   refine Run.cond (b := x == (ix xs (k))) rfl (fun h16 => ?_) (fun h16 => ?_)
   ·have p16 := h16; try simp only [bs] at p16
    refine Run.seq ?_
    have hres : findI (fun i => decide (ix xs i = x)) n = k := findI_hit hinv.2 (by simp; omega) hltk
    refine Run.region ?_
    refine Run.p (.int .i64 (((k : Nat) : Int))) rfl rfl ?_
    refine Run.p (.int .i64 (((k : Nat) : Int))) rfl rfl ?_
    refine Run.done ?_
    refine Run.ret ?_
    refine ⟨.int .i64 (((k : Nat) : Int)), [], Out.one rfl rfl, (Some'.weak (.nil _)), ?_⟩
    show _ = _; rw [hres]
   ·have p16 := h16; try simp only [bs] at p16
    refine Run.skip ?_
    refine Run.blockEnd ?_
    have hgood : decide (ix xs k = x) = false := by simp; omega
    refine Run.region ?_
    refine Run.y (.int .i64 ((((k : Nat) : Int)) + 1)) rfl (OpY.add rfl rfl rfl (by omega) (by omega)) ?_
    refine Run.p (.int .i64 ((((k : Nat) : Int)) + 1)) rfl rfl ?_
    refine Run.done ?_
    refine Run.goal ⟨(by repeat (first | exact Same.refl _ _ | refine Same.put rfl ?_ | refine Same.over rfl rfl ?_)), k + 1, ?_, ?_, ?_, ?_⟩
    ·refine ⟨by omega, ?_⟩
     intro i hi
     rcases Nat.lt_succ_iff_lt_or_eq.1 hi with h | h
     ·exact hinv.2 i h
     ·rw [h]; exact hgood
    ·omega
    ·exact ⟨(by first | rfl | (congr 1; omega) | simp), trivial⟩
    ·exact (Some'.weak (.nil _))
  ·have p9 := h9; try simp only [bs] at p9
   have hknk : k = n := by omega
   have hres : findI (fun i => decide (ix xs i = x)) n = -1 := by rw [← hknk]; exact findI_none hinv.2
   refine Run.exit rfl ?_
   refine Run.sr ?_
   refine Run.p (.int .i64 (-1)) rfl rfl ?_
   refine Run.done ?_
   refine Run.ret ?_
   refine ⟨.int .i64 (-1), [], Out.one rfl rfl, (Some'.weak (.nil _)), ?_⟩
   show _ = _; rw [hres]

set_option maxHeartbeats 1000000 in
set_option maxRecDepth 20000 in
theorem ContainsInt_spec {va : Value} {n : Nat} {xs : List Int} {x : Int} {w : World} (ha : Sl w va 1 n (ints xs)) : Calls Try.prog 89 #[va, .int .i64 x] w (Post No w fun v _ => v = .bool (hasI xs x n)) := by
 refine enter (n := 9) (args := [va, .int .i64 x]) Try.func89 rfl rfl (St.empty _ _) ?_
 refine Run.sr ?_
 refine Run.p (.bool false) rfl rfl ?_
 refine Run.dsr ?_
 refine Run.p (va) rfl rfl ?_
 refine Run.p (.int .i64 x) rfl rfl ?_
 refine Run.q (v := .int .i64 (findI (fun i => decide (ix xs i = x)) n)) rfl (OpQ.call (vs := [va, .int .i64 x]) (caps := []) Tcall_125 rfl rfl (fun w hs => IndexInt_spec (hs.sl ha))) ?_
 refine Run.p (.bool (decide ((findI (fun i => decide (ix xs i = x)) n) ≥ 0))) rfl rfl ?_
 refine Run.p (.bool (decide ((findI (fun i => decide (ix xs i = x)) n) ≥ 0))) rfl rfl ?_
 refine Run.done ?_
 refine Run.ret ?_
 refine ⟨.bool (decide ((findI (fun i => decide (ix xs i = x)) n) ≥ 0)), [], Out.one rfl rfl, (Some'.weak (.nil _)), ?_⟩
 show _ = _; rw [findI_ge]; rfl


end Go.Proofs.Yteehfidjofcfmaa
/- Walks: the laws' own functions on slices of int. -/
set_option linter.unusedSimpArgs false
set_option linter.unusedVariables false
namespace Go.Proofs.Yteehfidjofcfmaa
open Go Go.RowKit
namespace IntsT
theorem Tone_3 : oneOf Try.prog 3 = true := by kernel_rfl
theorem Tsize_3 : (Try.prog.info? 3).map (·.size) = some 1 := by kernel_rfl
theorem Tsl_22 : sliceOf Try.prog 22 = some (3, 1, 8, [.int .i64 0]) := by kernel_rfl
end IntsT
open IntsT
end Go.Proofs.Yteehfidjofcfmaa
/- Walks: the elimination of rows. -/
set_option linter.unusedSimpArgs false
set_option linter.unusedVariables false
namespace Go.Proofs.Yteehfidjofcfmaa
open Go Go.RowKit
namespace ElT
theorem Tcall_100 : callable Try.prog 100 = true := by kernel_rfl
theorem Tone_3 : oneOf Try.prog 3 = true := by kernel_rfl
theorem Tsl_22 : sliceOf Try.prog 22 = some (3, 1, 8, [.int .i64 0]) := by kernel_rfl
end ElT
open ElT
/-- Bit j of a number. -/
def bitI (x : Int) (j : Nat) : Bool := decide ((x >>> j) % 2 = 1)
theorem bitI_true {x : Int} {j : Nat} (h : (x >>> j) % 2 = 1) : bitI x j = true := decide_eq_true h
theorem bitI_false {x : Int} {j : Nat} (h : (x >>> j) % 2 = 0) : bitI x j = false := decide_eq_false (by omega)
theorem bitI_ne {x : Int} {j : Nat} (h : ¬ (x >>> j) % 2 = 0) : bitI x j = true := decide_eq_true (by omega)
theorem bitI_ne1 {x : Int} {j : Nat} (h : ¬ (x >>> j) % 2 = 1) : bitI x j = false := decide_eq_false h
/-- The first number from i on with the property, among m; else i + m. -/
def scanR (p : Nat → Bool) : Nat → Nat → Nat
  | i, 0 => i
  | i, m + 1 => if p i then i else scanR p (i + 1) m
/-- Additions of rows as gates. -/
def flCX : List (Nat × Nat) → List Int
  | [] => []
  | (a, b) :: l => 9 :: (a : Int) :: (b : Int) :: flCX l
@[simp] theorem flCX_length : ∀ l : List (Nat × Nat), (flCX l).length = l.length * 3
  | [] => rfl
  | (_, _) :: l => by simp only [flCX, List.length_cons, flCX_length l]; omega
theorem flCX_append : ∀ l m : List (Nat × Nat), flCX (l ++ m) = flCX l ++ flCX m
  | [], _ => rfl
  | (a, b) :: l, m => by simp only [List.cons_append, flCX, flCX_append l m]
theorem ints_flCX (l : List (Nat × Nat)) (a b : Nat) : ints (flCX l) ++ [.int .i64 9, .int .i64 (a : Int), .int .i64 (b : Int)] = ints (flCX (l ++ [(a, b)])) := by
  rw [flCX_append, ints_append]; rfl
set_option maxHeartbeats 1000000 in
set_option maxRecDepth 20000 in
theorem l1Own_spec {va : Value} {n : Nat} {xs : List Int} {w : World} (hb : n ≤ 1048576) (ha : Sl w va 1 n (ints xs)) : Calls Try.prog 92 #[va] w (Post No w fun v H => H = [.own v 3 1 n (ints xs)]) := by
 have hxl := ha.len
 refine enter (n := 6) (args := [va]) Try.func92 rfl rfl (St.empty _ _) ?_
 refine Run.sr ?_
 refine Run.p (.slice none 0 0) rfl rfl ?_
 refine Run.dsr ?_
 refine Run.step rfl (OpStep.buildSlice (us := []) Tsl_22 (by decide) (by decide) rfl rfl fun b1 => ?_)
 refine Run.p (va) rfl rfl ?_
 refine Run.step rfl (OpStep.append (H1 := []) (H2 := []) (v := .slice (some ⟨b1, 0, none⟩) 0 0) (u := va) (n := 0) (m := n) (xs := []) (ys := ints xs) Tsl_22 (by decide) rfl rfl rfl rfl (fun w hs => hs.sl ha) (by exact ints_all xs) (by omega) (by simp only [maxLen]; omega) fun av1 hnav1 => ?_)
 refine Run.weak (H' := [.own av1 3 1 n (ints xs)]) (Some'.weak (.takeEq (by simp) (.nil _))) ?_ ⟨_, _, rfl, fun _ => nofun, fun _ => nofun⟩
 refine Run.p (av1) rfl rfl ?_
 refine Run.done ?_
 refine Run.ret ?_
 refine ⟨av1, [.own av1 3 1 n (ints xs)], Out.one rfl rfl, (Some'.weak (.take (.nil _))), ?_⟩
 rfl

set_option maxHeartbeats 1000000 in
set_option maxRecDepth 20000 in
theorem CloneInt_spec {va : Value} {n : Nat} {xs : List Int} {w : World} (hb : n ≤ 1048576) (h0 : 0 < n) (ha : Sl w va 1 n (ints xs)) : Calls Try.prog 109 #[va] w (Post No w fun v H => H = [.own v 3 1 n (ints xs)]) := by
 have hxl := ha.len
 obtain ⟨A, c, rfl, _, _⟩ := ha.form0
 obtain ⟨b, o, rfl⟩ := ha.opn h0
 refine enter (n := 8) (args := [.slice (some ⟨b, o, none⟩) n c]) Try.func109 rfl rfl (St.empty _ _) ?_
 refine Run.sr ?_
 refine Run.p (.slice none 0 0) rfl rfl ?_
 refine Run.done ?_
 refine Run.seq ?_
 refine Run.sr ?_
 refine Run.p (.slice (some ⟨b, o, none⟩) n c) rfl rfl ?_
 refine Run.y (.bool false) rfl (OpY.eqNilSome Tsl_22 rfl rfl) ?_
 refine Run.done ?_
 refine Run.cond (b := false) rfl (fun h => nomatch h) (fun _ => ?_)
 refine Run.skip ?_
 refine Run.sr ?_
 refine Run.step rfl (OpStep.buildSlice (us := []) Tsl_22 (by decide) (by decide) rfl rfl fun b1 => ?_)
 refine Run.p (.slice (some ⟨b, o, none⟩) n c) rfl rfl ?_
 refine Run.step rfl (OpStep.append (H1 := []) (H2 := []) (v := .slice (some ⟨b1, 0, none⟩) 0 0) (u := .slice (some ⟨b, o, none⟩) n c) (n := 0) (m := n) (xs := []) (ys := ints xs) Tsl_22 (by decide) rfl rfl rfl rfl (fun w hs => hs.sl ha) (by exact ints_all xs) (by omega) (by simp only [maxLen]; omega) fun av1 hnav1 => ?_)
 refine Run.weak (H' := [.own av1 3 1 n (ints xs)]) (Some'.weak (.takeEq (by simp) (.nil _))) ?_ ⟨_, _, rfl, fun _ => nofun, fun _ => nofun⟩
 refine Run.p (av1) rfl rfl ?_
 refine Run.done ?_
 refine Run.ret ?_
 refine ⟨av1, [.own av1 3 1 n (ints xs)], Out.one rfl rfl, (Some'.weak (.take (.nil _))), ?_⟩
 rfl

set_option maxHeartbeats 1000000 in
set_option maxRecDepth 20000 in
theorem l1All_spec {va : Value} {n : Nat} {xs : List Int} {lo hi : Int} {w : World} (ha : Sl w va 1 n (ints xs)) : Calls Try.prog 101 #[va, .int .i64 lo, .int .i64 hi] w (Post No w fun v _ => v = .bool (!anyI (fun i => !within (ix xs i) lo hi) n)) := by
 have hxl := ha.len
 have hn := ha.le
 obtain ⟨A, c, rfl, _, _⟩ := ha.form0
 refine enter (n := 21) (args := [.slice A n c, .int .i64 lo, .int .i64 hi]) Try.func101 rfl rfl (St.empty _ _) ?_
 refine Run.sr ?_
 refine Run.p (.bool false) rfl rfl ?_
 refine Run.done ?_
 refine Run.seq ?_
 refine Run.sr ?_
 refine Run.p (.slice A n c) rfl rfl ?_
 refine Run.y (.int .i64 (((n : Nat) : Int))) rfl (OpY.len Tsl_22 rfl) ?_
 refine Run.p (.int .i64 0) rfl rfl ?_
 refine Run.done ?_
 refine Run.block ?_
 refine Run.loop (ι := Nat) [6, 8, 11, 12, 13, 14, 15, 16, 17, 18, 19, 20] (fun k => [(11, .int .i64 (((k : Nat) : Int)))]) (fun k => []) (fun k => k ≤ n ∧ (∀ i, i < k → (!within (ix xs i) lo hi) = false)) (fun k => n - k) 0 ?_ ?_ ?_ ?_
 ·exact ⟨Nat.zero_le _, by first | trivial | (intro i hi; omega)⟩
 ·exact ⟨rfl, trivial⟩
 ·exact (Some'.weak (.nil _))
 ·rintro k fr hinv
  show Run _ _ (over _ _ [(11, .int .i64 (((k : Nat) : Int)))] fr) []
  try dsimp only at hinv
  refine Run.sr ?_
  refine Run.p (.bool (decide ((((k : Nat) : Int)) < (((n : Nat) : Int))))) rfl rfl ?_
  refine Run.done ?_
  refine Run.seq ?_
  refine Run.cond (b := decide ((((k : Nat) : Int)) < (((n : Nat) : Int)))) rfl (fun h12 => ?_) (fun h12 => ?_)
  ·have p12 := h12; try simp only [bs] at p12
   have hltk : k < n := by omega
   obtain ⟨b, o, rfl⟩ := ha.opn (by omega)
   refine Run.skip ?_
   refine Run.seq ?_
   refine Run.block ?_
   refine Run.sr ?_
   refine Run.y (.pointer (some ⟨b, o + k, none⟩)) rfl (OpY.index (kk := k) Tsl_22 rfl rfl (by omega) (by omega) (by first | rfl | omega)) ?_
   refine Run.y (.int .i64 (ix xs (k))) rfl (OpY.load1 Tone_3 rfl (Cells.arg (k := k) ha rfl (by omega) (pre1 (by omega)))) ?_
   refine Run.p (.int .i64 (ix xs (k))) rfl rfl ?_
   refine Run.dsr ?_
   refine Run.p (.int .i64 (ix xs (k))) rfl rfl ?_
   refine Run.p (.int .i64 lo) rfl rfl ?_
   refine Run.p (.int .i64 hi) rfl rfl ?_
   refine Run.q (v := .bool (within (ix xs k) lo hi)) rfl (OpQ.call (vs := [.int .i64 (ix xs (k)), .int .i64 lo, .int .i64 hi]) (caps := []) Tcall_100 rfl rfl (fun w hs => l1In_spec _ _ _ w)) ?_
   refine Run.p (.bool (!(within (ix xs k) lo hi))) rfl rfl ?_
   refine Run.done ?_
   refine Run.cond (b := !(within (ix xs k) lo hi)) rfl (fun h19 => ?_) (fun h19 => ?_)
   ·have p19 := h19; try simp only [bs] at p19
    refine Run.seq ?_
    have hres : anyI (fun i => !within (ix xs i) lo hi) n = true := anyI_true hltk h19
    refine Run.region ?_
    refine Run.p (.bool false) rfl rfl ?_
    refine Run.done ?_
    refine Run.ret ?_
    refine ⟨.bool false, [], Out.one rfl rfl, (Some'.weak (.nil _)), ?_⟩
    show _ = _; rw [hres]; rfl
   ·have p19 := h19; try simp only [bs] at p19
    refine Run.skip ?_
    refine Run.blockEnd ?_
    have hgood : (!within (ix xs k) lo hi) = false := h19
    refine Run.region ?_
    refine Run.y (.int .i64 ((((k : Nat) : Int)) + 1)) rfl (OpY.add rfl rfl rfl (by omega) (by omega)) ?_
    refine Run.p (.int .i64 ((((k : Nat) : Int)) + 1)) rfl rfl ?_
    refine Run.done ?_
    refine Run.goal ⟨(by repeat (first | exact Same.refl _ _ | refine Same.put rfl ?_ | refine Same.over rfl rfl ?_)), k + 1, ?_, ?_, ?_, ?_⟩
    ·refine ⟨by omega, ?_⟩
     intro i hi
     rcases Nat.lt_succ_iff_lt_or_eq.1 hi with h | h
     ·exact hinv.2 i h
     ·rw [h]; exact hgood
    ·omega
    ·exact ⟨(by first | rfl | (congr 1; omega) | simp), trivial⟩
    ·exact (Some'.weak (.nil _))
  ·have p12 := h12; try simp only [bs] at p12
   have hknk : k = n := by omega
   have hres : anyI (fun i => !within (ix xs i) lo hi) n = false := by rw [← hknk]; exact anyI_false hinv.2
   refine Run.exit rfl ?_
   refine Run.sr ?_
   refine Run.p (.bool true) rfl rfl ?_
   refine Run.done ?_
   refine Run.ret ?_
   refine ⟨.bool true, [], Out.one rfl rfl, (Some'.weak (.nil _)), ?_⟩
   show _ = _; rw [hres]; rfl


end Go.Proofs.Yteehfidjofcfmaa
