/- The operations of a walk, one rule each. -/
import Derived.Test.YtnnkoeknejeieaaRun
namespace Go.Proofs.Ytnnkoeknejeieaa
open Go Go.RowKit

/-! ### What is asked of the program's tables, as closed facts -/
def fieldOff (P : Program) (s : TypeId) (i : Nat) : Option Nat :=
  match P.underlying s with
  | some (.struct fs) => match fs[i]? with
    | some fl => match P.info? fl.type with
      | some inf => if inf.size = 0 then none else some fl.offset
      | none => none
    | none => none
  | _ => none
/-- A type of one cell that is no struct and no array. -/
def oneOf (P : Program) (t : TypeId) : Bool := match P.underlying t with
  | some d => !d.isRow && (P.info? t).map (·.size) == some 1
  | none => false
/-- The number of cells of a struct or an array. -/
def aggOf (P : Program) (t : TypeId) : Option Nat := match P.underlying t with
  | some d => if d.isRow then (P.info? t).map (·.size) else none
  | none => none
def zeroOf (P : Program) (t : TypeId) : Option (List Value) := ((P.info? t).bind (·.zero)).map (·.cells.toList)
/-- A slice type: its element's type, and that one's cells, bytes, zero. -/
def sliceOf (P : Program) (t : TypeId) : Option (TypeId × Nat × Nat × List Value) := match P.underlying t with
  | some (.slice e) => match P.info? e with
    | some i => match i.zero with
      | some z => some (e, i.size, i.bytes, z.cells.toList)
      | none => none
    | none => none
  | _ => none
def arrayOf (P : Program) (t : TypeId) : Option (Nat × Nat) := match P.underlying t with
  | some (.array n e) => (P.info? e).map fun i => (n, i.size)
  | _ => none
def callable (P : Program) (g : FuncId) : Bool := match P.funcs[g]? with
  | some fn => !(fn.name == "runtime.NumGoroutine") && fn.body.isSome
  | none => false

theorem sliceOf_spec {P : Program} {t e : TypeId} {size bytes : Nat} {zs : List Value} (h : sliceOf P t = some (e, size, bytes, zs)) :
    P.underlying t = some (.slice e) ∧ ∃ i z, P.info? e = some i ∧ i.zero = some z ∧ i.size = size ∧ i.bytes = bytes ∧ z.cells.toList = zs := by
  unfold sliceOf at h
  split at h
  · rename_i e' hu
    split at h
    · rename_i i hi
      split at h
      · rename_i z hz
        simp only [Option.some.injEq, Prod.mk.injEq] at h
        obtain ⟨rfl, rfl, rfl, rfl⟩ := h
        exact ⟨hu, i, z, hi, hz, rfl, rfl, rfl⟩
      · cases h
    · cases h
  · cases h

theorem run_isAgg {P : Program} {t : TypeId} {d : TypeDesc} (h : P.underlying t = some d) (w : World) : (isAgg t).run P w = .ok d.isRow w := by
  simp only [isAgg, Sem.run_bind, run_underlying h, Result.andThen_ok]
  cases d <;> rfl
theorem run_sizeOf' {P : Program} {t : TypeId} {n : Nat} (h : (P.info? t).map (·.size) = some n) (w : World) : (sizeOf t).run P w = .ok n w := by
  obtain ⟨i, hi, rfl⟩ := Option.map_eq_some_iff.1 h
  simp [sizeOf, typeInfo, hi]

/-- In every world of the state the cells `cs` lie in block `b` from `o` on. -/
def Cells (E : Env) (H : List Res) (b o : Nat) (cs : List Value) : Prop := ∀ w, St E.M E.w0 w H → w.rangeAt b o cs

/-- `xs` are the next of `cs`. -/
def Pre : List Value → Nat → List Value → Prop
  | _, _, [] => True
  | cs, o, x :: xs => cs[o]? = some x ∧ Pre cs (o + 1) xs
theorem Pre.get {cs : List Value} : ∀ {xs : List Value} {o : Nat}, Pre cs o xs → ∀ j v, xs[j]? = some v → cs[o + j]? = some v
  | x :: xs, o, h, 0, v, hv => by simp at hv; subst hv; exact h.1
  | x :: xs, o, h, j + 1, v, hv => by
    have := Pre.get h.2 j v (by simpa using hv)
    rw [show o + (j + 1) = o + 1 + j by omega]; exact this

theorem Cells.blk {E : Env} {H : List Res} {b : Nat} {t : TypeId} {cs xs : List Value} {o : Nat} (hm : Res.blk b t cs ∈ H) (hp : Pre cs o xs) : Cells E H b o xs := by
  intro w hs j v hv
  rw [hs.cell_blk hm]
  exact hp.get j v hv
theorem Cells.own {E : Env} {H : List Res} {g cap n m : Nat} {e : TypeId} {size : Nat} {v : Value} {cs xs : List Value} {o : Nat} (hm : Res.own v e size n cs ∈ H) (hv : v = .slice (some ⟨g, 0, none⟩) m cap) (hp : Pre cs o xs) : Cells E H g o xs := by
  intro w hs j u hu
  have h1 : w.ownsRow 0 e size v n cs := hs.holds (.own v e size n cs) hm
  subst hv
  have := h1.cells (g := g) rfl (o + j) u (hp.get j u hu)
  rwa [Addr.add_mid, Nat.zero_add] at this

namespace OpY
variable {E : Env} {f : Fr} {H : List Res} {d : Option Tmp} {ty : TypeId} {pos : String} {after : Array Edge} {gd : Option (Nat × Bool)}

theorem fieldAddr {s : TypeId} {x : Operand} {i k b o off : Nat} (hs : fieldOff E.P s i = some k) (hx : f.eval x = .pointer (some ⟨b, o, none⟩)) (ho : o + k = off) :
    OpY E ⟨d, .fieldAddr s x i, ty, pos, after, gd⟩ f H (.pointer (some ⟨b, off, none⟩)) := by
  intro w _
  subst ho
  unfold fieldOff at hs
  split at hs
  · rename_i fs hu
    split at hs
    · rename_i fl hf
      split at hs
      · rename_i inf hi
        split at hs
        · cases hs
        · rename_i hz
          simp only [Option.some.injEq] at hs
          subst hs
          simp [execOp, hx, Instr.fieldAt, run_underlying hu, hf, Instr.sureAddr, fieldPlace, sizeOf, typeInfo, hi, hz, Addr.add_mid]
      · cases hs
    · cases hs
  · cases hs

theorem load1 {t : TypeId} {x : Operand} {b o : Nat} {v : Value} (ht : oneOf E.P t = true) (hx : f.eval x = .pointer (some ⟨b, o, none⟩)) (hc : Cells E H b o [v]) :
    OpY E ⟨d, .load t x, ty, pos, after, gd⟩ f H v := by
  intro w hs
  have hcell : w.cell? ⟨b, o, none⟩ = some v := hc w hs 0 v rfl
  unfold oneOf at ht
  split at ht
  · rename_i ds hu
    simp only [Bool.and_eq_true, Bool.not_eq_true'] at ht
    simp [execOp, hx, Instr.loadAt, Instr.sureAddr, loadVar, run_isAgg hu, ht.1, hcell]
  · cases ht
theorem loadN {t : TypeId} {x : Operand} {b o : Nat} {cs : List Value} (ht : aggOf E.P t = some cs.length) (hx : f.eval x = .pointer (some ⟨b, o, none⟩)) (hc : Cells E H b o cs) :
    OpY E ⟨d, .load t x, ty, pos, after, gd⟩ f H (.agg cs.toArray) := by
  intro w hs
  unfold aggOf at ht
  split at ht
  · rename_i ds hu
    split at ht
    · rename_i hr
      have := run_loadAt_mid (P := E.P) w b o t cs ds (hc w hs) hu hr ht
      simp [execOp, hx, this]
    · cases ht
  · cases ht

theorem len {t : TypeId} {x : Operand} {A : Option Addr} {n c : Nat} {e : TypeId} {z : Nat × Nat × List Value} (ht : sliceOf E.P t = some (e, z)) (hx : f.eval x = .slice A n c) :
    OpY E ⟨d, .call { callee := .builtin .len, args := #[x], argTypes := #[t] }, ty, pos, after, gd⟩ f H (.int .i64 n) := by
  intro w _
  obtain ⟨hu, _⟩ := sliceOf_spec ht
  simp [execOp, resolve, invoke, builtin, hx, Builtin.len_, run_underlying hu, goInt]

theorem indexAddr {t : TypeId} {x y : Operand} {b o n c : Nat} {k : IntKind} {i : Int} {e : TypeId} {size : Nat} {z : Nat × List Value} (ht : sliceOf E.P t = some (e, size, z)) (hx : f.eval x = .slice (some ⟨b, o, none⟩) n c) (hy : f.eval y = .int k i)
    (h0 : 0 ≤ i) (h1 : i < n) : OpY E ⟨d, .indexAddr t x y, ty, pos, after, gd⟩ f H (.pointer (some ⟨b, o + i.toNat * size, none⟩)) := by
  intro w _
  obtain ⟨hu, inf, zz, hi, _, rfl, _⟩ := sliceOf_spec ht
  simp [execOp, hx, hy, Instr.indexAt, run_underlying hu, asIntOf, h0, h1, sizeOf, typeInfo, hi, Addr.add_mid]
theorem indexAddrArr {t : TypeId} {x y : Operand} {b o n : Nat} {k : IntKind} {i : Int} {size : Nat} (ht : arrayOf E.P t = some (n, size)) (hx : f.eval x = .pointer (some ⟨b, o, none⟩)) (hy : f.eval y = .int k i)
    (h0 : 0 ≤ i) (h1 : i < n) : OpY E ⟨d, .indexAddr t x y, ty, pos, after, gd⟩ f H (.pointer (some ⟨b, o + i.toNat * size, none⟩)) := by
  intro w _
  unfold arrayOf at ht
  split at ht
  · rename_i n' e hu
    obtain ⟨inf, hi, he⟩ := Option.map_eq_some_iff.1 ht
    simp only [Prod.mk.injEq] at he
    obtain ⟨rfl, rfl⟩ := he
    simp [execOp, hx, hy, Instr.indexAt, Instr.sureAddr, run_underlying hu, asIntOf, h0, h1, sizeOf, typeInfo, hi, Addr.add_mid]
  · cases ht
end OpY

theorem run_call {P : Program} {g : FuncId} (hg : callable P g = true) (args : Array Value) (w : World) : (callFunc g args).run P w = .ok (.enter g args) w := by
  unfold callable at hg
  split at hg
  · rename_i fn hf
    simp only [Bool.and_eq_true, Bool.not_eq_true'] at hg
    have h1 : ¬ fn.name = "runtime.NumGoroutine" := by simpa using hg.1
    have h2 : ¬ fn.body = none := by intro h; rw [h] at hg; exact absurd hg.2 (by simp)
    simp [callFunc, hf, h1, h2]
  · cases hg
theorem run_call_op {P : Program} {ev : Operand → Value} {d : Option Tmp} {ty : TypeId} {pos : String} {after : Array Edge} {gd : Option (Nat × Bool)} {fo : Operand} {args : Array Operand} {ats : Array TypeId} {g : FuncId} {caps vs : List Value}
    (hg : callable P g = true) (hf : ev fo = .func (.func g) #[] caps.toArray) (hv : args.toList.map ev ++ caps = vs) (w : World) :
    (execOp ev ⟨d, .call { callee := .value fo, args := args, argTypes := ats }, ty, pos, after, gd⟩).run P w = .ok (.enter g vs.toArray) w := by
  subst hv
  have e : (args.map ev ++ caps.toArray) = (args.toList.map ev ++ caps).toArray := by
    apply Array.ext'
    simp
  simp [execOp, resolve, Deferred.ofValue, hf, invoke, run_call hg, e]

/-- The slice `v` has `n` elements, whose cells are `xs`. -/
def Sl (w : World) (v : Value) (size n : Nat) (xs : List Value) : Prop :=
  xs.length = n * size ∧ ∃ A c, v = .slice A n c ∧ n ≤ c ∧ c ≤ maxLen ∧ (0 < n → ∃ b o, A = some ⟨b, o, none⟩ ∧ b < w.heap.size ∧ w.rangeAt b o xs)

/-- One block of a list in another's place. -/
inductive Turn (r r' : Res) : List Res → List Res → Prop
  | here (H : List Res) : Turn r r' (r :: H) (r' :: H)
  | there (s : Res) {H H' : List Res} (h : Turn r r' H H') : Turn r r' (s :: H) (s :: H')
theorem Turn.split {r r' : Res} {H H' : List Res} (h : Turn r r' H H') : ∃ H1 H2, H = H1 ++ r :: H2 ∧ H' = H1 ++ r' :: H2 := by
  induction h with
  | here H => exact ⟨[], H, rfl, rfl⟩
  | there s _ ih => obtain ⟨H1, H2, rfl, rfl⟩ := ih; exact ⟨s :: H1, H2, rfl, rfl⟩
/-- Cells from `o` on are written over. -/
def spl (cs : List Value) : Nat → List Value → List Value
  | _, [] => cs
  | o, u :: us => spl (cs.set o u) (o + 1) us
theorem spl_length : ∀ (us : List Value) (cs : List Value) (o : Nat), (spl cs o us).length = cs.length
  | [], _, _ => rfl
  | u :: us, cs, o => by rw [spl, spl_length]; simp
theorem spl_at : ∀ (us cs : List Value) (o : Nat), o + us.length = cs.length → spl cs o us = cs.take o ++ us
  | [], cs, o, h => by simp only [spl, List.append_nil]; rw [List.take_of_length_le (by simp at h; omega)]
  | u :: us, cs, o, h => by
    simp only [List.length_cons] at h
    rw [spl, spl_at us _ _ (by simp; omega), List.take_set, List.set_eq_take_append_cons_drop]
    simp only [List.length_take]
    rw [if_pos (by omega), List.take_take, List.drop_take, show o + 1 - (o + 1) = 0 by omega, show min o (o + 1) = o by omega]
    simp
theorem spl_all {us cs : List Value} (h : us.length = cs.length) : spl cs 0 us = us := by
  rw [spl_at us cs 0 (by omega)]; simp
theorem spl_take {cs : List Value} {o : Nat} : ∀ (us : List Value), o + us.length ≤ cs.length → ∀ m, m ≤ o → (spl cs o us).take m = cs.take m
  | [], _, _, _ => rfl
  | u :: us, h, m, hm => by
    simp only [List.length_cons] at h
    rw [spl, spl_take us (by simp; omega) m (by omega), List.take_set_of_le hm]
theorem spl_mid {cs : List Value} {o : Nat} (us : List Value) (h : o + us.length ≤ cs.length) : (spl cs o us).take (o + us.length) = cs.take o ++ us := by
  induction us generalizing cs o with
  | nil => simp [spl]
  | cons u us ih =>
    simp only [List.length_cons] at h ⊢
    have := ih (cs := cs.set o u) (o := o + 1) (by simp; omega)
    rw [spl, show o + (us.length + 1) = o + 1 + us.length by omega, this, List.take_set, List.set_eq_take_append_cons_drop]
    simp only [List.length_take]
    rw [if_pos (by omega), List.take_take, List.drop_take, show o + 1 - (o + 1) = 0 by omega, show min o (o + 1) = o by omega]
    simp
theorem foldl_set (off : Nat) : ∀ (us : List Value) (i : Nat) (cur : Array Value), (us.zipIdx i).foldl (fun cs (p : Value × Nat) => cs.setIfInBounds (off + p.2) p.1) cur = (spl cur.toList (off + i) us).toArray
  | [], _, cur => by simp [spl]
  | u :: us, i, cur => by
    simp only [List.zipIdx_cons, List.foldl_cons]
    rw [foldl_set off us (i + 1)]
    simp [spl, Nat.add_assoc]
/-- The parts of a literal in their order: their cells, one behind the other. -/
def Parts (f : Fr) (size : Nat) : Nat → List (Nat × Operand) → List Value → Prop
  | _, [], us => us = []
  | k, (i, x) :: ps, us => i = k ∧ ∃ u rest, us = u ++ rest ∧ (f.eval x).cells = u.toArray ∧ u.length = size ∧ Parts f size (k + 1) ps rest
theorem Parts.length {f : Fr} {size : Nat} : ∀ {k : Nat} {ps : List (Nat × Operand)} {us : List Value}, Parts f size k ps us → us.length = ps.length * size
  | _, [], _, h => by rw [h]; simp
  | _, (_, _) :: _, _, ⟨_, u, rest, rfl, _, h2, h3⟩ => by simp only [List.length_append, List.length_cons, h3.length, h2]; rw [Nat.add_mul]; omega
theorem Parts.fill {f : Fr} {size : Nat} : ∀ {k : Nat} {ps : List (Nat × Operand)} {us : List Value}, Parts f size k ps us → ∀ cur : Array Value, cur.size = (k + ps.length) * size →
    Instr.fill (fun i => some (i * size, size)) cur (ps.map fun p => (p.1, f.eval p.2)) = some (cur.toList.take (k * size) ++ us).toArray
  | k, [], us, h, cur, hc => by
    simp only [Parts] at h; subst h
    simp only [List.length_nil, Nat.add_zero] at hc
    simp only [List.map_nil, Instr.fill, List.append_nil]
    rw [List.take_of_length_le (by simp [hc])]
  | k, (i, x) :: ps, us, ⟨hi, u, rest, hus, h1, h2, h3⟩, cur, hc => by
    subst hi; subst hus
    simp only [List.length_cons] at hc
    have e2 : i * size + size ≤ cur.size := by rw [hc, Nat.add_mul]; have : size ≤ (ps.length + 1) * size := Nat.le_mul_of_pos_left _ (by omega); omega
    simp only [List.map_cons, Instr.fill, h1, List.size_toArray, h2]
    rw [if_neg (by simp; omega)]
    have h4 : (u.toArray.zipIdx.foldl (fun cs (p : Value × Nat) => cs.setIfInBounds (i * size + p.2) p.1) cur) = (spl cur.toList (i * size) u).toArray := by
      have := foldl_set (i * size) u 0 cur
      simp only [Nat.add_zero] at this
      rw [← this, ← Array.foldl_toList]
      simp
    have h5 := h3.fill (spl cur.toList (i * size) u).toArray (by simp only [List.size_toArray, spl_length, Array.length_toList, hc]; congr 1; omega)
    have h6 : (fun cs (x : Value × Nat) => match x with | (c, j) => cs.setIfInBounds (i * size + j) c) = fun (cs : Array Value) (p : Value × Nat) => cs.setIfInBounds (i * size + p.2) p.1 := rfl
    rw [h6, h4, h5]
    congr 1
    have h7 := spl_mid (cs := cur.toList) (o := i * size) u (by simp only [Array.length_toList, h2]; exact e2)
    rw [h2, show i * size + size = (i + 1) * size by rw [Nat.add_mul]; omega] at h7
    rw [h7]
    simp

theorem St.setCells {M : Nat → Prop} {w0 : World} {H : List Res} {b : Nat} {e : TypeId} : ∀ (us : List Value) (o : Nat) (w : World) (cs : List Value), St M w0 w (.blk b e cs :: H) → St M w0 (w.setCells b o us) (.blk b e (spl cs o us) :: H)
  | [], _, _, _, h => h
  | u :: us, o, _, _, h => St.setCells us (o + 1) _ _ (h.set_blk o u)
theorem St.setCellsOwn {M : Nat → Prop} {w0 : World} {H : List Res} {g cap n : Nat} {e : TypeId} {size : Nat} : ∀ (us : List Value) (o : Nat) (w : World) (cs : List Value), St M w0 w (.own (.slice (some ⟨g, 0, none⟩) n cap) e size n cs :: H) → St M w0 (w.setCells g o us) (.own (.slice (some ⟨g, 0, none⟩) n cap) e size n (spl cs o us) :: H)
  | [], _, _, _, h => h
  | u :: us, o, _, _, h => St.setCellsOwn us (o + 1) _ _ (h.set_own o u)

/-- What a contract says of the end of a call. -/
def Post (M : Nat → Prop) (w : World) (post : Value → List Res → Prop) : Ending → World → Prop := fun e w' => ∃ v H', e = .returned v ∧ St M w w' H' ∧ post v H'

namespace OpQ
variable {E : Env} {f : Fr} {H : List Res} {d : Option Tmp} {ty : TypeId} {pos : String} {after : Array Edge} {gd : Option (Nat × Bool)}
/-- A call that leaves old memory alone and hands back a value that hangs on nothing in memory. -/
theorem call {fo : Operand} {args : Array Operand} {ats : Array TypeId} {g : FuncId} {caps vs : List Value} {v : Value} (hg : callable E.P g = true) (hf : f.eval fo = .func (.func g) #[] caps.toArray) (hv : args.toList.map f.eval ++ caps = vs)
    (hc : ∀ w, St E.M E.w0 w H → Calls E.P g vs.toArray w (Post No w fun u _ => u = v)) :
    OpQ E ⟨d, .call { callee := .value fo, args := args, argTypes := ats }, ty, pos, after, gd⟩ f H v := by
  intro a w ha hs
  unfold Oper.quietAt
  rw [ha.eval, run_call_op hg hf hv w]
  refine ⟨rfl, (hc w hs).mono ?_⟩
  rintro e w' ⟨u, H', rfl, hst, rfl⟩
  exact ⟨rfl, (hs.call hst).sub (List.sublist_append_right H' H)⟩
end OpQ

namespace OpStep
variable {E : Env} {f : Fr} {H : List Res} {d : Option Tmp} {ty : TypeId} {pos : String} {after : Array Edge} {gd : Option (Nat × Bool)} {K : Fr → List Res → Prop}

theorem of_value {o : Oper} {v : World → Value} {w' : World → World} {H' : World → List Res} (hr : ∀ w, St E.M E.w0 w H → (execOp f.eval o).run E.P w = .ok (.value (v w)) (w' w) ∧ St E.M E.w0 (w' w) (H' w) ∧ K (putF E.n f o.dst (v w)) (H' w)) : OpStep E o f H K := by
  intro a w ha hs Kw Q' hK
  obtain ⟨h1, h2, h3⟩ := hr w hs
  unfold Oper.wp
  rw [ha.eval, h1]
  exact hK _ _ _ _ (ha.put _ _) h2 h3
theorem of_skip {o : Oper} {w' : World → World} {H' : List Res} (hr : ∀ w, St E.M E.w0 w H → (execOp f.eval o).run E.P w = .ok .skip (w' w) ∧ St E.M E.w0 (w' w) H') (hk : K (putF E.n f o.dst undef) H') : OpStep E o f H K := by
  intro a w ha hs Kw Q' hK
  obtain ⟨h1, h2⟩ := hr w hs
  unfold Oper.wp
  rw [ha.eval, h1]
  exact hK _ _ _ _ (ha.put _ _) h2 hk

theorem call {fo : Operand} {args : Array Operand} {ats : Array TypeId} {g : FuncId} {caps vs : List Value} {post : Value → List Res → Prop} (hg : callable E.P g = true) (hf : f.eval fo = .func (.func g) #[] caps.toArray) (hv : args.toList.map f.eval ++ caps = vs)
    (hc : ∀ w, St E.M E.w0 w H → Calls E.P g vs.toArray w (Post No w post)) (hk : ∀ v H', post v H' → K (putF E.n f d v) (H' ++ H)) :
    OpStep E ⟨d, .call { callee := .value fo, args := args, argTypes := ats }, ty, pos, after, gd⟩ f H K := by
  intro a w ha hs Kw Q' hK
  unfold Oper.wp
  rw [ha.eval, run_call_op hg hf hv w]
  refine (hc w hs).mono ?_
  rintro e w' ⟨u, H', rfl, hst, hp⟩
  exact hK _ _ _ _ (ha.put _ _) (hs.call hst) (hk u H' hp)
/-- A call that is handed the blocks `H1`. -/
theorem callM {fo : Operand} {args : Array Operand} {ats : Array TypeId} {g : FuncId} {caps vs : List Value} {post : Value → List Res → Prop} {H1 H2 : List Res} (hg : callable E.P g = true) (hf : f.eval fo = .func (.func g) #[] caps.toArray) (hv : args.toList.map f.eval ++ caps = vs)
    (hw : Weak H (H1 ++ H2)) (hc : ∀ w, St E.M E.w0 w (H1 ++ H2) → Calls E.P g vs.toArray w (Post (Of H1) w post)) (hk : ∀ v H', post v H' → K (putF E.n f d v) (H' ++ H2)) :
    OpStep E ⟨d, .call { callee := .value fo, args := args, argTypes := ats }, ty, pos, after, gd⟩ f H K := by
  intro a w ha hs Kw Q' hK
  unfold Oper.wp
  rw [ha.eval, run_call_op hg hf hv w]
  have hs' := hw _ _ _ hs
  refine (hc w hs').mono ?_
  rintro e w' ⟨u, H', rfl, hst, hp⟩
  exact hK _ _ _ _ (ha.put _ _) (hs'.callM hst) (hk u H' hp)

theorem alloc {t : TypeId} {zs : List Value} (hz : zeroOf E.P t = some zs) (hk : ∀ b, K (putF E.n f d (.pointer (some ⟨b, 0, none⟩))) (.blk b t zs :: H)) :
    OpStep E ⟨d, .alloc t, ty, pos, after, gd⟩ f H K := by
  obtain ⟨z, hz1, rfl⟩ := Option.map_eq_some_iff.1 hz
  obtain ⟨i, hi, hz2⟩ := Option.bind_eq_some_iff.1 hz1
  refine of_value (v := fun w => .pointer (some ⟨w.heap.size, 0, none⟩)) (w' := fun w => w.alloc (.cells z.cells t)) (H' := fun w => .blk w.heap.size t z.cells.toList :: H) fun w hs => ⟨?_, hs.alloc t z.cells, hk _⟩
  simp [execOp, Instr.alloc, zeroValue, typeInfo, hi, hz2, newVar, newRow]
theorem box {t : TypeId} {x : Operand} {us : List Value} (hx : (f.eval x).cells = us.toArray) (hk : ∀ b, K (putF E.n f d (.pointer (some ⟨b, 0, none⟩))) (.blk b t us :: H)) :
    OpStep E ⟨d, .box t x, ty, pos, after, gd⟩ f H K := by
  refine of_value (v := fun w => .pointer (some ⟨w.heap.size, 0, none⟩)) (w' := fun w => w.alloc (.cells us.toArray t)) (H' := fun w => .blk w.heap.size t us :: H) fun w hs => ⟨?_, by simpa using hs.alloc t us.toArray, hk _⟩
  simp [execOp, Instr.box, newVar, newRow, hx]

theorem storeAt_cells {t : TypeId} {a : Addr} {v : Value} {us : List Value} (hv : v.cells = us.toArray) : Instr.storeAt t (.pointer (some a)) v = Instr.storeAt t (.pointer (some a)) (.agg us.toArray) := by
  show (Instr.sureAddr _ >>= fun x => storeVar t x v) = (Instr.sureAddr _ >>= fun x => storeVar t x (.agg us.toArray))
  have : ∀ x, storeVar t x v = storeVar t x (.agg us.toArray) := by
    intro x
    show (sizeOf t >>= fun n => if v.cells.size ≠ n then _ else storeCells x v.cells.toList) = _
    unfold storeVar
    rw [hv]
    rfl
  simp only [this]

/-- A store into a block of the list. -/
theorem store {t : TypeId} {x y : Operand} {b o : Nat} {e : TypeId} {cs us : List Value} {H' : List Res} (ht : (E.P.info? t).map (·.size) = some us.length) (hx : f.eval x = .pointer (some ⟨b, o, none⟩)) (hy : (f.eval y).cells = us.toArray)
    (hone : us.all (·.oneCell') = true) (hH : Turn (.blk b e cs) (.blk b e (spl cs o us)) H H') (hfit : o + us.length ≤ cs.length) (hk : K (putF E.n f d undef) H') :
    OpStep E ⟨d, .store t x y, ty, pos, after, gd⟩ f H K := by
  refine of_skip (w' := fun w => w.setCells b o us) (fun w hs => ?_) hk
  obtain ⟨H1, H2, rfl, rfl⟩ := hH.split
  have hs' := hs.perm List.perm_middle
  have hblk : w.heap[b]? = some (.cells cs.toArray e (0, 0)) := hs'.holds (.blk b e cs) (by simp)
  constructor
  · have hth : w.there b o us.toArray.size := fun j hj => by
      have hj' : j < us.length := by simpa using hj
      constructor
      · rw [cell_of_row w b (o + j) _ e (0, 0) hblk]
        have : o + j < cs.length := by omega
        simp [this]
      · simp [World.frozen?, hblk]
    have := run_storeAt_mid (P := E.P) w b o t us.toArray hth (by simpa using ht) (by simpa using hone)
    simp [execOp, hx, storeAt_cells hy, this]
  · exact (St.setCells us o w cs hs').perm List.perm_middle.symm
theorem storeAll {t : TypeId} {x y : Operand} {b : Nat} {e : TypeId} {cs us : List Value} {H' : List Res} (ht : (E.P.info? t).map (·.size) = some us.length) (hx : f.eval x = .pointer (some ⟨b, 0, none⟩)) (hy : (f.eval y).cells = us.toArray)
    (hone : us.all (·.oneCell') = true) (hH : Turn (.blk b e cs) (.blk b e us) H H') (hfit : us.length = cs.length) (hk : K (putF E.n f d undef) H') :
    OpStep E ⟨d, .store t x y, ty, pos, after, gd⟩ f H K :=
  store ht hx hy hone (by rw [spl_all hfit]; exact hH) (by omega) hk
/-- A store into a slice of the list. -/
theorem storeOwn {t : TypeId} {x y : Operand} {g cap n m o : Nat} {e : TypeId} {size : Nat} {cs us : List Value} {v : Value} {H' : List Res} (ht : (E.P.info? t).map (·.size) = some us.length) (hx : f.eval x = .pointer (some ⟨g, o, none⟩)) (hv : v = .slice (some ⟨g, 0, none⟩) m cap) (hy : (f.eval y).cells = us.toArray)
    (hone : us.all (·.oneCell') = true) (hH : Turn (.own v e size n cs) (.own v e size n (spl cs o us)) H H') (hfit : o + us.length ≤ n * size) (hk : K (putF E.n f d undef) H') :
    OpStep E ⟨d, .store t x y, ty, pos, after, gd⟩ f H K := by
  refine of_skip (w' := fun w => w.setCells g o us) (fun w hs => ?_) hk
  subst hv
  obtain ⟨H1, H2, rfl, rfl⟩ := hH.split
  have hs' := hs.perm List.perm_middle
  have hown : w.ownsRow 0 e size (.slice (some ⟨g, 0, none⟩) m cap) n cs := hs'.holds (.own (.slice (some ⟨g, 0, none⟩) m cap) e size n cs) (by simp)
  have hm : m = n := by
    rcases hown.2 with ⟨h, _⟩ | ⟨_, _, _, h, _⟩
    · cases h
    · injection h
  subst hm
  constructor
  · have hth : w.there g o us.toArray.size := fun j hj => by
      have hj' : j < us.length := by simpa using hj
      have hl := hown.1
      constructor
      · have h2 := hown.cells (g := g) rfl (o + j) (cs[o + j]'(by omega)) (List.getElem?_eq_getElem (by omega))
        rw [Addr.add_mid, Nat.zero_add] at h2
        rw [h2]; rfl
      · exact hown.frozenAt (o + j)
    have := run_storeAt_mid (P := E.P) w g o t us.toArray hth (by simpa using ht) (by simpa using hone)
    simp [execOp, hx, storeAt_cells hy, this]
  · exact (St.setCellsOwn us o w cs hs').perm List.perm_middle.symm

/-- `append` onto a slice of the list: what is appended lies in the list, or anywhere else. -/
theorem append {t ty' : TypeId} {x y : Operand} {e : TypeId} {size bytes n m : Nat} {zs xs ys : List Value} {v u : Value} {H1 H2 : List Res} (ht : sliceOf E.P t = some (e, size, bytes, zs)) (hsz : 0 < size) (hzl : zs.length = size) (hx : f.eval x = v) (hy : f.eval y = u)
    (hH : H = H1 ++ .own v e size n xs :: H2) (hr : ∀ w, St E.M E.w0 w H → Sl w u size m ys) (h1 : ys.all (·.oneCell') = true) (hb : (n + m) * bytes ≤ 140737488355328) (hm : n + m ≤ maxLen)
    (hk : ∀ v', (v' = .slice none 0 0 ↔ v = .slice none 0 0 ∧ m = 0) → K (putF E.n f d v') (H1 ++ .own v' e size (n + m) (xs ++ ys) :: H2)) :
    OpStep E ⟨d, .call { callee := .builtin .append, args := #[x, y], argTypes := #[t, t] }, ty', pos, after, gd⟩ f H K := by
  intro a w ha hs Kw Q' hK
  subst hH
  have hs' := hs.perm List.perm_middle
  obtain ⟨hu, i, z, hi, hz, h3, h4, h5⟩ := sliceOf_spec ht
  have hown : w.ownsRow 0 e size v n xs := hs'.holds (.own v e size n xs) (by simp)
  obtain ⟨hl, A, c, rfl, hmc, hcm, hcell⟩ := hr w hs
  have run : ∃ v' w', (Builtin.append_ #[t, t] ty' #[v, .slice A m c]).run E.P w = .ok v' w' ∧ w'.ownsRow 0 e size v' (n + m) (xs ++ ys) ∧ w.grownBy w' v.ownBlock ∧ (v'.ownBlock = v.ownBlock ∨ v'.ownBlock = some w.heap.size) ∧ (v' = .slice none 0 0 ↔ v = .slice none 0 0 ∧ m = 0) := by
    have hmem : ∀ u ∈ ys, u.oneCell' = true := by simpa using h1
    have hzs : z.cells.size = size := by rw [← hzl, ← h5]; simp
    by_cases hm0 : m = 0
    · subst hm0
      have hy0 : ys = [] := List.eq_nil_of_length_eq_zero (by simpa using hl)
      subst hy0
      cases A with
      | none => 
        refine ⟨v, w, ?_, by simpa using hown, World.grownBy.refl w _, .inl rfl, by simp⟩
        rcases hown.2 with ⟨rfl, rfl⟩ | ⟨g, cap, cur, rfl, _, _, hnc, _⟩
        · simp [Builtin.append_, run_underlying hu, sizeOf, typeInfo, hi, Builtin.lenOf, Builtin.firstCells]
        · simp [Builtin.append_, run_underlying hu, sizeOf, typeInfo, hi, Builtin.lenOf, Builtin.firstCells, hnc, storeCells]
      | some ad =>
        obtain ⟨v', w', hrun, h7, h8, h9, h10⟩ := run_append_own_at (P := E.P) w 0 t ty' e i z size bytes hu hi hz h3 h4 hzs hsz v n xs hown ad 0 c [] (by simp) (by simp) (by simp) hm hb (Nat.zero_le _)
        exact ⟨v', w', hrun, h7, h8, h10, h9⟩
    · obtain ⟨b, o, rfl, _, hrg⟩ := hcell (by omega)
      obtain ⟨v', w', hrun, h7, h8, h9, h10⟩ := run_append_own_at (P := E.P) w 0 t ty' e i z size bytes hu hi hz h3 h4 hzs hsz v n xs hown ⟨b, o, none⟩ m c ys hl (fun j u hj => by rw [Addr.add_mid]; exact hrg j u hj) hmem hm hb (Nat.zero_le _)
      exact ⟨v', w', hrun, h7, h8, h10, h9⟩
  obtain ⟨v', w', hrun, h7, h8, h9, h10⟩ := run
  unfold Oper.wp
  rw [ha.eval]
  have he : (execOp f.eval ⟨d, .call { callee := .builtin .append, args := #[x, y], argTypes := #[t, t] }, ty', pos, after, gd⟩).run E.P w = .ok (.value v') w' := by
    simp [execOp, resolve, invoke, builtin, hx, hy, hrun]
  rw [he]
  refine hK _ _ _ _ (ha.put _ _) ?_ (hk v' h10)
  refine St.perm (St.turn (r := .own v e size n xs) (r' := .own v' e size (n + m) (xs ++ ys)) hs' h8.os h8.tape h8.output h8.size (fun k hk' hne => h8.block k hk' fun e => hne (by simpa [Res.has] using e.symm)) h7 ?_) List.perm_middle.symm
  intro k hk'
  simp only [Res.has] at hk' ⊢
  rcases h9 with e | e
  · exact .inl (e ▸ hk')
  · rw [e] at hk'; injection hk' with hk'; exact .inr (by omega)


/-- A slice's literal, its elements in their order. -/
theorem buildSlice {t : TypeId} {n : Nat} {parts : Array (Nat × Operand)} {e : TypeId} {size bytes : Nat} {zs us : List Value} (ht : sliceOf E.P t = some (e, size, bytes, zs)) (hn : n * size ≤ 16777216) (hnm : n ≤ maxLen)
    (hp : Parts f size 0 parts.toList us) (hpn : parts.size = n)
    (hk : ∀ b, K (putF E.n f d (.slice (some ⟨b, 0, none⟩) n n)) (.own (.slice (some ⟨b, 0, none⟩) n n) e size n us :: H)) : OpStep E ⟨d, .buildSlice t n parts, ty, pos, after, gd⟩ f H K := by
  obtain ⟨hu, i, z, hi, hz, h3, h4, h5⟩ := sliceOf_spec ht
  subst hpn
  have hlen : us.length = parts.size * size := by have := hp.length; simpa using this
  refine of_value (v := fun w => .slice (some ⟨w.heap.size, 0, none⟩) parts.size parts.size) (w' := fun w => w.alloc (.cells us.toArray e)) (H' := fun w => .own (.slice (some ⟨w.heap.size, 0, none⟩) parts.size parts.size) e size parts.size us :: H) fun w hs => ⟨?_, ?_, hk _⟩
  · have hno : ¬ parts.size * size > 2 ^ 24 := by omega
    have key : ∀ cur : Array Value, cur.size = parts.size * size → Instr.fill (fun i => some (i * size, size)) cur (parts.map fun p => (p.1, f.eval p.2)).toList = some us.toArray := by
      intro cur hc
      have := hp.fill cur (by simpa using hc)
      simpa using this
    by_cases h0 : parts.size * size = 0
    · simp only [execOp, Instr.buildSlice, Sem.run_bind, run_underlying hu, Result.andThen_ok]
      simp only [sizeOf, typeInfo, hi, h3, Sem.run_bind, run_program, Result.andThen_ok, Sem.run_pure, h0, if_true]
      rw [if_neg (by decide)]
      simp only [Sem.run_bind, Sem.run_pure, Result.andThen_ok]
      rw [key _ (by simp [h0])]
      simp [newRow]
    · simp only [execOp, Instr.buildSlice, Sem.run_bind, run_underlying hu, Result.andThen_ok]
      simp only [sizeOf, typeInfo, hi, h3, Sem.run_bind, run_program, Result.andThen_ok, Sem.run_pure, hno, if_false, h0, zeroValue, hz]
      rw [key _ (by simp)]
      simp [newRow]
  · have := hs.alloc e us.toArray
    refine St.turn (r := .blk w.heap.size e us) (r' := .own (.slice (some ⟨w.heap.size, 0, none⟩) parts.size parts.size) e size parts.size us) (by simpa using this) rfl rfl rfl (Nat.le_refl _) (fun _ _ _ => rfl) ?_ (fun k hk => .inl (by simpa [Res.has, Value.ownBlock] using hk))
    exact ⟨hlen, .inr ⟨w.heap.size, parts.size, us.toArray, rfl, Nat.zero_le _, heap_alloc_new w _, Nat.le_refl _, hnm, by simpa using hlen, by simp [← hlen]⟩⟩
end OpStep

namespace OpY
variable {E : Env} {f : Fr} {H : List Res} {d : Option Tmp} {ty : TypeId} {pos : String} {after : Array Edge} {gd : Option (Nat × Bool)}
theorem build {t : TypeId} {parts : Array (Nat × Operand)} {cs : List Value} (hb : E.P.built t (parts.map fun (i, x) => (i, f.eval x)).toList = some cs.toArray) :
    OpY E ⟨d, .build t parts, ty, pos, after, gd⟩ f H (.agg cs.toArray) := by
  intro w _
  have := run_build (P := E.P) w t (parts.map fun (i, x) => (i, f.eval x)) cs.toArray hb
  simp only [execOp, Sem.run_bind, this, Result.andThen_ok, Sem.run_pure]
theorem convInt {s t : TypeId} {x : Operand} {k k' : IntKind} {n : Int} (hs : (E.P.underlying s).isSome = true) (ht : E.P.underlying t = some (.int k')) (hx : f.eval x = .int k n) :
    OpY E ⟨d, .convert s t x, ty, pos, after, gd⟩ f H (.int k' (k'.wrap n)) := by
  intro w _
  obtain ⟨ds, hd⟩ := Option.isSome_iff_exists.mp hs
  simp [execOp, hx, convert, run_underlying hd, run_underlying ht, Conv.intToInt]
theorem sliceL {t : TypeId} {x y : Operand} {A : Option Addr} {n c : Nat} {k : IntKind} {l : Int} {e : TypeId} {size : Nat} {z : Nat × List Value} (ht : sliceOf E.P t = some (e, size, z)) (hx : f.eval x = .slice A n c) (hy : f.eval y = .int k l) (h0 : 0 ≤ l) (h1 : l ≤ n) :
    OpY E ⟨d, .slice t x (some y) none none, ty, pos, after, gd⟩ f H (sliced A l.toNat n c size) := by
  intro w _
  obtain ⟨hu, i, zz, hi, _, rfl, _⟩ := sliceOf_spec ht
  have he : E.P.elem t = e := by simp [Program.elem, hu]
  have hu' : E.P.underlying t = some (.slice (E.P.elem t)) := by rw [he]; exact hu
  simp [execOp, hx, hy, run_sliceAt_slice w t _ _ _ _ hu', run_slice_l w t A n c hu' k l h0 h1, he, sizeOf, typeInfo, hi]
theorem sliceH {t : TypeId} {x y : Operand} {A : Option Addr} {n c : Nat} {k : IntKind} {h : Int} {e : TypeId} {size : Nat} {z : Nat × List Value} (ht : sliceOf E.P t = some (e, size, z)) (hx : f.eval x = .slice A n c) (hy : f.eval y = .int k h) (h0 : 0 ≤ h) (h1 : h ≤ c) :
    OpY E ⟨d, .slice t x none (some y) none, ty, pos, after, gd⟩ f H (sliced A 0 h.toNat c size) := by
  intro w _
  obtain ⟨hu, i, zz, hi, _, rfl, _⟩ := sliceOf_spec ht
  have he : E.P.elem t = e := by simp [Program.elem, hu]
  have hu' : E.P.underlying t = some (.slice (E.P.elem t)) := by rw [he]; exact hu
  simp [execOp, hx, hy, run_sliceAt_slice w t _ _ _ _ hu', run_slice_h w t A n c hu' k h h0 h1, he, sizeOf, typeInfo, hi]
theorem sliceLH {t : TypeId} {x y z : Operand} {A : Option Addr} {n c : Nat} {k k' : IntKind} {l h : Int} {e : TypeId} {size : Nat} {zz : Nat × List Value} (ht : sliceOf E.P t = some (e, size, zz)) (hx : f.eval x = .slice A n c) (hy : f.eval y = .int k l) (hz : f.eval z = .int k' h) (h0 : 0 ≤ l) (h1 : l ≤ h) (h2 : h ≤ c) :
    OpY E ⟨d, .slice t x (some y) (some z) none, ty, pos, after, gd⟩ f H (sliced A l.toNat h.toNat c size) := by
  intro w _
  obtain ⟨hu, i, zz, hi, _, rfl, _⟩ := sliceOf_spec ht
  have he : E.P.elem t = e := by simp [Program.elem, hu]
  have hu' : E.P.underlying t = some (.slice (E.P.elem t)) := by rw [he]; exact hu
  simp [execOp, hx, hy, hz, run_sliceAt_slice w t _ _ _ _ hu', run_slice_lh w t A n c hu' k k' l h h0 h1 h2, he, sizeOf, typeInfo, hi]
theorem add {t t' : TypeId} {x y : Operand} {a b c : Int} (hx : f.eval x = .int .i64 a) (hy : f.eval y = .int .i64 b) (hc : a + b = c) (h0 : -9223372036854775808 ≤ c) (h1 : c ≤ 9223372036854775807) :
    OpY E ⟨d, .binOp .add t x y t', ty, pos, after, gd⟩ f H (.int .i64 c) := by
  subst hc
  intro w _
  have : IntKind.i64.wrap (a + b) = a + b := by rw [IntKind.wrap_i64]; omega
  simp [execOp, hx, hy, eqGuard, binOp, Op.intArith, this]
theorem sub {t t' : TypeId} {x y : Operand} {a b c : Int} (hx : f.eval x = .int .i64 a) (hy : f.eval y = .int .i64 b) (hc : a - b = c) (h0 : -9223372036854775808 ≤ c) (h1 : c ≤ 9223372036854775807) :
    OpY E ⟨d, .binOp .sub t x y t', ty, pos, after, gd⟩ f H (.int .i64 c) := by
  subst hc
  intro w _
  have : IntKind.i64.wrap (a - b) = a - b := by rw [IntKind.wrap_i64]; omega
  simp [execOp, hx, hy, eqGuard, binOp, Op.intArith, this]
end OpY

theorem flatten_get {size : Nat} (zs : List Value) (hz : zs.length = size) (hs : 0 < size) : ∀ (n i : Nat), i < n * size → ((List.replicate n zs).flatten)[i]? = zs[i % size]?
  | 0, i, h => by omega
  | n + 1, i, h => by
    rw [List.replicate_succ, List.flatten_cons]
    by_cases hi : i < size
    · rw [List.getElem?_append_left (by omega), Nat.mod_eq_of_lt hi]
    · rw [List.getElem?_append_right (by omega), hz, flatten_get zs hz hs n (i - size) (by rw [Nat.add_mul, Nat.one_mul] at h; omega)]
      have e : (i - size) % size = i % size := (Nat.mod_eq_sub_mod (by omega)).symm
      rw [e]
theorem madeCells_toList (z : Array Value) (n : Nat) (hs : 0 < z.size) : (madeCells z (n * z.size)).toList = (List.replicate n z.toList).flatten := by
  apply List.ext_getElem?
  intro i
  by_cases hi : i < n * z.size
  · rw [flatten_get z.toList rfl (by simpa using hs) n i (by simpa using hi)]
    simp [madeCells, hi, Nat.mod_lt _ hs]
  · have h1 : (madeCells z (n * z.size)).toList.length = n * z.size := by simp [madeCells]
    have h2 : (List.replicate n z.toList).flatten.length = n * z.size := by simp [List.length_flatten]
    rw [List.getElem?_eq_none (by omega), List.getElem?_eq_none (by omega)]

namespace OpStep
variable {E : Env} {f : Fr} {H : List Res} {d : Option Tmp} {ty : TypeId} {pos : String} {after : Array Edge} {gd : Option (Nat × Bool)} {K : Fr → List Res → Prop}
theorem makeSlice {t : TypeId} {x y : Operand} {e : TypeId} {size bytes n : Nat} {zs : List Value} {k k' : IntKind} (ht : sliceOf E.P t = some (e, size, bytes, zs)) (hzl : zs.length = size) (hsz : 0 < size) (hx : f.eval x = .int k n) (hy : f.eval y = .int k' n) (hb : n * bytes ≤ 281474976710656) (hm : n ≤ maxLen)
    (hk : ∀ b, K (putF E.n f d (.slice (some ⟨b, 0, none⟩) n n)) (.own (.slice (some ⟨b, 0, none⟩) n n) e size n (List.replicate n zs).flatten :: H)) : OpStep E ⟨d, .makeSlice t x y, ty, pos, after, gd⟩ f H K := by
  obtain ⟨hu, i, z, hi, hz, h3, h4, h5⟩ := sliceOf_spec ht
  have hzs : z.cells.size = size := by rw [← hzl, ← h5]; simp
  have hcells : (madeCells z.cells (n * size)).toList = (List.replicate n zs).flatten := by
    rw [← hzs, madeCells_toList _ _ (by omega), h5]
  have h63 : (n : Int) ≤ 9223372036854775807 := by have h := hm; simp [maxLen] at h; omega
  have hbb : (i.bytes : Int) * (n : Int) ≤ 281474976710656 := by
    rw [h4]
    have h : ((bytes * n : Nat) : Int) ≤ 281474976710656 := by rw [Nat.mul_comm]; omega
    rwa [Int.natCast_mul] at h
  refine of_value (v := fun w => .slice (some ⟨w.heap.size, 0, none⟩) n n) (w' := fun w => w.alloc (.cells (madeCells z.cells (n * size)) e)) (H' := fun w => .own (.slice (some ⟨w.heap.size, 0, none⟩) n n) e size n (List.replicate n zs).flatten :: H) fun w hs => ⟨?_, ?_, hk _⟩
  · have := run_make (P := E.P) w t e i z hu hi hz k k' n n (by omega) (by omega) hbb h63
    simp only [Int.toNat_natCast, h3] at this
    simp [execOp, hx, hy, this]
  · have := hs.alloc e (madeCells z.cells (n * size))
    refine St.turn (r := .blk w.heap.size e (madeCells z.cells (n * size)).toList) (r' := .own (.slice (some ⟨w.heap.size, 0, none⟩) n n) e size n (List.replicate n zs).flatten) this rfl rfl rfl (Nat.le_refl _) (fun _ _ _ => rfl) ?_ (fun k hk => .inl (by simpa [Res.has, Value.ownBlock] using hk))
    have hl : (List.replicate n zs).flatten.length = n * size := by simp [List.length_flatten, hzl]
    exact ⟨hl, .inr ⟨w.heap.size, n, madeCells z.cells (n * size), rfl, Nat.zero_le _, heap_alloc_new w _, Nat.le_refl _, hm, size_madeCells _ _, by rw [hcells, List.take_of_length_le (Nat.le_of_eq hl)]⟩⟩
end OpStep

/-! ### Into a function, and out of it -/
def getL : List Value → Nat → Value
  | [], _ => undef
  | v :: _, 0 => v
  | _ :: l, n + 1 => getL l n
theorem getL_eq : ∀ (l : List Value) (k t : Nat), (l.toArray ++ Array.replicate k undef).getD t undef = getL l t
  | [], k, t => by
    simp only [getL, Array.getD_eq_getD_getElem?]
    rw [show ([] : List Value).toArray ++ Array.replicate k undef = Array.replicate k undef from by simp]
    by_cases h : t < k <;> simp [h]
  | v :: l, k, 0 => by simp [getL, Array.getD_eq_getD_getElem?, Array.getElem?_append]
  | v :: l, k, t + 1 => by
    have := getL_eq l k t
    simp only [Array.getD_eq_getD_getElem?, getL] at this ⊢
    rw [← this]
    simp [Array.getElem?_append]

/-- The results of a function, off its frame. -/
def Out (E : Env) (fn : Func) (f : Fr) (H : List Res) (v : Value) : Prop := ∀ a w, Agree E.n a f → St E.M E.w0 w H → (results fn a.tmps).run E.P w = .ok v w
def RetQ (P : Program) (n : Nat) (M : Nat → Prop) (w0 : World) (fn : Func) (post : Value → List Res → Prop) : Exit → Fr → List Res → Prop
  | .normal, f, H | .ret, f, H => ∃ v H', Out ⟨P, n, M, w0, fun _ _ _ => True⟩ fn f H v ∧ Weak H H' ∧ post v H'
  | _, _, _ => False

theorem enter {P : Program} {g : FuncId} {fn : Func} {c : Code} {args : List Value} {w : World} {M : Nat → Prop} {H0 : List Res} {post : Value → List Res → Prop} {n : Nat}
    (hf : P.funcs[g]? = some fn) (hb : fn.body = some c) (hn : args.length + (fn.ntmps - args.length) = n) (hs : St M w w H0)
    (h : Run ⟨P, n, M, w, RetQ P n M w fn post⟩ [.code c] (getL args) H0) : Calls P g args.toArray w (Post M w post) := by
  refine calls_of_wp hf hb ?_
  refine wp_mono (h _ w ⟨rfl, ?_, fun t => ?_⟩ hs) ?_
  · simpa using hn
  · exact getL_eq args _ t
  · rintro e a w' ⟨f, H, h1, h2, h3⟩
    cases e <;> simp only [Cont, RetQ] at h3
    all_goals
      obtain ⟨v, H', ho, hw, hp⟩ := h3
      exact ⟨h1.defers, v, ho a w' h1 h2, v, H', rfl, hw _ _ _ h2, hp⟩

theorem Out.one {E : Env} {fn : Func} {f : Fr} {H : List Res} {t : Tmp} {v : Value} (h : fn.results = #[.tmp t]) (hv : f t = v) : Out E fn f H v := by
  subst hv; intro a w ha _; rw [results_tmp h, ha.at_]
theorem Out.two {E : Env} {fn : Func} {f : Fr} {H : List Res} {t u : Tmp} {v v' : Value} (h : fn.results = #[.tmp t, .tmp u]) (hv : f t = v) (hv' : f u = v') : Out E fn f H (.tuple #[v, v']) := by
  subst hv; subst hv'; intro a w ha _; rw [results_tmp2 h, ha.at_, ha.at_]
theorem Out.none {E : Env} {fn : Func} {f : Fr} {H : List Res} (h : fn.results = #[]) : Out E fn f H (.tuple #[]) := by
  intro a w _ _; rw [results_none h]
theorem run_results_cell {P : Program} {w : World} {t : TypeId} {v : Value} {b o : Nat} {cs : List Value} (hv : v = .pointer (some ⟨b, o, .none⟩)) (ht : aggOf P t = some cs.length) (hc : w.rangeAt b o cs) : (do loadVar t (← asAddr v) : Sem Value).run P w = .ok (.agg cs.toArray) w := by
  unfold aggOf at ht
  split at ht
  · rename_i ds hu
    split at ht
    · rename_i hr
      subst hv
      simp [asAddr, run_loadVar_mid (P := P) w b o t cs ds hc hu hr ht]
    · cases ht
  · cases ht
theorem Out.cell1 {E : Env} {fn : Func} {f : Fr} {H : List Res} {t : Tmp} {ty : TypeId} {b o : Nat} {cs : List Value} (h : fn.results = #[.cell t ty]) (ht : aggOf E.P ty = some cs.length) (hp : f t = .pointer (some ⟨b, o, .none⟩)) (hc : Cells E H b o cs) : Out E fn f H (.agg cs.toArray) := by
  intro a w ha hs
  have := run_results_cell (v := a.tmps.getD t undef) (by rw [ha.at_]; exact hp) ht (hc w hs)
  unfold results
  rw [h]
  simp only [List.mapM_toArray, List.mapM_cons, List.mapM_nil, Sem.run_bind, Sem.run_map, this, Result.andThen_ok, Sem.run_pure]
  rfl
theorem Out.cell2 {E : Env} {fn : Func} {f : Fr} {H : List Res} {t u : Tmp} {ty : TypeId} {b o : Nat} {cs : List Value} {v : Value} (h : fn.results = #[.cell t ty, .tmp u]) (ht : aggOf E.P ty = some cs.length) (hp : f t = .pointer (some ⟨b, o, .none⟩)) (hc : Cells E H b o cs) (hv : f u = v) : Out E fn f H (.tuple #[.agg cs.toArray, v]) := by
  subst hv; intro a w ha hs
  have := run_results_cell (P := E.P) hp ht (hc w hs)
  simp only [Sem.run_bind] at this
  unfold results
  rw [h]
  simp only [List.mapM_toArray, List.mapM_cons, List.mapM_nil, Sem.run_bind, Sem.run_map, Sem.run_pure, ha.at_, this, Result.andThen_ok]
  rfl
theorem Out.cell3 {E : Env} {fn : Func} {f : Fr} {H : List Res} {t u u' : Tmp} {ty : TypeId} {b o : Nat} {cs : List Value} {v v' : Value} (h : fn.results = #[.cell t ty, .tmp u, .tmp u']) (ht : aggOf E.P ty = some cs.length) (hp : f t = .pointer (some ⟨b, o, .none⟩)) (hc : Cells E H b o cs) (hv : f u = v) (hv' : f u' = v') : Out E fn f H (.tuple #[.agg cs.toArray, v, v']) := by
  subst hv; subst hv'; intro a w ha hs
  have := run_results_cell (P := E.P) hp ht (hc w hs)
  simp only [Sem.run_bind] at this
  unfold results
  rw [h]
  simp only [List.mapM_toArray, List.mapM_cons, List.mapM_nil, Sem.run_bind, Sem.run_map, Sem.run_pure, ha.at_, this, Result.andThen_ok]
  rfl

/-! ### Slices that are read -/
def Rd (E : Env) (H : List Res) (v : Value) (size n : Nat) (xs : List Value) : Prop := ∀ w, St E.M E.w0 w H → Sl w v size n xs
theorem Rd.own {E : Env} {H : List Res} {v : Value} {e : TypeId} {size n : Nat} {xs : List Value} (hm : Res.own v e size n xs ∈ H) : Rd E H v size n xs := by
  intro w hs
  have h1 : w.ownsRow 0 e size v n xs := hs.holds (.own v e size n xs) hm
  refine ⟨h1.1, ?_⟩
  rcases h1.2 with ⟨rfl, rfl⟩ | ⟨g, cap, cur, rfl, _, hg, h3, h4, _⟩
  · exact ⟨none, 0, rfl, Nat.le_refl _, Nat.zero_le _, fun h => absurd h (by omega)⟩
  · refine ⟨some ⟨g, 0, none⟩, cap, rfl, h3, h4, fun _ => ⟨g, 0, rfl, (Array.getElem?_eq_some_iff.1 hg).1, fun j u hu => ?_⟩⟩
    have := h1.cells (g := g) rfl j u hu
    rwa [Addr.add_mid] at this
theorem Rd.arg {E : Env} {H : List Res} {v : Value} {size n : Nat} {xs : List Value} (h : Sl E.w0 v size n xs) (hM : E.M = No) : Rd E H v size n xs := by
  intro w hs
  obtain ⟨hl, A, c, rfl, h1, h2, h3⟩ := h
  refine ⟨hl, A, c, rfl, h1, h2, fun h0 => ?_⟩
  obtain ⟨b, o, rfl, hb, hr⟩ := h3 h0
  refine ⟨b, o, rfl, Nat.lt_of_lt_of_le hb hs.size, fun j u hu => ?_⟩
  have hk := hs.keep b hb (by rw [hM]; exact fun x => x)
  rw [World.cell?_of_block (w := E.w0) hk]
  exact hr j u hu
theorem Rd.nil {E : Env} {H : List Res} {size c : Nat} {A : Option Addr} (hc : c ≤ maxLen) : Rd E H (.slice A 0 c) size 0 [] :=
  fun _ _ => ⟨by simp, A, c, rfl, Nat.zero_le _, hc, fun h => absurd h (by omega)⟩
/-- The form of a slice that has an element. -/
theorem Run.open_ {E : Env} {k : List It} {f : Fr} {H : List Res} {v : Value} {size n : Nat} {xs : List Value} (hr : Rd E H v size n xs) (hn : 0 < n)
    (h : ∀ b o c, v = .slice (some ⟨b, o, none⟩) n c → n ≤ c → c ≤ maxLen → Cells E H b o xs → Run E k f H) (hk : ∀ G i k', k ≠ .goal G :: k' ∧ k ≠ .block i :: k' ∧ k ≠ []) : Run E k f H := by
  have key : ∀ w, St E.M E.w0 w H → Run E k f H := by
    intro w hs
    obtain ⟨_, A, c, rfl, h1, h2, h3⟩ := hr w hs
    obtain ⟨b, o, rfl, _, _⟩ := h3 hn
    refine h b o c rfl h1 h2 fun w' hs' => ?_
    obtain ⟨_, A', c', he, _, _, h3'⟩ := hr w' hs'
    injection he with he1 he2 he3
    subst he1
    obtain ⟨b', o', he, _, hrg⟩ := h3' hn
    injection he with he
    injection he with hb ho
    subst hb; subst ho
    exact hrg
  match k, hk with
  | [], hk => exact absurd rfl (hk (fun _ _ => True) 0 []).2.2
  | .goal G :: k', hk => exact absurd rfl (hk G 0 k').1
  | .block i :: k', hk => exact absurd rfl (hk (fun _ _ => True) i k').2.1
  | .rounds c n :: k', _ => exact fun a w ha hs => key w hs a w ha hs
  | .ops ops l :: k', _ => exact fun a w ha hs => key w hs a w ha hs
  | .code c :: k', _ => exact fun a w ha hs => key w hs a w ha hs
theorem Cells.sub {E : Env} {H : List Res} {b o : Nat} {xs ys : List Value} {k : Nat} (h : Cells E H b o xs) (hp : Pre xs k ys) : Cells E H b (o + k) ys := by
  intro w hs j u hu
  have := h w hs (k + j) u (hp.get j u hu)
  rwa [← Nat.add_assoc] at this

theorem St.sl {w0 w : World} {H : List Res} {v : Value} {size n : Nat} {xs : List Value} (hs : St No w0 w H) (h : Sl w0 v size n xs) : Sl w v size n xs :=
  Rd.arg (E := ⟨default, 0, No, w0, fun _ _ _ => True⟩) h rfl w hs
theorem St.slOwn {M : Nat → Prop} {w0 w : World} {H : List Res} {v : Value} {e : TypeId} {size n : Nat} {xs : List Value} (hs : St M w0 w H) (hm : Res.own v e size n xs ∈ H) : Sl w v size n xs :=
  Rd.own (E := ⟨default, 0, M, w0, fun _ _ _ => True⟩) hm w hs
theorem Cells.arg {E : Env} {H : List Res} {b o n c size : Nat} {xs ys : List Value} {k : Nat} (h : Sl E.w0 (.slice (some ⟨b, o, none⟩) n c) size n xs) (hM : E.M = No) (hn : 0 < n) (hp : Pre xs k ys) : Cells E H b (o + k) ys := by
  refine Cells.sub (xs := xs) (fun w hs => ?_) hp
  obtain ⟨_, A, c', he, _, _, h3⟩ := Rd.arg h hM w hs
  injection he with he1
  subst he1
  obtain ⟨b', o', he, _, hrg⟩ := h3 hn
  injection he with he
  injection he with hb ho
  subst hb; subst ho
  exact hrg
/-- The form of an argument that is a slice with an element. -/
theorem Sl.form {w : World} {v : Value} {size n : Nat} {xs : List Value} (h : Sl w v size n xs) (hn : 0 < n) : ∃ b o c, v = .slice (some ⟨b, o, none⟩) n c ∧ n ≤ c ∧ c ≤ maxLen := by
  obtain ⟨_, A, c, rfl, h1, h2, h3⟩ := h
  obtain ⟨b, o, rfl, _, _⟩ := h3 hn
  exact ⟨b, o, c, rfl, h1, h2⟩
theorem Sl.form0 {w : World} {v : Value} {size n : Nat} {xs : List Value} (h : Sl w v size n xs) : ∃ A c, v = .slice A n c ∧ n ≤ c ∧ c ≤ maxLen := by
  obtain ⟨_, A, c, rfl, h1, h2, _⟩ := h
  exact ⟨A, c, rfl, h1, h2⟩
theorem Cells.own0 {E : Env} {H : List Res} {g cap n m : Nat} {e : TypeId} {size : Nat} {cs xs : List Value} {o : Nat} (hm : Res.own (.slice (some ⟨g, 0, none⟩) m cap) e size n cs ∈ H) (hp : Pre cs o xs) : Cells E H g o xs := Cells.own hm rfl hp

namespace OpY
variable {E : Env} {f : Fr} {H : List Res} {d : Option Tmp} {ty : TypeId} {pos : String} {after : Array Edge} {gd : Option (Nat × Bool)}
theorem index {t : TypeId} {x y : Operand} {b o n c kk off : Nat} {k : IntKind} {i : Int} {e : TypeId} {size : Nat} {z : Nat × List Value} (ht : sliceOf E.P t = some (e, size, z)) (hx : f.eval x = .slice (some ⟨b, o, none⟩) n c) (hy : f.eval y = .int k i)
    (hi : i = (kk : Int)) (hlt : kk < n) (ho : o + kk * size = off) : OpY E ⟨d, .indexAddr t x y, ty, pos, after, gd⟩ f H (.pointer (some ⟨b, off, none⟩)) := by
  subst hi; subst ho
  have := indexAddr (E := E) (f := f) (H := H) (d := d) (ty := ty) (pos := pos) (after := after) (gd := gd) ht hx hy (by omega) (by omega)
  simpa using this
theorem moveB {x : Operand} {b c : Bool} (hx : f.eval x = .bool b) (hb : b = c) : OpY E ⟨d, .move x, ty, pos, after, gd⟩ f H (.bool c) := by
  subst hb
  exact OpY.pure (by simp only [execOp, hx]; rfl)
end OpY
/-- The form of a slice of the list that has an element. -/
theorem Run.openOwn {E : Env} {k : List It} {f : Fr} {H : List Res} {v : Value} {e : TypeId} {size n : Nat} {xs : List Value} (hm : Res.own v e size n xs ∈ H) (hn : 0 < n)
    (h : ∀ g c, v = .slice (some ⟨g, 0, none⟩) n c → n ≤ c → c ≤ maxLen → Run E k f H) (hk : ∀ G i k', k ≠ .goal G :: k' ∧ k ≠ .block i :: k' ∧ k ≠ []) : Run E k f H := by
  have key : ∀ w, St E.M E.w0 w H → Run E k f H := by
    intro w hs
    have h1 : w.ownsRow 0 e size v n xs := hs.holds (.own v e size n xs) hm
    rcases h1.2 with ⟨_, h0⟩ | ⟨g, cap, cur, rfl, _, hg, h3, h4, _⟩
    · omega
    · exact h g cap rfl h3 h4
  match k, hk with
  | [], hk => exact absurd rfl (hk (fun _ _ => True) 0 []).2.2
  | .goal G :: k', hk => exact absurd rfl (hk G 0 k').1
  | .block i :: k', hk => exact absurd rfl (hk (fun _ _ => True) i k').2.1
  | .rounds c n :: k', _ => exact fun a w ha hs => key w hs a w ha hs
  | .ops ops l :: k', _ => exact fun a w ha hs => key w hs a w ha hs
  | .code c :: k', _ => exact fun a w ha hs => key w hs a w ha hs
/-- The form of a slice of the list, whatever its length. -/
theorem Run.formOwn {E : Env} {k : List It} {f : Fr} {H : List Res} {v : Value} {e : TypeId} {size n : Nat} {xs : List Value} (hm : Res.own v e size n xs ∈ H)
    (h : ∀ A c, v = .slice A n c → n ≤ c → c ≤ maxLen → Run E k f H) (hk : ∀ G i k', k ≠ .goal G :: k' ∧ k ≠ .block i :: k' ∧ k ≠ []) : Run E k f H := by
  have key : ∀ w, St E.M E.w0 w H → Run E k f H := by
    intro w hs
    obtain ⟨A, c, h1, h2, h3⟩ := (hs.slOwn hm).form0
    exact h A c h1 h2 h3
  match k, hk with
  | [], hk => exact absurd rfl (hk (fun _ _ => True) 0 []).2.2
  | .goal G :: k', hk => exact absurd rfl (hk G 0 k').1
  | .block i :: k', hk => exact absurd rfl (hk (fun _ _ => True) i k').2.1
  | .rounds c n :: k', _ => exact fun a w ha hs => key w hs a w ha hs
  | .ops ops l :: k', _ => exact fun a w ha hs => key w hs a w ha hs
  | .code c :: k', _ => exact fun a w ha hs => key w hs a w ha hs

theorem Same.put {D : List Nat} {f f' : Fr} {n : Nat} {o : Option Nat} {v : Value} (hd : (match o with | some d => D.contains d | none => true) = true) (h : Same D f f') : Same D f (putF n f' o v) := by
  cases o with
  | none => exact h
  | some d => exact Same.upd hd h
theorem Weak.nilOwn {H : List Res} (e : TypeId) (size : Nat) : Weak H (.own (.slice none 0 0) e size 0 [] :: H) := by
  intro M w0 w h
  refine ⟨h.os, h.tape, h.output, h.size, h.keep, ?_, ?_, ?_⟩
  · intro r hr
    rcases List.mem_cons.1 hr with rfl | hr
    · exact World.ownsRow_nil w 0 e size
    · exact h.holds r hr
  · intro r hr k hk hl
    rcases List.mem_cons.1 hr with rfl | hr
    · simp [Res.has, Value.ownBlock] at hk
    · exact h.fresh r hr k hk hl
  · refine List.pairwise_cons.2 ⟨fun r _ k hk => by simp [Res.has, Value.ownBlock] at hk, h.disj⟩

namespace OpY
variable {E : Env} {f : Fr} {H : List Res} {d : Option Tmp} {ty : TypeId} {pos : String} {after : Array Edge} {gd : Option (Nat × Bool)}
theorem mul {t t' : TypeId} {x y : Operand} {a b c : Int} (hx : f.eval x = .int .i64 a) (hy : f.eval y = .int .i64 b) (hc : a * b = c) (h0 : -9223372036854775808 ≤ c) (h1 : c ≤ 9223372036854775807) :
    OpY E ⟨d, .binOp .mul t x y t', ty, pos, after, gd⟩ f H (.int .i64 c) := by
  subst hc
  intro w _
  have : IntKind.i64.wrap (a * b) = a * b := by rw [IntKind.wrap_i64]; omega
  simp [execOp, hx, hy, eqGuard, binOp, Op.intArith, this]
theorem neg {t : TypeId} {x : Operand} {a : Int} (hx : f.eval x = .int .i64 a) (h0 : -9223372036854775808 ≤ -a) (h1 : -a ≤ 9223372036854775807) :
    OpY E ⟨d, .unOp .neg t x, ty, pos, after, gd⟩ f H (.int .i64 (-a)) := by
  intro w _
  have : IntKind.i64.wrap (-a) = -a := by rw [IntKind.wrap_i64]; omega
  simp [execOp, hx, Op.unary, Op.intArith, this]
theorem shr {t t' : TypeId} {x y : Operand} {a b : Int} {n : Nat} {k : IntKind} (hx : f.eval x = .int .i64 a) (hy : f.eval y = .int k b) (hn : b = (n : Int)) (h1 : n ≤ 64) :
    OpY E ⟨d, .binOp .shr t x y t', ty, pos, after, gd⟩ f H (.int .i64 (a >>> n)) := by
  subst hn
  intro w _
  have h3 : a / 2 ^ n = a >>> n := by rw [Int.shiftRight_eq_div_pow]; norm_cast
  simp only [execOp, hx, hy, eqGuard, binOp]
  rw [shift_shr .i64 k a n (by omega) (by simp only [IntKind.bits]; omega)]
  simp [h3]
theorem and1 {t t' : TypeId} {x y : Operand} {a : Int} (hx : f.eval x = .int .i64 a) (hy : f.eval y = .int .i64 1) :
    OpY E ⟨d, .binOp .and t x y t', ty, pos, after, gd⟩ f H (.int .i64 (a % 2)) := by
  intro w _
  have h : bits .and .i64 a 1 = a % 2 := by
    show IntKind.i64.wrap ((BitVec.ofInt 64 a &&& BitVec.ofInt 64 1).toNat : Int) = a % 2
    have e1 : (BitVec.ofInt 64 1).toNat = 1 := rfl
    rw [BitVec.toNat_and, e1, Nat.and_one_is_mod, BitVec.toNat_ofInt, IntKind.wrap_i64]
    omega
  simp [execOp, hx, hy, eqGuard, binOp, intBits_and, h]
theorem rem {t t' : TypeId} {x y : Operand} {a b : Int} (hx : f.eval x = .int .i64 a) (hy : f.eval y = .int .i64 b) (h0 : 0 ≤ a) (h1 : 0 < b) :
    OpY E ⟨d, .binOp .rem t x y t', ty, pos, after, gd⟩ f H (.int .i64 (a % b)) := by
  intro w _
  have hb : ¬ b = 0 := by omega
  have h : a.tmod b = a % b := Int.tmod_eq_emod_of_nonneg h0
  simp [execOp, hx, hy, eqGuard, binOp, Op.intDiv, hb, h]
theorem max {x y : Operand} {ats : Array TypeId} {a b : Int} (hx : f.eval x = .int .i64 a) (hy : f.eval y = .int .i64 b) :
    OpY E ⟨d, .call { callee := .builtin .max, args := #[x, y], argTypes := ats }, ty, pos, after, gd⟩ f H (.int .i64 (Max.max a b)) := by
  intro w _
  have h : (if b > a then b else a) = Max.max a b := by simp only [Int.max_def]; split <;> split <;> omega
  simp [execOp, resolve, invoke, builtin, hx, hy, Builtin.max_, Builtin.max2]
  exact h
theorem min {x y : Operand} {ats : Array TypeId} {a b : Int} (hx : f.eval x = .int .i64 a) (hy : f.eval y = .int .i64 b) :
    OpY E ⟨d, .call { callee := .builtin .min, args := #[x, y], argTypes := ats }, ty, pos, after, gd⟩ f H (.int .i64 (Min.min a b)) := by
  intro w _
  have h : (if b < a then b else a) = Min.min a b := by simp only [Int.min_def]; split <;> split <;> omega
  simp [execOp, resolve, invoke, builtin, hx, hy, Builtin.min_, Builtin.min2]
  exact h
theorem convIntEq {s t : TypeId} {x : Operand} {k k' : IntKind} {n m : Int} (hs : (E.P.underlying s).isSome = true) (ht : E.P.underlying t = some (.int k')) (hx : f.eval x = .int k n) (hm : k'.wrap n = m) :
    OpY E ⟨d, .convert s t x, ty, pos, after, gd⟩ f H (.int k' m) := by
  subst hm; exact convInt hs ht hx
theorem indexArr {t : TypeId} {x y : Operand} {b o n kk off : Nat} {k : IntKind} {i : Int} {size : Nat} (ht : arrayOf E.P t = some (n, size)) (hx : f.eval x = .pointer (some ⟨b, o, none⟩)) (hy : f.eval y = .int k i)
    (hi : i = (kk : Int)) (hlt : kk < n) (ho : o + kk * size = off) : OpY E ⟨d, .indexAddr t x y, ty, pos, after, gd⟩ f H (.pointer (some ⟨b, off, none⟩)) := by
  subst hi; subst ho
  have := indexAddrArr (E := E) (f := f) (H := H) (d := d) (ty := ty) (pos := pos) (after := after) (gd := gd) ht hx hy (by omega) (by omega)
  simpa using this
theorem eqB {t t' : TypeId} {x y : Operand} {a b : Bool} (ht : E.P.underlying t = some .bool) (hx : f.eval x = .bool a) (hy : f.eval y = .bool b) :
    OpY E ⟨d, .binOp .eql t x y t', ty, pos, after, gd⟩ f H (.bool (a == b)) := by
  intro w _
  have h0 : ∀ d : Nat, (Op.equalIn (d + 1) t (.bool a) (.bool b)).run E.P w = .ok (a == b) w := fun d => by
    simp [Op.equalIn, run_underlying ht]
  have h : (Op.equal t (.bool a) (.bool b)).run E.P w = .ok (a == b) w := by
    simp [Op.equal, Op.maxDepth, h0 9999]
  simp [execOp, hx, hy, eqGuard, binOp, h]
theorem eqBn {t t' : TypeId} {x y : Operand} {a b : Bool} (ht : E.P.underlying t = some .bool) (hx : f.eval x = .bool a) (hy : f.eval y = .bool b) :
    OpY E ⟨d, .binOp .neq t x y t', ty, pos, after, gd⟩ f H (.bool (a != b)) := by
  intro w _
  have h0 : ∀ d : Nat, (Op.equalIn (d + 1) t (.bool a) (.bool b)).run E.P w = .ok (a == b) w := fun d => by
    simp [Op.equalIn, run_underlying ht]
  have h : (Op.equal t (.bool a) (.bool b)).run E.P w = .ok (a == b) w := by
    simp [Op.equal, Op.maxDepth, h0 9999]
  simp [execOp, hx, hy, eqGuard, binOp, h, bne]
end OpY

theorem St.start1 {r : Res} {w : World} (h : r.holds w) : St (Of [r]) w w [r] := St.start (fun s hs => by simp only [List.mem_singleton] at hs; subst hs; exact h) (by simp)
theorem Out.three {E : Env} {fn : Func} {f : Fr} {H : List Res} {t u x : Tmp} {v v' v'' : Value} (h : fn.results = #[.tmp t, .tmp u, .tmp x]) (hv : f t = v) (hv' : f u = v') (hv'' : f x = v'') : Out E fn f H (.tuple #[v, v', v'']) := by
  subst hv; subst hv'; subst hv''
  intro a w ha _
  unfold results
  rw [h]
  simp only [List.mapM_toArray, List.mapM_cons, List.mapM_nil, Sem.run_bind, Sem.run_map, Sem.run_pure, ha.at_, Result.andThen_ok]
  rfl

namespace OpY
variable {E : Env} {f : Fr} {H : List Res} {d : Option Tmp} {ty : TypeId} {pos : String} {after : Array Edge} {gd : Option (Nat × Bool)}
theorem subW {t t' : TypeId} {x y : Operand} {a b c : Int} (hx : f.eval x = .int .i64 a) (hy : f.eval y = .int .i64 b) (hc : IntKind.i64.wrap (a - b) = c) :
    OpY E ⟨d, .binOp .sub t x y t', ty, pos, after, gd⟩ f H (.int .i64 c) := by
  subst hc
  intro w _
  simp [execOp, hx, hy, eqGuard, binOp, Op.intArith]
theorem addW {t t' : TypeId} {x y : Operand} {a b c : Int} (hx : f.eval x = .int .i64 a) (hy : f.eval y = .int .i64 b) (hc : IntKind.i64.wrap (a + b) = c) :
    OpY E ⟨d, .binOp .add t x y t', ty, pos, after, gd⟩ f H (.int .i64 c) := by
  subst hc
  intro w _
  simp [execOp, hx, hy, eqGuard, binOp, Op.intArith]
theorem mulW {t t' : TypeId} {x y : Operand} {a b c : Int} (hx : f.eval x = .int .i64 a) (hy : f.eval y = .int .i64 b) (hc : IntKind.i64.wrap (a * b) = c) :
    OpY E ⟨d, .binOp .mul t x y t', ty, pos, after, gd⟩ f H (.int .i64 c) := by
  subst hc
  intro w _
  simp [execOp, hx, hy, eqGuard, binOp, Op.intArith]
theorem sliceHN {t : TypeId} {x y : Operand} {A : Option Addr} {n c h : Nat} {k : IntKind} {i : Int} {e : TypeId} {size : Nat} {z : Nat × List Value} (ht : sliceOf E.P t = some (e, size, z)) (hx : f.eval x = .slice A n c) (hy : f.eval y = .int k i) (hi : i = (h : Int)) (h1 : h ≤ c) :
    OpY E ⟨d, .slice t x none (some y) none, ty, pos, after, gd⟩ f H (.slice A h c) := by
  subst hi
  have := sliceH (E := E) (f := f) (H := H) (d := d) (ty := ty) (pos := pos) (after := after) (gd := gd) ht hx hy (by omega) (by omega)
  have e : sliced A 0 ((h : Int).toNat) c size = .slice A h c := by
    unfold sliced
    cases A with
    | none => simp
    | some a => simp [Addr.add]
  rw [e] at this; exact this
theorem eqlSame {t t' : TypeId} {x y : Operand} {a b : Int} {k : IntKind} (hx : f.eval x = .int k a) (hy : f.eval y = .int k b) (h : a = b) :
    OpY E ⟨d, .binOp .eql t x y t', ty, pos, after, gd⟩ f H (.bool true) := by
  intro w _
  simp [execOp, hx, hy, eqGuard, binOp, Op.intCmp, h]
theorem neqSame {t t' : TypeId} {x y : Operand} {a b : Int} {k : IntKind} (hx : f.eval x = .int k a) (hy : f.eval y = .int k b) (h : a = b) :
    OpY E ⟨d, .binOp .neq t x y t', ty, pos, after, gd⟩ f H (.bool false) := by
  intro w _
  simp [execOp, hx, hy, eqGuard, binOp, Op.intCmp, h]
theorem eqlBSame {t t' : TypeId} {x y : Operand} {a b : Bool} (ht : E.P.underlying t = some .bool) (hx : f.eval x = .bool a) (hy : f.eval y = .bool b) (h : a = b) :
    OpY E ⟨d, .binOp .eql t x y t', ty, pos, after, gd⟩ f H (.bool true) := by
  have := eqB (E := E) (f := f) (H := H) (d := d) (t' := t') (ty := ty) (pos := pos) (after := after) (gd := gd) ht hx hy
  subst h; simpa using this
theorem neqBSame {t t' : TypeId} {x y : Operand} {a b : Bool} (ht : E.P.underlying t = some .bool) (hx : f.eval x = .bool a) (hy : f.eval y = .bool b) (h : a = b) :
    OpY E ⟨d, .binOp .neq t x y t', ty, pos, after, gd⟩ f H (.bool false) := by
  have := eqBn (E := E) (f := f) (H := H) (d := d) (t' := t') (ty := ty) (pos := pos) (after := after) (gd := gd) ht hx hy
  subst h; simpa using this
end OpY
/-- The fields are numbers, each in its own cell. -/
def numFields (P : Program) : List Field → Nat → Bool
  | [], _ => true
  | f :: fs, i => f.name != "_" && f.offset == i && (match P.underlying f.type with | some (.int .i64) => true | _ => false) && numFields P fs (i + 1)
def numStruct (P : Program) (t : TypeId) (k : Nat) : Bool := match P.underlying t with
  | some (.struct fs) => numFields P fs.toList 0 && fs.size == k && !P.stoodInHeld t && !P.eqGuardType P.depth t
  | _ => false
theorem eqFields_num {P : Program} {d : Nat} {xs ys : List Int} (w : World) : ∀ (fs : List Field) (i : Nat), numFields P fs i = true → xs.length = i + fs.length → ys.length = i + fs.length →
    (Op.eqFields (d + 1) (xs.map (Value.int .i64)).toArray (ys.map (Value.int .i64)).toArray fs).run P w = .ok (decide (xs.drop i = ys.drop i)) w
  | [], i, _, hx, hy => by
    simp only [List.length_nil, Nat.add_zero] at hx hy
    rw [Op.eqFields, List.drop_of_length_le (by omega), List.drop_of_length_le (by omega)]
    rfl
  | f :: fs, i, h, hx, hy => by
    simp only [numFields, Bool.and_eq_true] at h
    simp only [List.length_cons] at hx hy
    obtain ⟨⟨⟨hn, ho⟩, hu⟩, hf⟩ := h
    have hn' : f.name ≠ "_" := by simpa using hn
    have ho' : f.offset = i := by simpa using ho
    have hu' : P.underlying f.type = some (.int .i64) := by
      split at hu
      · assumption
      · cases hu
    have ih := eqFields_num (P := P) (d := d) (xs := xs) (ys := ys) w fs (i + 1) hf (by omega) (by omega)
    have px : (part f.type (xs.map (Value.int .i64)).toArray f.offset).run P w = .ok (.int .i64 (xs[i]'(by omega))) w := by
      have : (xs.map (Value.int .i64)).toArray[f.offset]? = some (.int .i64 (xs[i]'(by omega))) := by rw [ho']; simp
      simp [part, isAgg, run_underlying hu', this]
    have py : (part f.type (ys.map (Value.int .i64)).toArray f.offset).run P w = .ok (.int .i64 (ys[i]'(by omega))) w := by
      have : (ys.map (Value.int .i64)).toArray[f.offset]? = some (.int .i64 (ys[i]'(by omega))) := by rw [ho']; simp
      simp [part, isAgg, run_underlying hu', this]
    have dx : xs.drop i = xs[i]'(by omega) :: xs.drop (i + 1) := List.drop_eq_getElem_cons (by omega)
    have dy : ys.drop i = ys[i]'(by omega) :: ys.drop (i + 1) := List.drop_eq_getElem_cons (by omega)
    rw [Op.eqFields, if_pos hn', dx, dy]
    simp only [Sem.run_bind, px, py, Result.andThen_ok, run_equalIn_int w d f.type .i64 .i64 _ _ hu']
    generalize (xs[i]'(by omega)) = a
    generalize (ys[i]'(by omega)) = b
    by_cases hxy : a = b
    · simp [hxy, ih]
    · simp [hxy]
theorem OpY.eqStruct {E : Env} {f : Fr} {H : List Res} {d : Option Tmp} {ty : TypeId} {pos : String} {after : Array Edge} {gd : Option (Nat × Bool)} {t t' : TypeId} {x y : Operand} {xs ys : List Int} {k : Nat} (ht : numStruct E.P t k = true)
    (hx : f.eval x = .agg (xs.map (Value.int .i64)).toArray) (hy : f.eval y = .agg (ys.map (Value.int .i64)).toArray) (hxl : xs.length = k) (hyl : ys.length = k) : OpY E ⟨d, .binOp .eql t x y t', ty, pos, after, gd⟩ f H (.bool (decide (xs = ys))) := by
  intro w _
  unfold numStruct at ht
  split at ht
  · rename_i fs hu
    simp only [Bool.and_eq_true, beq_iff_eq, Bool.not_eq_true'] at ht
    obtain ⟨⟨⟨h1, h2⟩, h3⟩, h6⟩ := ht
    have hfs : E.P.fieldsOf t = fs := by simp [Program.fieldsOf, hu]
    have h := run_equalIn_struct (P := E.P) w 9999 t (xs.map (Value.int .i64)).toArray (ys.map (Value.int .i64)).toArray (by rw [hfs]; exact hu) h3
    have h4 := eqFields_num (P := E.P) (d := 9998) (xs := xs) (ys := ys) w fs.toList 0 h1 (by simp [hxl, h2]) (by simp [hyl, h2])
    rw [hfs, h4] at h
    have h5 : (Op.equal t (.agg (xs.map (Value.int .i64)).toArray) (.agg (ys.map (Value.int .i64)).toArray)).run E.P w = .ok (decide (xs = ys)) w := by
      simpa [Op.equal, Op.maxDepth] using h
    simp only [execOp, hx, hy, eqGuard, binOp]
    simp [h5, h6]
  · cases ht
theorem OpY.neStruct {E : Env} {f : Fr} {H : List Res} {d : Option Tmp} {ty : TypeId} {pos : String} {after : Array Edge} {gd : Option (Nat × Bool)} {t t' : TypeId} {x y : Operand} {xs ys : List Int} {k : Nat} (ht : numStruct E.P t k = true)
    (hx : f.eval x = .agg (xs.map (Value.int .i64)).toArray) (hy : f.eval y = .agg (ys.map (Value.int .i64)).toArray) (hxl : xs.length = k) (hyl : ys.length = k) : OpY E ⟨d, .binOp .neq t x y t', ty, pos, after, gd⟩ f H (.bool (!decide (xs = ys))) := by
  intro w _
  unfold numStruct at ht
  split at ht
  · rename_i fs hu
    simp only [Bool.and_eq_true, beq_iff_eq, Bool.not_eq_true'] at ht
    obtain ⟨⟨⟨h1, h2⟩, h3⟩, h6⟩ := ht
    have hfs : E.P.fieldsOf t = fs := by simp [Program.fieldsOf, hu]
    have h := run_equalIn_struct (P := E.P) w 9999 t (xs.map (Value.int .i64)).toArray (ys.map (Value.int .i64)).toArray (by rw [hfs]; exact hu) h3
    have h4 := eqFields_num (P := E.P) (d := 9998) (xs := xs) (ys := ys) w fs.toList 0 h1 (by simp [hxl, h2]) (by simp [hyl, h2])
    rw [hfs, h4] at h
    have h5 : (Op.equal t (.agg (xs.map (Value.int .i64)).toArray) (.agg (ys.map (Value.int .i64)).toArray)).run E.P w = .ok (decide (xs = ys)) w := by
      simpa [Op.equal, Op.maxDepth] using h
    simp only [execOp, hx, hy, eqGuard, binOp]
    simp [h5, h6]
  · cases ht
/-- A block of the list, as a slice of one element. -/
theorem St.slBlk {M : Nat → Prop} {w0 w : World} {H : List Res} {b : Nat} {t : TypeId} {cs : List Value} (hs : St M w0 w H) (hm : Res.blk b t cs ∈ H) : Sl w (.slice (some ⟨b, 0, none⟩) 1 1) cs.length 1 cs := by
  refine ⟨by omega, some ⟨b, 0, none⟩, 1, rfl, Nat.le_refl _, by simp [maxLen], fun _ => ⟨b, 0, rfl, ?_, ?_⟩⟩
  · have h1 : w.heap[b]? = some (.cells cs.toArray t (0, 0)) := hs.holds (.blk b t cs) hm
    exact (Array.getElem?_eq_some_iff.1 h1).1
  · intro j v hv
    rw [Nat.zero_add, hs.cell_blk hm]; exact hv
theorem OpStep.storeInt {E : Env} {f : Fr} {H : List Res} {d : Option Tmp} {ty : TypeId} {pos : String} {after : Array Edge} {gd : Option (Nat × Bool)} {K : Fr → List Res → Prop} {t : TypeId} {x y : Operand} {b o : Nat} {e : TypeId} {xs : List Value} {a : Int} {H' : List Res} (ht : (E.P.info? t).map (·.size) = some 1) (hx : f.eval x = .pointer (some ⟨b, o, none⟩)) (hy : f.eval y = .int .i64 a)
    (hH : Turn (.blk b e xs) (.blk b e (xs.set o (.int .i64 a))) H H') (hfit : o < xs.length) (hk : K (putF E.n f d undef) H') :
    OpStep E ⟨d, .store t x y, ty, pos, after, gd⟩ f H K :=
  OpStep.store (us := [.int .i64 a]) (cs := xs) ht hx (by rw [hy]; rfl) rfl hH (by simp only [List.length_cons, List.length_nil]; omega) hk
theorem Cells.env {E : Env} {H : List Res} {b o n c size : Nat} {xs ys : List Value} {k : Nat} (h : Sl E.w0 (.slice (some ⟨b, 0, none⟩) n c) size n xs) (hM : E.M = No) (hn : 0 < n) (hp : Pre xs k ys) (ho : k = o := by rfl) : Cells E H b o ys := by
  subst ho
  have h1 := Cells.arg (H := H) h hM hn hp
  rwa [Nat.zero_add] at h1
theorem OpY.makeFunc {E : Env} {f : Fr} {H : List Res} {d : Option Tmp} {ty : TypeId} {pos : String} {after : Array Edge} {gd : Option (Nat × Bool)} {g : FuncId} {captured : Array Operand} {caps : List Value} (hc : captured.toList.map f.eval = caps) :
    OpY E ⟨d, .makeFunc (.func g) #[] captured, ty, pos, after, gd⟩ f H (.func (.func g) #[] caps.toArray) := by
  intro w _
  have h : captured.map f.eval = caps.toArray := by subst hc; apply Array.ext'; simp
  simp [execOp, Instr.makeFunc, h]
/-- `copy` into a slice of the list; what is copied lies in the list, or anywhere else. -/
theorem OpStep.copyOwn {E : Env} {f : Fr} {H : List Res} {d : Option Tmp} {pos : String} {after : Array Edge} {gd : Option (Nat × Bool)} {K : Fr → List Res → Prop} {dT sT ty' : TypeId} {x y : Operand} {g o dn dc cap n sn cnt : Nat} {e : TypeId} {size bytes : Nat} {zs cs ys us : List Value} {u : Value} {H' : List Res}
    (ht : sliceOf E.P dT = some (e, size, bytes, zs)) (hx : f.eval x = .slice (some ⟨g, o, none⟩) dn dc) (hy : f.eval y = u) (hr : ∀ w, St E.M E.w0 w H → Sl w u size sn ys) (hsn : 0 < sn) (hc : Nat.min sn dn = cnt) (hus : ys.take (cnt * size) = us) (hone : us.all (·.oneCell') = true)
    (hH : Turn (.own (.slice (some ⟨g, 0, none⟩) n cap) e size n cs) (.own (.slice (some ⟨g, 0, none⟩) n cap) e size n (spl cs o us)) H H') (hfit : o + cnt * size ≤ n * size) (hk : K (putF E.n f d (.int .i64 cnt)) H') :
    OpStep E ⟨d, .call { callee := .builtin .copy, args := #[x, y], argTypes := #[dT, sT] }, ty', pos, after, gd⟩ f H K := by
  refine OpStep.of_value (v := fun _ => .int .i64 cnt) (w' := fun w => w.setCells g o us) (H' := fun _ => H') (fun w hs => ?_)
  obtain ⟨hu, i, z, hi, hz, hsz, _, _⟩ := sliceOf_spec ht
  obtain ⟨hyl, A, c, rfl, h1, h2, h3⟩ := hr w hs
  obtain ⟨b2, o2, rfl, _, hrg⟩ := h3 hsn
  obtain ⟨H1, H2, rfl, rfl⟩ := hH.split
  have hs' := hs.perm List.perm_middle
  have hown : w.ownsRow 0 e size (.slice (some ⟨g, 0, none⟩) n cap) n cs := hs'.holds (.own (.slice (some ⟨g, 0, none⟩) n cap) e size n cs) (by simp)
  have hul : us.length = cnt * size := by
    rw [← hus, List.length_take, hyl]
    have : cnt * size ≤ sn * size := Nat.mul_le_mul_right _ (by rw [← hc]; exact Nat.min_le_left _ _)
    omega
  have hl := run_loadCells_list (P := E.P) w ⟨b2, o2, none⟩ us (fun j v hv => by
    rw [Addr.add_mid]
    refine hrg j v ?_
    rw [← hus, List.getElem?_take] at hv
    split at hv
    · exact hv
    · cases hv)
  rw [hul] at hl
  have hcl := hown.1
  have hst := run_storeCells_cells (P := E.P) g o us 0 w (fun j hj => by
      have h2 := hown.cells (g := g) rfl (o + j) (cs[o + j]'(by omega)) (List.getElem?_eq_getElem (by omega))
      rw [Addr.add_mid, Nat.zero_add] at h2
      rw [Nat.add_zero, h2]; rfl) (fun j hj => by rw [Nat.add_zero]; exact hown.frozenAt (o + j)) (fun v hv => (List.all_eq_true.1 hone) v hv)
  simp only [Nat.add_zero] at hst
  refine ⟨?_, (St.setCellsOwn us o w cs hs').perm List.perm_middle.symm, hk⟩
  have hcp : (Builtin.copy_ #[dT, sT] ty' #[.slice (some ⟨g, o, none⟩) dn dc, .slice (some ⟨b2, o2, none⟩) sn c]).run E.P w = .ok (goInt cnt) (w.setCells g o us) := by
    simp [Builtin.copy_, run_underlying hu, Builtin.lenOf, Builtin.firstCells, sizeOf, typeInfo, hi, hsz, hc, hl, hst]
  simp [execOp, resolve, invoke, builtin, hx, hy, hcp, goInt]
theorem OpY.sliceLN {E : Env} {f : Fr} {H : List Res} {d : Option Tmp} {ty : TypeId} {pos : String} {after : Array Edge} {gd : Option (Nat × Bool)} {t : TypeId} {x y : Operand} {b o n c l : Nat} {k : IntKind} {i : Int} {e : TypeId} {size : Nat} {z : Nat × List Value} (ht : sliceOf E.P t = some (e, size, z)) (hx : f.eval x = .slice (some ⟨b, o, none⟩) n c) (hy : f.eval y = .int k i) (hi : i = (l : Int)) (h1 : l ≤ n) (h2 : l < c) :
    OpY E ⟨d, .slice t x (some y) none none, ty, pos, after, gd⟩ f H (.slice (some ⟨b, o + l * size, none⟩) (n - l) (c - l)) := by
  subst hi
  have := OpY.sliceL (E := E) (f := f) (H := H) (d := d) (ty := ty) (pos := pos) (after := after) (gd := gd) ht hx hy (by omega) (by omega)
  have e : sliced (some ⟨b, o, none⟩) ((l : Int).toNat) n c size = .slice (some ⟨b, o + l * size, none⟩) (n - l) (c - l) := by
    unfold sliced
    rw [if_neg (by simp; omega)]
    simp [Addr.add_mid]
  rw [e] at this; exact this
/-- The form of a slice of the list, in a region that draws its order. -/
theorem DW.formOwn {E : Env} {ops : Array Oper} {base : List Res} {k : List It} {fuel : Nat} {listed : Array Bool} {f : Fr} {H : List Res} {v : Value} {e : TypeId} {size n : Nat} {xs : List Value} (hm : Res.own v e size n xs ∈ H)
    (h : ∀ A c, v = .slice A n c → n ≤ c → c ≤ maxLen → DW E ops base k fuel listed f H) : DW E ops base k fuel listed f H := by
  intro a w ha hs
  obtain ⟨A, c, h1, h2, h3⟩ := (hs.slOwn hm).form0
  exact h A c h1 h2 h3 a w ha hs
theorem DW.openOwn {E : Env} {ops : Array Oper} {base : List Res} {k : List It} {fuel : Nat} {listed : Array Bool} {f : Fr} {H : List Res} {v : Value} {e : TypeId} {size n : Nat} {xs : List Value} (hm : Res.own v e size n xs ∈ H) (hn : 0 < n)
    (h : ∀ g c, v = .slice (some ⟨g, 0, none⟩) n c → n ≤ c → c ≤ maxLen → DW E ops base k fuel listed f H) : DW E ops base k fuel listed f H := by
  intro a w ha hs
  have h1 : w.ownsRow 0 e size v n xs := hs.holds (.own v e size n xs) hm
  rcases h1.2 with ⟨_, h0⟩ | ⟨g, cap, cur, rfl, _, hg, h3, h4, _⟩
  · omega
  · exact h g cap rfl h3 h4 a w ha hs
theorem DL.formOwn {E : Env} {ops : Array Oper} {Z : List Nat} {base : List Res} {k : List It} {fuel : Nat} {listed : Array Bool} {f : Fr} {H : List Res} {v : Value} {e : TypeId} {size n : Nat} {xs : List Value} (hm : Res.own v e size n xs ∈ H)
    (h : ∀ A c, v = .slice A n c → n ≤ c → c ≤ maxLen → DL E ops Z base k fuel listed f H) : DL E ops Z base k fuel listed f H := by
  intro a w ha hs
  obtain ⟨A, c, h1, h2, h3⟩ := (hs.slOwn hm).form0
  exact h A c h1 h2 h3 a w ha hs
theorem DL.openOwn {E : Env} {ops : Array Oper} {Z : List Nat} {base : List Res} {k : List It} {fuel : Nat} {listed : Array Bool} {f : Fr} {H : List Res} {v : Value} {e : TypeId} {size n : Nat} {xs : List Value} (hm : Res.own v e size n xs ∈ H) (hn : 0 < n)
    (h : ∀ g c, v = .slice (some ⟨g, 0, none⟩) n c → n ≤ c → c ≤ maxLen → DL E ops Z base k fuel listed f H) : DL E ops Z base k fuel listed f H := by
  intro a w ha hs
  have h1 : w.ownsRow 0 e size v n xs := hs.holds (.own v e size n xs) hm
  rcases h1.2 with ⟨_, h0⟩ | ⟨g, cap, cur, rfl, _, hg, h3, h4, _⟩
  · omega
  · exact h g cap rfl h3 h4 a w ha hs
theorem spl_eq : ∀ (us cs : List Value) (o : Nat), o + us.length ≤ cs.length → spl cs o us = cs.take o ++ us ++ cs.drop (o + us.length)
  | [], cs, o, _ => by simp [spl]
  | u :: us, cs, o, h => by
    simp only [List.length_cons] at h
    rw [spl, spl_eq us (cs.set o u) (o + 1) (by simp; omega), List.take_set, List.set_eq_take_append_cons_drop, List.drop_set_of_lt (by omega)]
    simp only [List.length_take]
    rw [if_pos (by omega), List.take_take, List.drop_take, show o + 1 - (o + 1) = 0 by omega, show min o (o + 1) = o by omega, List.length_cons, show o + 1 + us.length = o + (us.length + 1) by omega]
    simp
/-- A nil slice. -/
def isNilSl : Value → Bool
  | .slice none _ _ => true
  | _ => false
theorem OpY.eqlNilOwn {E : Env} {f : Fr} {H : List Res} {d : Option Tmp} {ty : TypeId} {pos : String} {after : Array Edge} {gd : Option (Nat × Bool)} {t t' : TypeId} {x y : Operand} {v : Value} {e e' : TypeId} {size n : Nat} {z : Nat × Nat × List Value} {xs : List Value} (ht : sliceOf E.P t = some (e', z)) (hx : f.eval x = v) (hy : f.eval y = .slice none 0 0) (hm : Res.own v e size n xs ∈ H) :
    OpY E ⟨d, .binOp .eql t x y t', ty, pos, after, gd⟩ f H (.bool (isNilSl v)) := by
  intro w hs
  obtain ⟨hu, _⟩ := sliceOf_spec ht
  obtain ⟨A, c, rfl, _, _⟩ := (hs.slOwn hm).form0
  cases A with
  | none =>
    have h0 : ∀ d : Nat, (Op.equalIn (d + 1) t (.slice none n c) (.slice none 0 0)).run E.P w = .ok true w := fun d => by simp [Op.equalIn, run_underlying hu]
    have h : (Op.equal t (.slice none n c) (.slice none 0 0)).run E.P w = .ok true w := by simp [Op.equal, Op.maxDepth, h0 9999]
    simp [execOp, hx, hy, eqGuard, binOp, h, isNilSl]
  | some a =>
    have h0 : ∀ d : Nat, (Op.equalIn (d + 1) t (.slice (some a) n c) (.slice none 0 0)).run E.P w = .ok false w := fun d => by simp [Op.equalIn, run_underlying hu]
    have h : (Op.equal t (.slice (some a) n c) (.slice none 0 0)).run E.P w = .ok false w := by simp [Op.equal, Op.maxDepth, h0 9999]
    simp [execOp, hx, hy, eqGuard, binOp, h, isNilSl]
theorem OpY.neqNilOwn {E : Env} {f : Fr} {H : List Res} {d : Option Tmp} {ty : TypeId} {pos : String} {after : Array Edge} {gd : Option (Nat × Bool)} {t t' : TypeId} {x y : Operand} {v : Value} {e e' : TypeId} {size n : Nat} {z : Nat × Nat × List Value} {xs : List Value} (ht : sliceOf E.P t = some (e', z)) (hx : f.eval x = v) (hy : f.eval y = .slice none 0 0) (hm : Res.own v e size n xs ∈ H) :
    OpY E ⟨d, .binOp .neq t x y t', ty, pos, after, gd⟩ f H (.bool (!isNilSl v)) := by
  intro w hs
  obtain ⟨hu, _⟩ := sliceOf_spec ht
  obtain ⟨A, c, rfl, _, _⟩ := (hs.slOwn hm).form0
  cases A with
  | none =>
    have h0 : ∀ d : Nat, (Op.equalIn (d + 1) t (.slice none n c) (.slice none 0 0)).run E.P w = .ok true w := fun d => by simp [Op.equalIn, run_underlying hu]
    have h : (Op.equal t (.slice none n c) (.slice none 0 0)).run E.P w = .ok true w := by simp [Op.equal, Op.maxDepth, h0 9999]
    simp [execOp, hx, hy, eqGuard, binOp, h, isNilSl]
  | some a =>
    have h0 : ∀ d : Nat, (Op.equalIn (d + 1) t (.slice (some a) n c) (.slice none 0 0)).run E.P w = .ok false w := fun d => by simp [Op.equalIn, run_underlying hu]
    have h : (Op.equal t (.slice (some a) n c) (.slice none 0 0)).run E.P w = .ok false w := by simp [Op.equal, Op.maxDepth, h0 9999]
    simp [execOp, hx, hy, eqGuard, binOp, h, isNilSl]
namespace OpY
variable {E : Env} {f : Fr} {H : List Res} {d : Option Tmp} {ty : TypeId} {pos : String} {after : Array Edge} {gd : Option (Nat × Bool)}
theorem and {t t' : TypeId} {x y : Operand} {a b : Int} {k : IntKind} (hx : f.eval x = .int k a) (hy : f.eval y = .int k b) : OpY E ⟨d, .binOp .and t x y t', ty, pos, after, gd⟩ f H (.int k (bits .and k a b)) := by
  intro w _
  simp [execOp, hx, hy, eqGuard, binOp, intBits_and]
theorem or {t t' : TypeId} {x y : Operand} {a b : Int} {k : IntKind} (hx : f.eval x = .int k a) (hy : f.eval y = .int k b) : OpY E ⟨d, .binOp .or t x y t', ty, pos, after, gd⟩ f H (.int k (bits .or k a b)) := by
  intro w _
  simp [execOp, hx, hy, eqGuard, binOp, intBits_or]
theorem xor {t t' : TypeId} {x y : Operand} {a b : Int} {k : IntKind} (hx : f.eval x = .int k a) (hy : f.eval y = .int k b) : OpY E ⟨d, .binOp .xor t x y t', ty, pos, after, gd⟩ f H (.int k (bits .xor k a b)) := by
  intro w _
  simp [execOp, hx, hy, eqGuard, binOp, intBits_xor]
theorem andNot {t t' : TypeId} {x y : Operand} {a b : Int} {k : IntKind} (hx : f.eval x = .int k a) (hy : f.eval y = .int k b) : OpY E ⟨d, .binOp .andNot t x y t', ty, pos, after, gd⟩ f H (.int k (bits .andNot k a b)) := by
  intro w _
  simp [execOp, hx, hy, eqGuard, binOp, intBits_andNot]
theorem shl {t t' : TypeId} {x y : Operand} {a b c : Int} {n : Nat} {k : IntKind} (hx : f.eval x = .int .i64 a) (hy : f.eval y = .int k b) (hn : b = (n : Int)) (h1 : n ≤ 64) (hc : a * 2 ^ n = c) (h0 : -9223372036854775808 ≤ c) (h2 : c ≤ 9223372036854775807) :
    OpY E ⟨d, .binOp .shl t x y t', ty, pos, after, gd⟩ f H (.int .i64 c) := by
  subst hn
  intro w _
  have h3 : IntKind.i64.wrap (a * 2 ^ n) = c := by rw [hc, IntKind.wrap_i64]; omega
  simp only [execOp, hx, hy, eqGuard, binOp]
  rw [shift_shl .i64 k a n (by omega) (by simp only [IntKind.bits]; omega)]
  simp [h3]
theorem cap {t : TypeId} {x : Operand} {A : Option Addr} {n c : Nat} {e : TypeId} {z : Nat × Nat × List Value} (ht : sliceOf E.P t = some (e, z)) (hx : f.eval x = .slice A n c) :
    OpY E ⟨d, .call { callee := .builtin .cap, args := #[x], argTypes := #[t] }, ty, pos, after, gd⟩ f H (.int .i64 c) := by
  intro w _
  obtain ⟨hu, _⟩ := sliceOf_spec ht
  simp [execOp, resolve, invoke, builtin, hx, Builtin.cap_, run_underlying hu, goInt]
end OpY
theorem OpY.eqNilSome {E : Env} {f : Fr} {H : List Res} {d : Option Tmp} {ty : TypeId} {pos : String} {after : Array Edge} {gd : Option (Nat × Bool)} {t t' : TypeId} {x y : Operand} {a : Addr} {n c : Nat} {e : TypeId} {z : Nat × Nat × List Value} (ht : sliceOf E.P t = some (e, z)) (hx : f.eval x = .slice (some a) n c) (hy : f.eval y = .slice none 0 0) :
    OpY E ⟨d, .binOp .eql t x y t', ty, pos, after, gd⟩ f H (.bool false) := by
  intro w hs
  obtain ⟨hu, _⟩ := sliceOf_spec ht
  have h0 : ∀ d : Nat, (Op.equalIn (d + 1) t (.slice (some a) n c) (.slice none 0 0)).run E.P w = .ok false w := fun d => by simp [Op.equalIn, run_underlying hu]
  have h : (Op.equal t (.slice (some a) n c) (.slice none 0 0)).run E.P w = .ok false w := by simp [Op.equal, Op.maxDepth, h0 9999]
  simp [execOp, hx, hy, eqGuard, binOp, h]
theorem OpY.eqNilNil {E : Env} {f : Fr} {H : List Res} {d : Option Tmp} {ty : TypeId} {pos : String} {after : Array Edge} {gd : Option (Nat × Bool)} {t t' : TypeId} {x y : Operand} {n c : Nat} {e : TypeId} {z : Nat × Nat × List Value} (ht : sliceOf E.P t = some (e, z)) (hx : f.eval x = .slice none n c) (hy : f.eval y = .slice none 0 0) :
    OpY E ⟨d, .binOp .eql t x y t', ty, pos, after, gd⟩ f H (.bool true) := by
  intro w hs
  obtain ⟨hu, _⟩ := sliceOf_spec ht
  have h0 : ∀ d : Nat, (Op.equalIn (d + 1) t (.slice none n c) (.slice none 0 0)).run E.P w = .ok true w := fun d => by simp [Op.equalIn, run_underlying hu]
  have h : (Op.equal t (.slice none n c) (.slice none 0 0)).run E.P w = .ok true w := by simp [Op.equal, Op.maxDepth, h0 9999]
  simp [execOp, hx, hy, eqGuard, binOp, h]
namespace OpY
variable {E : Env} {f : Fr} {H : List Res} {d : Option Tmp} {ty : TypeId} {pos : String} {after : Array Edge} {gd : Option (Nat × Bool)}
theorem shrU {t t' : TypeId} {x y : Operand} {a b : Int} {n : Nat} {k : IntKind} (hx : f.eval x = .int .u64 a) (hy : f.eval y = .int k b) (hn : b = (n : Int)) (h1 : n ≤ 64) :
    OpY E ⟨d, .binOp .shr t x y t', ty, pos, after, gd⟩ f H (.int .u64 (a >>> n)) := by
  subst hn
  intro w _
  have h3 : a / 2 ^ n = a >>> n := by rw [Int.shiftRight_eq_div_pow]; norm_cast
  simp only [execOp, hx, hy, eqGuard, binOp]
  rw [shift_shr .u64 k a n (by omega) (by simp only [IntKind.bits]; omega)]
  simp [h3]
theorem addU {t t' : TypeId} {x y : Operand} {a b : Int} (hx : f.eval x = .int .u64 a) (hy : f.eval y = .int .u64 b) :
    OpY E ⟨d, .binOp .add t x y t', ty, pos, after, gd⟩ f H (.int .u64 (IntKind.u64.wrap (a + b))) := by
  intro w _
  simp [execOp, hx, hy, eqGuard, binOp, Op.intArith]
end OpY
theorem OpY.run {E : Env} {o : Oper} {f : Fr} {H : List Res} {v : Value} (h : ∀ w, (execOp f.eval o).run E.P w = .ok (.value v) w) : OpY E o f H v := fun w _ => h w
theorem St.startOf {H : List Res} {M : Nat → Prop} {w0 w : World} (h : St M w0 w H) : St (Of H) w w H := h.self
/-! Groups of slices. -/
theorem Weak.grpNil {H : List Res} (e : TypeId) (size : Nat) : Weak H (.grp e size [] :: H) := by
  intro M w0 w h
  refine ⟨h.os, h.tape, h.output, h.size, h.keep, ?_, ?_, List.pairwise_cons.2 ⟨?_, h.disj⟩⟩
  · intro r hr
    rcases List.mem_cons.1 hr with rfl | hr
    · exact ⟨(fun p hp => nomatch hp), List.Pairwise.nil⟩
    · exact h.holds r hr
  · intro r hr k hk hl
    rcases List.mem_cons.1 hr with rfl | hr
    · obtain ⟨p, hp, _⟩ := hk; nomatch hp
    · exact h.fresh r hr k hk hl
  · rintro r _ k ⟨p, hp, _⟩; nomatch hp
theorem Weak.grpIn {H : List Res} {e : TypeId} {size : Nat} {v : Value} {n : Nat} {xs : List Value} {l : List (Value × Nat × List Value)} : Weak (.own v e size n xs :: .grp e size l :: H) (.grp e size ((v, n, xs) :: l) :: H) := by
  intro M w0 w h
  have hd := List.pairwise_cons.1 h.disj
  have hd2 := List.pairwise_cons.1 hd.2
  have h1 := h.holds (.own v e size n xs) (.head _)
  have h2 := h.holds (.grp e size l) (.tail _ (.head _))
  refine ⟨h.os, h.tape, h.output, h.size, h.keep, ?_, ?_, List.pairwise_cons.2 ⟨?_, hd2.2⟩⟩
  · intro r hr
    rcases List.mem_cons.1 hr with rfl | hr
    · refine ⟨fun p hp => ?_, List.pairwise_cons.2 ⟨fun q hq k hk hk2 => ?_, h2.2⟩⟩
      · rcases List.mem_cons.1 hp with rfl | hp
        · exact h1
        · exact h2.1 p hp
      · exact hd.1 (.grp e size l) (.head _) k hk ⟨q, hq, hk2⟩
    · exact h.holds r (.tail _ (.tail _ hr))
  · intro r hr k hk hl
    rcases List.mem_cons.1 hr with rfl | hr
    · obtain ⟨p, hp, hpk⟩ := hk
      rcases List.mem_cons.1 hp with rfl | hp
      · exact h.fresh (.own v e size n xs) (.head _) k hpk hl
      · exact h.fresh (.grp e size l) (.tail _ (.head _)) k ⟨p, hp, hpk⟩ hl
    · exact h.fresh r (.tail _ (.tail _ hr)) k hk hl
  · rintro r hr k ⟨p, hp, hpk⟩ hrk
    rcases List.mem_cons.1 hp with rfl | hp
    · exact hd.1 r (.tail _ hr) k hpk hrk
    · exact hd2.1 r hr k ⟨p, hp, hpk⟩ hrk
theorem Weak.grpOut {H : List Res} {e : TypeId} {size : Nat} {v : Value} {n : Nat} {xs : List Value} {l : List (Value × Nat × List Value)} : Weak (.grp e size ((v, n, xs) :: l) :: H) (.own v e size n xs :: .grp e size l :: H) := by
  intro M w0 w h
  have hd := List.pairwise_cons.1 h.disj
  have h1 := h.holds (.grp e size ((v, n, xs) :: l)) (.head _)
  have hp := List.pairwise_cons.1 h1.2
  refine ⟨h.os, h.tape, h.output, h.size, h.keep, ?_, ?_, List.pairwise_cons.2 ⟨?_, List.pairwise_cons.2 ⟨?_, hd.2⟩⟩⟩
  · intro r hr
    rcases List.mem_cons.1 hr with rfl | hr
    · exact h1.1 (v, n, xs) (.head _)
    · rcases List.mem_cons.1 hr with rfl | hr
      · exact ⟨fun p hp => h1.1 p (.tail _ hp), hp.2⟩
      · exact h.holds r (.tail _ hr)
  · intro r hr k hk hl
    rcases List.mem_cons.1 hr with rfl | hr
    · exact h.fresh _ (.head _) k ⟨(v, n, xs), .head _, hk⟩ hl
    · rcases List.mem_cons.1 hr with rfl | hr
      · obtain ⟨p, hp, hpk⟩ := hk
        exact h.fresh _ (.head _) k ⟨p, .tail _ hp, hpk⟩ hl
      · exact h.fresh r (.tail _ hr) k hk hl
  · intro r hr k hk hrk
    rcases List.mem_cons.1 hr with rfl | hr
    · obtain ⟨q, hq, hqk⟩ := hrk
      exact hp.1 q hq k hk hqk
    · exact hd.1 r hr k ⟨(v, n, xs), .head _, hk⟩ hrk
  · rintro r hr k ⟨q, hq, hqk⟩ hrk
    exact hd.1 r hr k ⟨q, .tail _ hq, hqk⟩ hrk
theorem Weak.grpPerm {H : List Res} {e : TypeId} {size : Nat} {l l' : List (Value × Nat × List Value)} (hl : l.Perm l') : Weak (.grp e size l :: H) (.grp e size l' :: H) := by
  intro M w0 w h
  have hd := List.pairwise_cons.1 h.disj
  have h1 := h.holds (.grp e size l) (.head _)
  refine ⟨h.os, h.tape, h.output, h.size, h.keep, ?_, ?_, List.pairwise_cons.2 ⟨?_, hd.2⟩⟩
  · intro r hr
    rcases List.mem_cons.1 hr with rfl | hr
    · exact ⟨fun p hp => h1.1 p (hl.mem_iff.2 hp), hl.pairwise h1.2 fun hxy k hk hk' => hxy k hk' hk⟩
    · exact h.holds r (.tail _ hr)
  · intro r hr k hk hl2
    rcases List.mem_cons.1 hr with rfl | hr
    · obtain ⟨p, hp, hpk⟩ := hk
      exact h.fresh _ (.head _) k ⟨p, hl.mem_iff.2 hp, hpk⟩ hl2
    · exact h.fresh r (.tail _ hr) k hk hl2
  · rintro r hr k ⟨q, hq, hqk⟩ hrk
    exact hd.1 r hr k ⟨q, hl.mem_iff.2 hq, hqk⟩ hrk
/-- The front of a slice that the list owns. -/
theorem Weak.ownTake {H : List Res} {A : Option Addr} {c m n : Nat} {e : TypeId} {size : Nat} {xs : List Value} (hm : m ≤ n) : Weak (.own (.slice A n c) e size n xs :: H) (.own (.slice A m c) e size m (xs.take (m * size)) :: H) := by
  intro M w0 w h
  have h1 : w.ownsRow 0 e size (.slice A n c) n xs := h.holds (.own (.slice A n c) e size n xs) (by simp)
  refine St.turn h rfl rfl rfl (Nat.le_refl _) (fun _ _ _ => rfl) ?_ (fun k hk => .inl ?_)
  · have hle : m * size ≤ n * size := Nat.mul_le_mul_right _ hm
    refine ⟨by rw [List.length_take, h1.1]; omega, ?_⟩
    rcases h1.2 with ⟨hv, hn⟩ | ⟨g, cap, cur, hv, h0, hg, h3, h4, h5, h6⟩
    · injection hv with e1 e2 e3
      subst e1; subst e3
      have : m = 0 := by omega
      subst this; exact .inl ⟨rfl, rfl⟩
    · injection hv with e1 e2 e3
      subst e1; subst e3
      exact .inr ⟨g, c, cur, rfl, h0, hg, by omega, h4, h5, by rw [← h6, List.take_take]; congr 1; omega⟩
  · cases A with
    | none => simp [Res.has, Value.ownBlock] at hk
    | some a => simpa [Res.has, Value.ownBlock] using hk
section
variable {E : Env} {f : Fr} {H : List Res} {d : Option Tmp} {ty : TypeId} {pos : String} {after : Array Edge} {gd : Option (Nat × Bool)}
theorem OpY.nilCheck {x : Operand} {a : Addr} (hx : f.eval x = .pointer (some a)) : OpY E ⟨d, .nilCheck x, ty, pos, after, gd⟩ f H (.pointer (some a)) := by
  intro w _
  simp [execOp, hx]
theorem OpY.mulU {t t' : TypeId} {x y : Operand} {a b : Int} (hx : f.eval x = .int .u64 a) (hy : f.eval y = .int .u64 b) :
    OpY E ⟨d, .binOp .mul t x y t', ty, pos, after, gd⟩ f H (.int .u64 (IntKind.u64.wrap (a * b))) := by
  intro w _
  simp [execOp, hx, hy, eqGuard, binOp, Op.intArith]
end
theorem OpY.quo {E : Env} {f : Fr} {H : List Res} {d : Option Tmp} {ty : TypeId} {pos : String} {after : Array Edge} {gd : Option (Nat × Bool)} {t t' : TypeId} {x y : Operand} {a b : Int} (hx : f.eval x = .int .i64 a) (hy : f.eval y = .int .i64 b) (h0 : 0 ≤ a) (h2 : a ≤ 9223372036854775807) (h1 : 0 < b) :
    OpY E ⟨d, .binOp .quo t x y t', ty, pos, after, gd⟩ f H (.int .i64 (a / b)) := by
  intro w _
  have e : a.tdiv b = a / b := Int.tdiv_eq_ediv_of_nonneg h0
  have e2 : IntKind.i64.wrap (a / b) = a / b := by
    have h3 : 0 ≤ a / b := Int.ediv_nonneg h0 (by omega)
    have h4 : a / b ≤ a := Int.ediv_le_self b h0
    rw [IntKind.wrap_i64]; omega
  have hb : ¬ b = 0 := by omega
  simp [execOp, hx, hy, eqGuard, binOp, Op.intDiv, hb, e, e2]
/-- What was there and may not turn can still be read. -/
theorem St.slOff {M : Nat → Prop} {w0 w : World} {H : List Res} {v : Value} {size n : Nat} {xs : List Value} (hs : St M w0 w H) (h : Sl w0 v size n xs) (hoff : 0 < n → ∀ k, v.ownBlock = some k → ¬ M k) : Sl w v size n xs := by
  obtain ⟨h1, A, c, rfl, h2, h3, h4⟩ := h
  refine ⟨h1, A, c, rfl, h2, h3, fun h0 => ?_⟩
  obtain ⟨b, o, rfl, hb, hr⟩ := h4 h0
  have hk := hs.keep b hb (hoff h0 b rfl)
  refine ⟨b, o, rfl, Nat.lt_of_lt_of_le hb hs.size, fun j u hu => ?_⟩
  have := hr j u hu
  unfold World.cell? at this ⊢
  rw [hk]; exact this
/-! ### The same rules, shorter to write -/
section
variable {E : Env} {k : List It} {f : Fr} {H : List Res} {ops : Array Oper} {rest : List Oper} {d : Option Tmp} {ty : TypeId} {pos : String} {after : Array Edge} {gd : Option (Nat × Bool)} {fo : Operand} {args : Array Operand} {ats : Array TypeId} {g : FuncId}
theorem Run.c (v : Value) (vs : List Value) (hg : callable E.P g = true) (hc : ∀ w, St E.M E.w0 w H → Calls E.P g vs.toArray w (Post No w fun u _ => u = v))
    (hk : Run E (.ops ops rest :: k) (putF E.n f d v) H) (hw : wantedF ops f ⟨d, .call { callee := .value fo, args := args, argTypes := ats }, ty, pos, after, gd⟩ = true := by exact rfl) (hf : f.eval fo = .func (.func g) #[] #[] := by exact rfl) (hv : args.toList.map f.eval = vs := by exact rfl) :
    Run E (.ops ops (⟨d, .call { callee := .value fo, args := args, argTypes := ats }, ty, pos, after, gd⟩ :: rest) :: k) f H :=
  Run.q (v := v) hw (OpQ.call (caps := []) (vs := vs) hg hf (by rw [List.append_nil]; exact hv) hc) hk
theorem OpStep.c {K : Fr → List Res → Prop} {post : Value → List Res → Prop} (vs : List Value) (hg : callable E.P g = true) (hc : ∀ w, St E.M E.w0 w H → Calls E.P g vs.toArray w (Post No w post)) (hk : ∀ v H', post v H' → K (putF E.n f d v) (H' ++ H))
    (hf : f.eval fo = .func (.func g) #[] #[] := by exact rfl) (hv : args.toList.map f.eval = vs := by exact rfl) :
    OpStep E ⟨d, .call { callee := .value fo, args := args, argTypes := ats }, ty, pos, after, gd⟩ f H K :=
  OpStep.call (caps := []) (vs := vs) hg hf (by rw [List.append_nil]; exact hv) hc hk
end
theorem OpY.ix {E : Env} {f : Fr} {H : List Res} {d : Option Tmp} {ty : TypeId} {pos : String} {after : Array Edge} {gd : Option (Nat × Bool)} {t : TypeId} {x y : Operand} {b o n c off : Nat} {k : IntKind} {i : Int} {e : TypeId} {size : Nat} {z : Nat × List Value} (kk : Nat) (ht : sliceOf E.P t = some (e, size, z)) (hx : f.eval x = .slice (some ⟨b, o, none⟩) n c := by exact rfl) (hy : f.eval y = .int k i := by exact rfl)
    (hi : i = (kk : Int) := by omega) (hlt : kk < n := by omega) (ho : o + kk * size = off := by first | rfl | omega) : OpY E ⟨d, .indexAddr t x y, ty, pos, after, gd⟩ f H (.pointer (some ⟨b, off, none⟩)) := OpY.index ht hx hy hi hlt ho
theorem Cells.b {E : Env} {H : List Res} {b : Nat} {t : TypeId} {cs : List Value} {x : Value} {o : Nat} (hm : Res.blk b t cs ∈ H) (h : cs[o]? = some x := by exact rfl) : Cells E H b o [x] := Cells.blk hm ⟨h, trivial⟩
section
variable {E : Env} {k : List It} {f : Fr} {H : List Res} {ops : Array Oper} {rest : List Oper} {d : Option Tmp} {ty : TypeId} {pos : String} {after : Array Edge} {gd : Option (Nat × Bool)}
theorem Run.fa {s : TypeId} {x : Operand} {i kk b o : Nat} (hs : fieldOff E.P s i = some kk) (hk : Run E (.ops ops rest :: k) (putF E.n f d (.pointer (some ⟨b, o + kk, none⟩))) H) (hw : wantedF ops f ⟨d, .fieldAddr s x i, ty, pos, after, gd⟩ = true := by exact rfl) (hx : f.eval x = .pointer (some ⟨b, o, none⟩) := by exact rfl) :
    Run E (.ops ops (⟨d, .fieldAddr s x i, ty, pos, after, gd⟩ :: rest) :: k) f H :=
  Run.y _ hw (OpY.fieldAddr hs hx rfl) hk
theorem Run.mb {x : Operand} {b c : Bool} (hb : b = c) (hk : Run E (.ops ops rest :: k) (putF E.n f d (.bool c)) H) (hw : wantedF ops f ⟨d, .move x, ty, pos, after, gd⟩ = true := by exact rfl) (hx : f.eval x = .bool b := by exact rfl) :
    Run E (.ops ops (⟨d, .move x, ty, pos, after, gd⟩ :: rest) :: k) f H :=
  Run.y _ hw (OpY.moveB hx hb) hk
end
end Go.Proofs.Ytnnkoeknejeieaa
