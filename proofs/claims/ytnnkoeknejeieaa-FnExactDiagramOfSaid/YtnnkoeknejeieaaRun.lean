/- A walk over a frame that is a function and a list of blocks: one rule for each form of code and of operation. -/
import Derived.Test.YtnnkoeknejeieaaHeap
import Derived.Deep.MidRow
import Derived.OrdersHeld
namespace Go.Proofs.Ytnnkoeknejeieaa
open Go Go.RowKit

abbrev Fr := Nat → Value
def Fr.eval (f : Fr) : Operand → Value
  | .tmp t => f t
  | .const v => v
  | .global g => .pointer (some ⟨g, 0, none⟩)
  | .func g => .func (.func g) #[] #[]

structure Agree (n : Nat) (a : Act) (f : Fr) : Prop where
  defers : a.defers = []
  size : a.tmps.size = n
  at_ : ∀ t, a.tmps.getD t undef = f t

theorem Agree.eval {n : Nat} {a : Act} {f : Fr} (h : Agree n a f) : a.eval = f.eval := by
  funext x
  cases x <;> simp only [Act.eval, Fr.eval, h.at_]

theorem nbeq_ne {t d : Nat} (h : t ≠ d) : Nat.beq t d = false := by
  cases hb : Nat.beq t d with
  | false => rfl
  | true => exact absurd (Nat.eq_of_beq_eq_true hb) h
theorem nbeq_self (t : Nat) : Nat.beq t t = true := Nat.beq_refl t
theorem nblt_ge {d n : Nat} (h : ¬ d < n) : Nat.blt d n = false := by
  cases hb : Nat.blt d n with
  | false => rfl
  | true => exact absurd (Nat.le_of_ble_eq_true hb) h
theorem nblt_lt {d n : Nat} (h : d < n) : Nat.blt d n = true := Nat.ble_eq_true_of_le h
def upd (n : Nat) (f : Fr) (d : Nat) (v : Value) : Fr := fun t => if Nat.beq t d && Nat.blt d n then v else f t
def putF (n : Nat) (f : Fr) : Option Nat → Value → Fr
  | some d, v => upd n f d v
  | none, _ => f

theorem Agree.put {n : Nat} {a : Act} {f : Fr} (h : Agree n a f) (d : Option Tmp) (v : Value) : Agree n (a.put d v) (putF n f d v) := by
  cases d with
  | none => exact h
  | some d =>
    refine ⟨h.defers, by simp [Act.put, h.size], fun t => ?_⟩
    have h1 := h.at_ t
    simp only [Act.put, putF, upd, Array.getD_eq_getD_getElem?, Array.getElem?_setIfInBounds, h.size] at h1 ⊢
    by_cases hd : d = t
    · subst hd
      by_cases hn : d < n
      · simp [hn, nblt_lt hn]
      · have hb : Nat.blt d n = false := nblt_ge hn
        have e : a.tmps[d]? = none := Array.getElem?_eq_none (by rw [h.size]; exact Nat.not_lt.1 hn)
        simp only [e] at h1
        simp [hn, hb, ← h1]
    · have : Nat.beq t d = false := nbeq_ne fun e => hd (Eq.symm e)
      simp [hd, this, h1]

/-- The setting of a walk: the program, the frame's size, what may turn, the world at the start, what is asked at the end. -/
structure Env where
  P : Program
  n : Nat
  M : Nat → Prop
  w0 : World
  Q : Exit → Fr → List Res → Prop

def Env.lift (E : Env) (Q : Exit → Fr → List Res → Prop) : Exit → Act → World → Prop := fun e a w => ∃ f H, Agree E.n a f ∧ St E.M E.w0 w H ∧ Q e f H
def Env.trl (E : Env) (ops : Array Oper) (l : List Oper) (Q : Exit → Fr → List Res → Prop) (f : Fr) (H : List Res) : Prop :=
  ∀ a w, Agree E.n a f → St E.M E.w0 w H → wpList E.P ops (E.lift Q) l a w
def Env.trc (E : Env) (c : Code) (Q : Exit → Fr → List Res → Prop) (f : Fr) (H : List Res) : Prop :=
  ∀ a w, Agree E.n a f → St E.M E.w0 w H → c.wp E.P (E.lift Q) a w

inductive It where
  | ops (ops : Array Oper) (l : List Oper)
  | code (c : Code)
  | block (id : Nat)
  | goal (G : Fr → List Res → Prop)
  | rounds (c : Code) (n : Nat)

def Cont (E : Env) : List It → Exit → Fr → List Res → Prop
  | [], e, f, H => E.Q e f H
  | .ops ops l :: k, .normal, f, H => E.trl ops l (Cont E k) f H
  | .code c :: k, .normal, f, H => E.trc c (Cont E k) f H
  | .block _ :: k, .normal, f, H => Cont E k .normal f H
  | .block id :: k, .exit i, f, H => if i = id then Cont E k .normal f H else Cont E k (.exit i) f H
  | .goal G :: _, .normal, f, H => G f H
  | .rounds c n :: k, .normal, f, H => ∀ a w, Agree E.n a f → St E.M E.w0 w H → Code.rounds E.P c (E.lift (Cont E k)) n a w
  | _ :: k, e, f, H => Cont E k e f H

/-- The walk from here on: what is left to do, the frame, the blocks. -/
def Run (E : Env) (k : List It) (f : Fr) (H : List Res) : Prop := Cont E k .normal f H

def exitK (id : Nat) : List It → Option (List It)
  | [] => none
  | .block i :: k => if Nat.beq id i then some k else exitK id k
  | _ :: k => exitK id k

namespace Run
variable {E : Env} {k : List It} {f : Fr} {H : List Res}

theorem seq {x y : Code} (h : Run E (.code x :: .code y :: k) f H) : Run E (.code (.seq x y) :: k) f H := by
  intro a w ha hs
  refine wp_seq (wp_mono (h a w ha hs) ?_)
  rintro e a' w' ⟨f', H', h1, h2, h3⟩
  cases e <;> simp only [Cont] at h3 <;> simp only [Exit.then]
  · exact h3 a' w' h1 h2
  all_goals exact ⟨f', H', h1, h2, h3⟩

theorem region {id : Nat} {l : List Oper} (h : Run E (.ops l.toArray l :: k) f H) : Run E (.code (.region id l.toArray false) :: k) f H :=
  fun a w ha hs => wp_region_lit (h a w ha hs)

theorem done {ops : Array Oper} (h : Run E k f H) : Run E (.ops ops [] :: k) f H :=
  fun _ _ ha hs => ⟨f, H, ha, hs, h⟩

theorem skip (h : Run E k f H) : Run E (.code .skip :: k) f H :=
  fun _ _ ha hs => wp_skip ⟨f, H, ha, hs, h⟩

theorem block {id : Nat} {c : Code} (h : Run E (.code c :: .block id :: k) f H) : Run E (.code (.block id c) :: k) f H := by
  intro a w ha hs
  refine wp_block (wp_mono (h a w ha hs) ?_)
  rintro e a' w' ⟨f', H', h1, h2, h3⟩
  cases e with
  | exit i =>
    simp only [Cont] at h3
    simp only [Exit.inBlock]
    split
    · rename_i hi; rw [if_pos hi] at h3; exact ⟨f', H', h1, h2, h3⟩
    · rename_i hi; rw [if_neg hi] at h3; exact ⟨f', H', h1, h2, h3⟩
  | _ => simp only [Cont] at h3; exact ⟨f', H', h1, h2, h3⟩

theorem blockEnd {id : Nat} (h : Run E k f H) : Run E (.block id :: k) f H := h

theorem cont_exit {id : Nat} : ∀ {k k' : List It}, exitK id k = some k' → Run E k' f H → Cont E k (.exit id) f H
  | [], _, h, _ => by simp [exitK] at h
  | .block i :: k, k', h, hr => by
    simp only [exitK] at h
    simp only [Cont]
    by_cases hi : id = i
    · subst hi
      simp only [nbeq_self, if_true, Option.some.injEq] at h; subst h
      rw [if_pos rfl]; exact hr
    · have : Nat.beq id i = false := nbeq_ne hi
      simp only [this, Bool.false_eq_true, if_false] at h
      rw [if_neg hi]
      exact cont_exit h hr
  | .ops _ _ :: k, k', h, hr => by simp only [exitK] at h; simp only [Cont]; exact cont_exit h hr
  | .code _ :: k, k', h, hr => by simp only [exitK] at h; simp only [Cont]; exact cont_exit h hr
  | .goal _ :: k, k', h, hr => by simp only [exitK] at h; simp only [Cont]; exact cont_exit h hr
  | .rounds _ _ :: k, k', h, hr => by simp only [exitK] at h; simp only [Cont]; exact cont_exit h hr

theorem exit {id : Nat} {k' : List It} (he : exitK id k = some k') (h : Run E k' f H) : Run E (.code (.exit id) :: k) f H :=
  fun _ _ ha hs => wp_exit ⟨f, H, ha, hs, cont_exit he h⟩

theorem cont_ret (h : E.Q .ret f H) : ∀ {k : List It}, Cont E k .ret f H
  | [] => h
  | .block _ :: _ => by simp only [Cont]; exact cont_ret h
  | .ops _ _ :: _ => by simp only [Cont]; exact cont_ret h
  | .code _ :: _ => by simp only [Cont]; exact cont_ret h
  | .goal _ :: _ => by simp only [Cont]; exact cont_ret h
  | .rounds _ _ :: _ => by simp only [Cont]; exact cont_ret h

theorem ret (h : E.Q .ret f H) : Run E (.code .ret :: k) f H :=
  fun _ _ ha hs => wp_ret ⟨f, H, ha, hs, cont_ret h⟩

theorem cond {c : Operand} {x y : Code} {b : Bool} (hc : f.eval c = .bool b) (hx : b = true → Run E (.code x :: k) f H) (hy : b = false → Run E (.code y :: k) f H) :
    Run E (.code (.cond c x y) :: k) f H := by
  intro a w ha hs
  refine wp_cond_split (t := b) (by rw [ha.eval]; exact hc) (fun h => hx h a w ha hs) (fun h => hy h a w ha hs)

theorem fin (h : E.Q .normal f H) : Run E [] f H := h
theorem goal {G : Fr → List Res → Prop} (h : G f H) : Run E (.goal G :: k) f H := h

end Run

/-- Blocks may be forgotten or put into another order. -/
def Weak (H H' : List Res) : Prop := ∀ M w0 w, St M w0 w H → St M w0 w H'
theorem Weak.refl (H : List Res) : Weak H H := fun _ _ _ h => h
theorem Weak.trans {a b c : List Res} (h : Weak a b) (h' : Weak b c) : Weak a c := fun M w0 w x => h' M w0 w (h M w0 w x)
theorem Weak.drop {r : Res} {H H' : List Res} (h : Weak H H') : Weak (r :: H) H' := fun M w0 w x => h M w0 w (x.sub (List.sublist_cons_self r H))
theorem Weak.of_sub {H H' : List Res} (h : H'.Sublist H) : Weak H H' := fun _ _ _ x => x.sub h
theorem Weak.of_perm {H H' : List Res} (h : H.Perm H') : Weak H H' := fun _ _ _ x => x.perm h
theorem Weak.front (H1 : List Res) (r : Res) (H2 : List Res) : Weak (H1 ++ r :: H2) (r :: (H1 ++ H2)) := Weak.of_perm List.perm_middle
theorem Weak.nil (H : List Res) : Weak H [] := Weak.of_sub (List.nil_sublist H)
theorem Weak.cons_of {r : Res} {H H' : List Res} (h : ∃ H2 : List Res, H2.Sublist H ∧ H2.Perm H') : Weak (r :: H) (r :: H') := by
  obtain ⟨H2, h1, h2⟩ := h
  exact (Weak.of_sub (h1.cons_cons r)).trans (Weak.of_perm (h2.cons r))
/-- The members at the numbers (each counted in what the ones before have left) come first. -/
def selF : List Res → List Nat → List Res
  | H, [] => H
  | H, i :: is => (H[i]?).toList ++ selF (H.eraseIdx i) is
theorem Weak.selF {H : List Res} (is : List Nat) : Weak H (selF H is) := by
  have key : ∀ (is : List Nat) (H : List Res), (Go.Proofs.Ytnnkoeknejeieaa.selF H is).Perm H := by
    intro is
    induction is with
    | nil => intro H; exact List.Perm.refl _
    | cons i is ih =>
      intro H
      rw [Go.Proofs.Ytnnkoeknejeieaa.selF]
      refine (List.Perm.append_left _ (ih _)).trans ?_
      rcases Nat.lt_or_ge i H.length with h | h
      · have e : H = H.take i ++ H[i] :: H.drop (i + 1) := by rw [List.getElem_cons_drop, List.take_append_drop]
        rw [List.getElem?_eq_getElem h]
        conv => rhs; rw [e]
        rw [List.eraseIdx_eq_take_drop_succ]
        show (H[i] :: (List.take i H ++ List.drop (i + 1) H)).Perm _
        exact List.perm_middle.symm
      · rw [List.getElem?_eq_none h, List.eraseIdx_of_length_le h]; exact List.Perm.refl _
  exact Weak.of_perm (key is H).symm
/-- `H'` is some of the blocks of `H`, in some order: what `Weak` needs, in a form that can be built step by step. -/
inductive Some' : List Res → List Res → Prop
  | nil (H : List Res) : Some' H []
  | skip {r : Res} {H H' : List Res} (h : Some' H H') : Some' (r :: H) H'
  | take {r : Res} {H H' : List Res} (h : Some' H H') : Some' (r :: H) (r :: H')
  | takeEq {r r' : Res} {H H' : List Res} (he : r = r') (h : Some' H H') : Some' (r :: H) (r' :: H')
theorem Some'.weak {H H' : List Res} (h : Some' H H') : Weak H H' := by
  refine Weak.of_sub ?_
  induction h with
  | nil H => exact List.nil_sublist H
  | skip _ ih => exact ih.cons _
  | take _ ih => exact ih.cons_cons _
  | takeEq he _ ih => subst he; exact ih.cons_cons _
theorem Run.weak {E : Env} {k : List It} {f : Fr} {H H' : List Res} (hw : Weak H H') (h : Run E k f H') (hk : ∃ i k', k = i :: k' ∧ (∀ G, i ≠ .goal G) ∧ (∀ id, i ≠ .block id)) : Run E k f H := by
  obtain ⟨i, k', rfl, h1, h2⟩ := hk
  cases i with
  | ops ops l => exact fun a w ha hs => h a w ha (hw _ _ _ hs)
  | code c => exact fun a w ha hs => h a w ha (hw _ _ _ hs)
  | block id => exact absurd rfl (h2 id)
  | goal G => exact absurd rfl (h1 G)
  | rounds c n => exact fun a w ha hs => h a w ha (hw _ _ _ hs)

/-- Outside the slots `D` the frames are one. -/
def Same (D : List Nat) (f f' : Fr) : Prop := ∀ t, D.contains t = false → f' t = f t
theorem Same.refl (D : List Nat) (f : Fr) : Same D f f := fun _ _ => rfl
theorem Same.upd {D : List Nat} {f f' : Fr} {n d : Nat} {v : Value} (hd : D.contains d = true) (h : Same D f f') : Same D f (upd n f' d v) := by
  intro t ht
  have : Nat.beq t d = false := nbeq_ne fun e => by subst e; rw [hd] at ht; cases ht
  simp only [Ytnnkoeknejeieaa.upd, this, Bool.false_and]
  exact h t ht

/-- The frame `f`, but at the slots `D` whatever `j` says, and at those of `L` the values there. -/
def lookup (t : Nat) : List (Nat × Value) → Option Value
  | [] => none
  | (s, v) :: l => if Nat.beq t s then some v else lookup t l
def over (f : Fr) (D : List Nat) (L : List (Nat × Value)) (j : Fr) : Fr := fun t =>
  match lookup t L with
  | some v => v
  | none => if D.contains t then j t else f t
theorem lookup_ok {f : Fr} {t : Nat} {v : Value} : ∀ {L : List (Nat × Value)}, (∀ p ∈ L, f p.1 = p.2) → lookup t L = some v → f t = v
  | [], _, h => by simp [lookup] at h
  | (s, u) :: L, hL, h => by
    simp only [lookup] at h
    cases hb : Nat.beq t s with
    | true =>
      have := Nat.eq_of_beq_eq_true hb; subst this
      simp only [hb, if_true, Option.some.injEq] at h; subst h
      exact hL (t, u) (by simp)
    | false =>
      simp only [hb, Bool.false_eq_true, if_false] at h
      exact lookup_ok (fun p hp => hL p (List.mem_cons_of_mem _ hp)) h
theorem over_of {f f' : Fr} {D : List Nat} {L : List (Nat × Value)} (hs : Same D f f') (hL : ∀ p ∈ L, f' p.1 = p.2) : over f D L f' = f' := by
  funext t
  unfold over
  split
  · rename_i v hv; exact (lookup_ok hL hv).symm
  · split
    · rfl
    · rename_i hd; exact (hs t (by simpa using hd)).symm
theorem Same.over {f f' : Fr} {D D' : List Nat} {L : List (Nat × Value)} {j : Fr} (hD : D'.all (D.contains ·) = true) (hL : L.all (fun p => D.contains p.1) = true) (h : Same D f f') : Same D f (over f' D' L j) := by
  intro t ht
  unfold Ytnnkoeknejeieaa.over
  split
  · rename_i v hv
    exfalso
    have : ∀ {L : List (Nat × Value)}, L.all (fun p => D.contains p.1) = true → lookup t L = some v → False := by
      intro L
      induction L with
      | nil => intro _ h; simp [lookup] at h
      | cons p L ih =>
        intro ha hl
        simp only [List.all_cons, Bool.and_eq_true] at ha
        simp only [lookup] at hl
        cases hb : Nat.beq t p.1 with
        | true => have := Nat.eq_of_beq_eq_true hb; rw [← this, ht] at ha; exact absurd ha.1 (by simp)
        | false => simp [hb] at hl; exact ih ha.2 hl
    exact this hL hv
  · split
    · rename_i hd
      exfalso
      have := List.all_eq_true.1 hD t (by simpa using hd)
      rw [ht] at this; cases this
    · exact h t ht

theorem least_ex {p : Nat → Prop} (h : ∃ n, p n) : ∃ n, p n ∧ ∀ m, p m → n ≤ m := by
  obtain ⟨n, hn⟩ := h
  induction n using Nat.strongRecOn with
  | _ n ih =>
    by_cases hs : ∃ m, m < n ∧ p m
    · obtain ⟨m, hm, hpm⟩ := hs
      exact ih m hm hpm
    · refine ⟨n, hn, fun m hm => ?_⟩
      rcases Nat.lt_or_ge m n with h | h
      · exact absurd ⟨m, h, hm⟩ hs
      · exact h
noncomputable def least (p : Nat → Prop) : Nat := @Classical.epsilon Nat _ fun n => p n ∧ ∀ m, p m → n ≤ m
theorem least_spec {p : Nat → Prop} (h : ∃ n, p n) : p (least p) ∧ ∀ m, p m → least p ≤ m := Classical.epsilon_spec (least_ex h)

/-- The frame at some slots. -/
def FrOk (f : Fr) : List (Nat × Value) → Prop
  | [] => True
  | (t, v) :: L => f t = v ∧ FrOk f L
theorem FrOk.all {f : Fr} : ∀ {L : List (Nat × Value)}, FrOk f L → ∀ p ∈ L, f p.1 = p.2
  | [], _, _, hp => nomatch hp
  | (_, _) :: L, h, p, hp => by
    rcases List.mem_cons.1 hp with rfl | hp
    · exact h.1
    · exact h.2.all p hp

namespace Run
variable {E : Env} {k : List It} {f : Fr} {H : List Res}

/-- A loop: the slots `D` are those that its body writes; in round `x` the slots of `L x` are known, and the blocks are `HH x`. -/
theorem loop {c : Code} {ι : Type} (D : List Nat) (L : ι → List (Nat × Value)) (HH : ι → List Res) (Inv : ι → Prop) (μ : ι → Nat) (x0 : ι)
    (h0 : Inv x0) (hf0 : FrOk f (L x0)) (hH0 : Weak H (HH x0))
    (round : ∀ x j, Inv x → Run E (.code c :: .goal (fun f' H' => Same D f f' ∧ ∃ x', Inv x' ∧ μ x' < μ x ∧ FrOk f' (L x') ∧ Weak H' (HH x')) :: k) (over f D (L x) j) (HH x)) :
    Run E (.code (.loop c) :: k) f H := by
  intro a w ha hs
  let I : Act → World → ι → Prop := fun a w x => Inv x ∧ (∃ f', Agree E.n a f' ∧ Same D f f' ∧ ∀ p ∈ L x, f' p.1 = p.2) ∧ St E.M E.w0 w (HH x)
  let m : Act → World → Nat := fun a w => least (fun n => ∃ x, I a w x ∧ μ x = n)
  refine wp_loop (fun a w => ∃ x, I a w x) m ⟨x0, h0, ⟨f, ha, Same.refl _ _, hf0.all⟩, hH0 _ _ _ hs⟩ ?_
  intro a w hI
  obtain ⟨x1, hx1⟩ := hI
  have hex : ∃ n, ∃ x, I a w x ∧ μ x = n := ⟨_, x1, hx1, rfl⟩
  obtain ⟨x, ⟨hInv, ⟨f', ha', hsame, hL⟩, hst⟩, hmx⟩ := (least_spec hex).1
  have hm : m a w = μ x := hmx.symm
  have hr := round x f' hInv a w (by rw [over_of hsame hL]; exact ha') hst
  refine wp_mono hr ?_
  rintro e a2 w2 ⟨f2, H2, h1, h2, h3⟩
  cases e with
  | normal =>
    simp only [Cont] at h3
    obtain ⟨hsm, x', hi', hlt, hl', hw'⟩ := h3
    have hI' : I a2 w2 x' := ⟨hi', ⟨f2, h1, hsm, hl'.all⟩, hw' _ _ _ h2⟩
    refine ⟨⟨x', hI'⟩, ?_⟩
    have hex2 : ∃ n, ∃ x, I a2 w2 x ∧ μ x = n := ⟨_, x', hI', rfl⟩
    rw [hm]
    exact Nat.lt_of_le_of_lt ((least_spec hex2).2 _ ⟨x', hI', rfl⟩) hlt
  | _ => simp only [Cont] at h3; exact ⟨f2, H2, h1, h2, h3⟩

theorem again {c : Code} {n : Nat} (h : Run E (.code c :: .rounds c n :: k) f H) : Run E (.rounds c (n + 1) :: k) f H := by
  intro a w ha hs
  rw [rounds_succ]
  refine wp_mono (h a w ha hs) ?_
  rintro e a' w' ⟨f', H', h1, h2, h3⟩
  cases e <;> simp only [Cont] at h3 <;> simp only [Exit.then]
  · exact h3 a' w' h1 h2
  all_goals exact ⟨f', H', h1, h2, h3⟩
/-- A loop of few rounds, one round at a time. -/
theorem unroll {c : Code} (n : Nat) (h : Run E (.rounds c n :: k) f H) : Run E (.code (.loop c) :: k) f H :=
  fun a w ha hs => wp_loop_rounds n (h a w ha hs)

/-- A cut behind the next piece of code. -/
theorem cut {c : Code} {ι : Type} (D : List Nat) (L : ι → List (Nat × Value)) (HH : ι → List Res) (Inv : ι → Prop)
    (h1 : Run E (.code c :: .goal (fun f' H' => Same D f f' ∧ ∃ x, Inv x ∧ FrOk f' (L x) ∧ Weak H' (HH x)) :: k) f H)
    (h2 : ∀ x j, Inv x → Run E k (over f D (L x) j) (HH x)) : Run E (.code c :: k) f H := by
  intro a w ha hs
  refine wp_mono (h1 a w ha hs) ?_
  rintro e a' w' ⟨f', H', g1, g2, g3⟩
  cases e with
  | normal =>
    simp only [Cont] at g3
    obtain ⟨hsm, x, hi, hL, hw⟩ := g3
    exact ⟨over f D (L x) f', HH x, by rw [over_of hsm hL.all]; exact g1, hw _ _ _ g2, h2 x f' hi⟩
  | _ => simp only [Cont] at g3; exact ⟨f', H', g1, g2, g3⟩
end Run

/-! ### Operations -/
def yieldedF (ops : Array Oper) (f : Fr) (j : Nat) : Option Bool :=
  match (ops[j]?).bind (·.dst) with
  | some d => match f d with
    | .bool b => some b
    | _ => none
  | none => none
def wantedF (ops : Array Oper) (f : Fr) (o : Oper) : Bool :=
  match o.guard with
  | none => true
  | some (j, want) => yieldedF ops f j == some want

theorem wantedF_eq {n : Nat} {a : Act} {f : Fr} (h : Agree n a f) (ops : Array Oper) (o : Oper) : Region.wanted o (yielded ops a.tmps) = wantedF ops f o := by
  unfold Region.wanted wantedF
  cases o.guard with
  | none => rfl
  | some g =>
    obtain ⟨j, want⟩ := g
    have : yielded ops a.tmps j = yieldedF ops f j := by
      unfold yielded yieldedF
      cases hd : (ops[j]?).bind (·.dst) with
      | none => rfl
      | some d =>
        have := h.at_ d
        simp only [Option.bind_some, ← this, Array.getD_eq_getD_getElem?]
        cases a.tmps[d]? with
        | none => rfl
        | some v => cases v <;> rfl
    simp only [this]

/-- One operation: the world may turn. -/
def OpStep (E : Env) (o : Oper) (f : Fr) (H : List Res) (K : Fr → List Res → Prop) : Prop :=
  ∀ a w, Agree E.n a f → St E.M E.w0 w H → ∀ (Kw : Act → World → Prop) (Q' : Exit → Act → World → Prop),
    (∀ f' H' a' w', Agree E.n a' f' → St E.M E.w0 w' H' → K f' H' → Kw a' w') → o.wp E.P a w Kw Q'
/-- One operation that yields `v` in every world of the state, and leaves the state alone. -/
def OpQ (E : Env) (o : Oper) (f : Fr) (H : List Res) (v : Value) : Prop :=
  ∀ a w, Agree E.n a f → St E.M E.w0 w H → o.quietAt E.P a (fun w' => St E.M E.w0 w' H) w v

/-- One operation that yields `v` in every world of the state, and leaves that world as it is. -/
def OpY (E : Env) (o : Oper) (f : Fr) (H : List Res) (v : Value) : Prop := ∀ w, St E.M E.w0 w H → (execOp f.eval o).run E.P w = .ok (.value v) w

theorem Run.step {E : Env} {k : List It} {f : Fr} {H : List Res} {ops : Array Oper} {o : Oper} {rest : List Oper} (hw : wantedF ops f o = true) (h : OpStep E o f H (Run E (.ops ops rest :: k))) : Run E (.ops ops (o :: rest) :: k) f H := by
  intro a w ha hs
  unfold wpList
  rw [wantedF_eq ha, hw, if_pos rfl]
  exact .inl (h a w ha hs _ _ fun f' H' a' w' h1 h2 h3 => h3 a' w' h1 h2)
theorem Run.pass {E : Env} {k : List It} {f : Fr} {H : List Res} {ops : Array Oper} {o : Oper} {rest : List Oper} (hw : wantedF ops f o = false) (h : Run E (.ops ops rest :: k) (putF E.n f o.dst undef) H) : Run E (.ops ops (o :: rest) :: k) f H := by
  intro a w ha hs
  unfold wpList
  rw [wantedF_eq ha, hw, if_neg (by simp)]
  exact h _ _ (ha.put _ _) hs
theorem OpStep.q {E : Env} {o : Oper} {f : Fr} {H : List Res} {v : Value} {K : Fr → List Res → Prop} (h : OpQ E o f H v) (hk : K (putF E.n f o.dst v) H) : OpStep E o f H K := by
  intro a w ha hs Kw Q' hK
  refine Oper.wp_of_quiet (C := fun w' => St E.M E.w0 w' H) (K := fun a' => Agree E.n a' (putF E.n f o.dst v)) hs (fun a' w' h1 h2 => hK _ _ _ _ h2 h1 hk) ?_
  exact ⟨v, fun w hw => h a w ha hw, ha.put _ _⟩
/-- A quiet operation in its place. -/
theorem Run.q {E : Env} {k : List It} {f : Fr} {H : List Res} {ops : Array Oper} {o : Oper} {rest : List Oper} {v : Value} (hw : wantedF ops f o = true) (h : OpQ E o f H v) (hk : Run E (.ops ops rest :: k) (putF E.n f o.dst v) H) : Run E (.ops ops (o :: rest) :: k) f H :=
  Run.step hw (OpStep.q h hk)

/-- A region that draws its order, and whose operations are all quiet. -/
def Lex (E : Env) (ops : Array Oper) (Q : Fr → Prop) : List Oper → Fr → List Res → Prop
  | [], f, _ => Q f
  | o :: rest, f, H => if wantedF ops f o = true then ∃ v, OpQ E o f H v ∧ Lex E ops Q rest (putF E.n f o.dst v) H else Lex E ops Q rest (putF E.n f o.dst undef) H
theorem Lex.quiet {E : Env} {ops : Array Oper} {Q : Fr → Prop} {H : List Res} : ∀ {l : List Oper} {f : Fr} {a : Act}, Lex E ops Q l f H → Agree E.n a f →
    wpQuiet E.P ops (fun w' => St E.M E.w0 w' H) (fun a' => ∃ f', Agree E.n a' f' ∧ Q f') l a
  | [], f, _, h, ha => ⟨f, ha, h⟩
  | o :: rest, f, a, h, ha => by
    unfold wpQuiet
    rw [wantedF_eq ha]
    simp only [Lex] at h
    by_cases hw : wantedF ops f o = true
    · rw [if_pos hw] at h ⊢
      obtain ⟨v, h1, h2⟩ := h
      exact ⟨v, fun w hs => h1 a w ha hs, h2.quiet (ha.put _ _)⟩
    · rw [if_neg hw] at h ⊢
      exact h.quiet (ha.put _ _)
theorem Run.draws {E : Env} {k : List It} {f : Fr} {H : List Res} {id : Nat} {l : List Oper} (hm : E.P.follows .mixedOrders = true) (hB : Region.lexB .any l.toArray = true) (h : Lex E l.toArray (fun f' => Run E k f' H) l f H) :
    Run E (.code (.region id l.toArray true) :: k) f H := by
  intro a w ha hs
  refine wp_region_quiet (C := fun w' => St E.M E.w0 w' H) hm hB hs.drew ?_
  have h1 : wpQuiet E.P l.toArray (fun w' => St E.M E.w0 w' H) (fun a' => ∃ f', Agree E.n a' f' ∧ Run E k f' H) l a := h.quiet ha
  have mono : ∀ (l' : List Oper) (a : Act), wpQuiet E.P l.toArray (fun w' => St E.M E.w0 w' H) (fun a' => ∃ f', Agree E.n a' f' ∧ Run E k f' H) l' a →
      wpQuiet E.P l.toArray (fun w' => St E.M E.w0 w' H) (fun a' => ∀ w', St E.M E.w0 w' H → E.lift (Cont E k) .normal a' w') l' a := by
    intro l'
    induction l' with
    | nil => rintro a ⟨f', h1, h2⟩ w' hw'; exact ⟨f', H, h1, hw', h2⟩
    | cons o l' ih =>
      intro a h
      unfold wpQuiet at h ⊢
      split
      · rename_i hw; rw [if_pos hw] at h; exact Oper.quiet_mono ih h
      · rename_i hw; rw [if_neg hw] at h; exact ih _ h
  simpa using mono _ _ h1
theorem Lex.q {E : Env} {ops : Array Oper} {Q : Fr → Prop} {f : Fr} {H : List Res} {o : Oper} {rest : List Oper} {v : Value} (hw : wantedF ops f o = true) (h : OpQ E o f H v) (hk : Lex E ops Q rest (putF E.n f o.dst v) H) : Lex E ops Q (o :: rest) f H := by
  simp only [Lex]; rw [if_pos hw]; exact ⟨v, h, hk⟩
theorem Lex.pass {E : Env} {ops : Array Oper} {Q : Fr → Prop} {f : Fr} {H : List Res} {o : Oper} {rest : List Oper} (hw : wantedF ops f o = false) (hk : Lex E ops Q rest (putF E.n f o.dst undef) H) : Lex E ops Q (o :: rest) f H := by
  simp only [Lex]; rw [if_neg (by rw [hw]; simp)]; exact hk
theorem Lex.done {E : Env} {ops : Array Oper} {Q : Fr → Prop} {f : Fr} {H : List Res} (h : Q f) : Lex E ops Q [] f H := h

namespace OpQ
variable {E : Env} {o : Oper} {f : Fr} {H : List Res} {v : Value}

theorem y (h : OpY E o f H v) : OpQ E o f H v := by
  intro a w ha hs
  unfold Oper.quietAt
  rw [ha.eval, h w hs]
  exact ⟨rfl, rfl⟩
theorem of_skip (h : ∀ w, St E.M E.w0 w H → (execOp f.eval o).run E.P w = .ok .skip w) : OpQ E o f H undef := by
  intro a w ha hs
  unfold Oper.quietAt
  rw [ha.eval, h w hs]
  exact ⟨rfl, rfl⟩
/-- Whatever reckons with values alone. -/
theorem pure (h : execOp f.eval o = Sem.pure (.value v)) : OpQ E o f H v := y fun w _ => by rw [h]; rfl
end OpQ
theorem OpY.pure {E : Env} {o : Oper} {f : Fr} {H : List Res} {v : Value} (h : execOp f.eval o = Sem.pure (.value v)) : OpY E o f H v := fun w _ => by rw [h]; rfl
theorem Run.sr {E : Env} {k : List It} {f : Fr} {H : List Res} {id : Nat} {l : List Oper} {y : Code} (h : Run E (.ops l.toArray l :: .code y :: k) f H) : Run E (.code (.seq (.region id l.toArray false) y) :: k) f H := Run.seq (Run.region h)
theorem Run.dsr {E : Env} {k : List It} {f : Fr} {H : List Res} {ops : Array Oper} {id : Nat} {l : List Oper} {y : Code} (h : Run E (.ops l.toArray l :: .code y :: k) f H) : Run E (.ops ops [] :: .code (.seq (.region id l.toArray false) y) :: k) f H := Run.done (Run.sr h)
theorem Run.dr {E : Env} {k : List It} {f : Fr} {H : List Res} {ops : Array Oper} {id : Nat} {l : List Oper} (h : Run E (.ops l.toArray l :: k) f H) : Run E (.ops ops [] :: .code (.region id l.toArray false) :: k) f H := Run.done (Run.region h)
theorem Run.y {E : Env} {k : List It} {f : Fr} {H : List Res} {ops : Array Oper} {o : Oper} {rest : List Oper} (v : Value) (hw : wantedF ops f o = true) (h : OpY E o f H v) (hk : Run E (.ops ops rest :: k) (putF E.n f o.dst v) H) : Run E (.ops ops (o :: rest) :: k) f H :=
  Run.q hw (OpQ.y h) hk
theorem Run.p {E : Env} {k : List It} {f : Fr} {H : List Res} {ops : Array Oper} {o : Oper} {rest : List Oper} (v : Value) (hw : wantedF ops f o = true) (h : execOp f.eval o = Sem.pure (.value v)) (hk : Run E (.ops ops rest :: k) (putF E.n f o.dst v) H) : Run E (.ops ops (o :: rest) :: k) f H :=
  Run.q hw (OpQ.y (OpY.pure h)) hk


/-! ### A region that draws its order and turns the world: what yields in every world of the state is taken first; what turns it must be alone -/
def DW (E : Env) (ops : Array Oper) (base : List Res) (k : List It) (fuel : Nat) (listed : Array Bool) (f : Fr) (H : List Res) : Prop :=
  ∀ a w, Agree E.n a f → St E.M E.w0 w H → wpAnyH E.P .any ops (E.lift (Cont E k)) (fun w => St E.M E.w0 w base) fuel listed a w
theorem cont_panic {E : Env} {f : Fr} {H : List Res} {c : List PanicEntry} (hQ : ∀ c f H, ¬ E.Q (.panic c) f H) : ∀ {k : List It}, ¬ Cont E k (.panic c) f H
  | [] => hQ c f H
  | .block _ :: _ => by simp only [Cont]; exact cont_panic hQ
  | .ops _ _ :: _ => by simp only [Cont]; exact cont_panic hQ
  | .code _ :: _ => by simp only [Cont]; exact cont_panic hQ
  | .goal _ :: _ => by simp only [Cont]; exact cont_panic hQ
  | .rounds _ _ :: _ => by simp only [Cont]; exact cont_panic hQ
section
variable {E : Env} {ops : Array Oper} {base : List Res} {k : List It} {fuel : Nat} {listed : Array Bool} {f : Fr} {H : List Res}
theorem Run.held {id : Nat} {l : List Oper} (hm : E.P.follows .mixedOrders = true) (h : DW E l.toArray H k l.toArray.size (Array.replicate l.toArray.size false) f H) : Run E (.code (.region id l.toArray true) :: k) f H :=
  fun a w ha hs => wp_region_held hm (h a { w with drawn := w.drawn + 1 } ha hs.drew)
theorem Run.heldB {base : List Res} {id : Nat} {l : List Oper} (hm : E.P.follows .mixedOrders = true) (h : DW E l.toArray base k l.toArray.size (Array.replicate l.toArray.size false) f H) : Run E (.code (.region id l.toArray true) :: k) f H :=
  fun a w ha hs => wp_region_held hm (h a { w with drawn := w.drawn + 1 } ha hs.drew)
theorem DW.take {i : Nat} {o : Oper} {v : Value} (hi : ops[i]? = some o) (hs : Region.noSelect ops = true) (hf : Region.free .any ops listed i = true) (hr : (Region.ready .any ops listed).contains i = true)
    (hQ : ∀ c f H, ¬ E.Q (.panic c) f H) (hb : Weak H base) (hw : wantedF ops f o = true) (hy : OpY E o f base v) (h : DW E ops base k fuel (listed.setIfInBounds i true) (putF E.n f o.dst v) H) : DW E ops base k (fuel + 1) listed f H := by
  intro a w ha hst
  refine wpAnyH_take hi hs hf hr (fun c a' w' ⟨f', H', _, _, h3⟩ => absurd h3 (cont_panic hQ)) (.inl ⟨by rw [wantedF_eq ha]; exact hw, fun w' hw' => by rw [ha.eval]; exact hy w' hw'⟩) (hb _ _ _ hst) (h _ _ (ha.put _ _) hst)
theorem DW.pass {i : Nat} {o : Oper} (hi : ops[i]? = some o) (hs : Region.noSelect ops = true) (hf : Region.free .any ops listed i = true) (hr : (Region.ready .any ops listed).contains i = true)
    (hQ : ∀ c f H, ¬ E.Q (.panic c) f H) (hb : Weak H base) (hw : wantedF ops f o = false) (h : DW E ops base k fuel (listed.setIfInBounds i true) (putF E.n f o.dst undef) H) : DW E ops base k (fuel + 1) listed f H := by
  intro a w ha hst
  refine wpAnyH_take (v := undef) hi hs hf hr (fun c a' w' ⟨f', H', _, _, h3⟩ => absurd h3 (cont_panic hQ)) (.inr ⟨by rw [wantedF_eq ha]; exact hw, rfl⟩) (hb _ _ _ hst) (h _ _ (ha.put _ _) hst)
theorem DW.step {i : Nat} {o : Oper} (hr : Region.ready .any ops listed = [i]) (hi : ops[i]? = some o) (hw : wantedF ops f o = true)
    (h : OpStep E o f H fun f' H' => Weak H' base ∧ DW E ops base k fuel (listed.setIfInBounds i true) f' H') : DW E ops base k (fuel + 1) listed f H := by
  intro a w ha hst
  refine wpAnyH_all hr (by simp) fun j hj => ?_
  simp only [List.mem_singleton] at hj
  subst hj
  unfold wpOp
  simp only [hi]
  rw [wantedF_eq ha, hw, if_pos rfl]
  exact .inl (h a w ha hst _ _ fun f' H' a' w' h1 h2 h3 => ⟨h3.1 _ _ _ h2, h3.2 a' w' h1 h2⟩)
theorem DW.done (hr : Region.ready .any ops listed = []) (h : Run E k f H) : DW E ops base k fuel listed f H :=
  fun _ _ ha hst => wpAnyH_done hr ⟨f, H, ha, hst, h⟩ fuel
end
/-! ### A region that draws its order, and whose operations Z turn the world: what reads the world is taken first, as all of Z wait for it; what reads nothing is taken at any time -/
/-- Whatever order is drawn; no operation but those of Z ends the condition S. -/
def wpL (P : Program) (ops : Array Oper) (Q : Exit → Act → World → Prop) (S : World → Prop) (Z : List Nat) : Nat → Array Bool → Act → World → Prop
  | 0, listed, a, w => Region.ready .any ops listed = [] ∧ Q .normal a w
  | fuel + 1, listed, a, w => (Region.ready .any ops listed = [] → Q .normal a w) ∧
    ∀ i ∈ Region.ready .any ops listed, wpOp P ops Q i (fun a' w' => (Z.contains i = false → S w → S w') ∧ wpL P ops Q S Z fuel (listed.setIfInBounds i true) a' w') a w
theorem wpL_any {P : Program} {ops : Array Oper} {Q : Exit → Act → World → Prop} {S : World → Prop} {Z : List Nat} : ∀ (fuel : Nat) (listed : Array Bool) (a : Act) (w : World), wpL P ops Q S Z fuel listed a w → wpAny P .any ops Q fuel listed a w
  | 0, _, _, _, h => h
  | fuel + 1, _, _, _, ⟨h1, h2⟩ => ⟨h1, fun i hi => wpOp_mono (fun a' w' ⟨_, h⟩ => wpL_any fuel _ a' w' h) (h2 i hi)⟩
/-- Operation j waits for operation i. -/
def waits (ops : Array Oper) (j i : Nat) : Bool := match ops[j]? with
  | some o => o.after.any fun e => Region.binds .any e && e.on == i
  | none => false
def waitsL (ops : Array Oper) (Z : List Nat) (i : Nat) : Bool := Z.all fun j => waits ops j i
theorem ready_key {ops : Array Oper} {i j : Nat} {listed : Array Bool} (hri : i ∈ Region.ready .any ops listed) (hrj : j ∈ Region.ready .any ops listed) : ∀ oj, ops[j]? = some oj → ∀ e ∈ oj.after, Region.binds .any e = true → e.on ≠ i := by
  intro oj hoj e he hb heq
  obtain ⟨_, oj', hoj', hall⟩ := mem_ready.1 hrj
  rw [hoj] at hoj'; injection hoj' with hoj'; subst hoj'
  have h1 := hall e he hb
  have h0 := (mem_ready.1 hri).1
  rw [heq] at h1
  by_cases hl : i < listed.size
  · simp [hl] at h0 h1; rw [h0] at h1; cases h1
  · simp [Array.getElem?_eq_none (Nat.not_lt.1 hl)] at h1
theorem ready_notZ {ops : Array Oper} {Z : List Nat} {i j : Nat} {listed : Array Bool} (hwt : waitsL ops Z i = true) (hri : i ∈ Region.ready .any ops listed) (hrj : j ∈ Region.ready .any ops listed) : Z.contains j = false := by
  cases hz : Z.contains j with
  | false => rfl
  | true =>
    exfalso
    have h1 := List.all_eq_true.1 hwt j (by simpa using hz)
    obtain ⟨_, oj, hoj, _⟩ := mem_ready.1 hrj
    unfold waits at h1
    rw [hoj] at h1
    simp only [Array.any_eq_true', Bool.and_eq_true, beq_iff_eq] at h1
    obtain ⟨e, he, hb, hon⟩ := h1
    exact ready_key hri hrj oj hoj e he hb hon
/-- With `C` the operation may lean on S, else it yields in whatever world. -/
theorem wpL_take {P : Program} {ops : Array Oper} {Q : Exit → Act → World → Prop} {S : World → Prop} {Z : List Nat} {i : Nat} {oi : Oper} {v : Value} (C : Bool) (hi : ops[i]? = some oi) (hsel : Region.noSelect ops = true) (hwt : C = true → waitsL ops Z i = true)
    (hQ : ∀ c a w, Q (.panic c) (a.put oi.dst v) w → Q (.panic c) a w) : ∀ (fuel : Nat) (listed : Array Bool) (a : Act) (w : World),
      (∀ j oj, ops[j]? = some oj → j ≠ i → listed.getD j true = false → (∀ e ∈ oj.after, Region.binds .any e = true → e.on ≠ i) → oi.apart ops oj = true) →
      i ∈ Region.ready .any ops listed → YieldsIf P ops (fun w => C = true → S w) oi v a → (C = true → S w) → wpL P ops Q S Z fuel (listed.setIfInBounds i true) (a.put oi.dst v) w → wpL P ops Q S Z (fuel + 1) listed a w := by
  have hs := Region.noSelect_spec hsel
  intro fuel
  induction fuel with
  | zero =>
    intro listed a w _ hr hy hS hK
    refine ⟨fun h => absurd hr (by rw [h]; simp), fun j hj => ?_⟩
    by_cases e : j = i
    · subst e; exact hy.wpOp hi hS ⟨fun _ h => h, hK⟩
    · have := ready_mono hj e
      rw [hK.1] at this; cases this
  | succ fuel ih =>
    intro listed a w hfree hr hy hS hK
    refine ⟨fun h => absurd hr (by rw [h]; simp), fun j hj => ?_⟩
    by_cases e : j = i
    · subst e; exact hy.wpOp hi hS ⟨fun _ h => h, hK⟩
    · obtain ⟨hun, oj, hoj, _⟩ := mem_ready.1 hj
      have hap := hfree j oj hoj e hun (ready_key hr hj oj hoj)
      refine wpOp_mono (fun a' w' ⟨g1, g2, g3⟩ => ⟨g2, ?_⟩) (wpOp_putIf hoj hap (fun cs b => hs i oi cs b hi) (fun cs b => hs j oj cs b hoj) hQ hy (hK.2 j (ready_mono hj e)))
      refine ih (listed.setIfInBounds j true) a' w' (fun k ok hk hki hku hkn => hfree k ok hk hki ?_ hkn) (ready_mono hr (Ne.symm e)) g1 (fun hc => g2 (ready_notZ (hwt hc) hr hj) (hS hc)) (by rw [Array.setIfInBounds_comm _ _ e]; exact g3)
      by_cases hjk : j = k
      · subst hjk; exact hun
      · rw [getD_set_ne true hjk] at hku; exact hku
def DL (E : Env) (ops : Array Oper) (Z : List Nat) (base : List Res) (k : List It) (fuel : Nat) (listed : Array Bool) (f : Fr) (H : List Res) : Prop :=
  ∀ a w, Agree E.n a f → St E.M E.w0 w H → wpL E.P ops (E.lift (Cont E k)) (fun w => St E.M E.w0 w base) Z fuel listed a w
section
variable {E : Env} {ops : Array Oper} {Z : List Nat} {base : List Res} {k : List It} {fuel : Nat} {listed : Array Bool} {f : Fr} {H : List Res}
theorem Run.lastly {id : Nat} {l : List Oper} (Z : List Nat) (hm : E.P.follows .mixedOrders = true) (h : DL E l.toArray Z H k l.toArray.size (Array.replicate l.toArray.size false) f H) : Run E (.code (.region id l.toArray true) :: k) f H :=
  fun a w ha hs => wp_region_any hm (wpL_any _ _ _ _ (h a { w with drawn := w.drawn + 1 } ha hs.drew))
theorem DL.take {i : Nat} {o : Oper} {v : Value} (hi : ops[i]? = some o) (hs : Region.noSelect ops = true) (hwt : waitsL ops Z i = true) (hf : Region.free .any ops listed i = true) (hr : (Region.ready .any ops listed).contains i = true)
    (hQ : ∀ c f H, ¬ E.Q (.panic c) f H) (hb : Weak H base) (hw : wantedF ops f o = true) (hy : OpY E o f base v) (h : DL E ops Z base k fuel (listed.setIfInBounds i true) (putF E.n f o.dst v) H) : DL E ops Z base k (fuel + 1) listed f H := by
  intro a w ha hst
  exact wpL_take true hi hs (fun _ => hwt) (fun c a' w' ⟨f', H', _, _, h3⟩ => absurd h3 (cont_panic hQ)) fuel listed a w (Region.free_spec hi hf) (by simpa using hr) (.inl ⟨by rw [wantedF_eq ha]; exact hw, fun w' hw' => by rw [ha.eval]; exact hy w' (hw' rfl)⟩) (fun _ => hb _ _ _ hst) (h _ _ (ha.put _ _) hst)
/-- An operation that reads nothing of the world. -/
theorem DL.takeP {i : Nat} {o : Oper} {v : Value} (hi : ops[i]? = some o) (hs : Region.noSelect ops = true) (hf : Region.free .any ops listed i = true) (hr : (Region.ready .any ops listed).contains i = true)
    (hQ : ∀ c f H, ¬ E.Q (.panic c) f H) (hw : wantedF ops f o = true) (hy : ∀ w0, OpY ⟨E.P, E.n, No, w0, E.Q⟩ o f [] v) (h : DL E ops Z base k fuel (listed.setIfInBounds i true) (putF E.n f o.dst v) H) : DL E ops Z base k (fuel + 1) listed f H := by
  intro a w ha hst
  exact wpL_take false hi hs (fun h => nomatch h) (fun c a' w' ⟨f', H', _, _, h3⟩ => absurd h3 (cont_panic hQ)) fuel listed a w (Region.free_spec hi hf) (by simpa using hr) (.inl ⟨by rw [wantedF_eq ha]; exact hw, fun w' _ => by rw [ha.eval]; exact hy w' w' (St.empty _ _)⟩) (fun h => nomatch h) (h _ _ (ha.put _ _) hst)
theorem DL.pass {i : Nat} {o : Oper} (hi : ops[i]? = some o) (hs : Region.noSelect ops = true) (hf : Region.free .any ops listed i = true) (hr : (Region.ready .any ops listed).contains i = true)
    (hQ : ∀ c f H, ¬ E.Q (.panic c) f H) (hw : wantedF ops f o = false) (h : DL E ops Z base k fuel (listed.setIfInBounds i true) (putF E.n f o.dst undef) H) : DL E ops Z base k (fuel + 1) listed f H := by
  intro a w ha hst
  exact wpL_take false hi hs (fun h => nomatch h) (fun c a' w' ⟨f', H', _, _, h3⟩ => absurd h3 (cont_panic hQ)) fuel listed a w (Region.free_spec hi hf) (by simpa using hr) (.inr ⟨by rw [wantedF_eq ha]; exact hw, rfl⟩) (fun h => nomatch h) (h _ _ (ha.put _ _) hst)
/-- One of Z, alone. -/
theorem DL.step {i : Nat} {o : Oper} (hr : Region.ready .any ops listed = [i]) (hz : Z.contains i = true) (hi : ops[i]? = some o) (hw : wantedF ops f o = true)
    (h : OpStep E o f H (DL E ops Z base k fuel (listed.setIfInBounds i true))) : DL E ops Z base k (fuel + 1) listed f H := by
  intro a w ha hst
  refine ⟨fun h0 => absurd (hr.symm.trans h0) (by simp), fun j hj => ?_⟩
  rw [hr] at hj
  simp only [List.mem_singleton] at hj
  subst hj
  unfold wpOp
  simp only [hi]
  rw [wantedF_eq ha, hw, if_pos rfl]
  exact .inl (h a w ha hst _ _ fun f' H' a' w' h1 h2 h3 => ⟨fun hne => absurd hz (by rw [hne]; decide), h3 a' w' h1 h2⟩)
theorem DL.done (hr : Region.ready .any ops listed = []) (h : Run E k f H) : DL E ops Z base k fuel listed f H := by
  intro a w ha hst
  cases fuel with
  | zero => exact ⟨hr, f, H, ha, hst, h⟩
  | succ n => exact ⟨fun _ => ⟨f, H, ha, hst, h⟩, by rw [hr]; simp⟩
end
theorem Run.lastlyB {E : Env} {k : List It} {f : Fr} {H : List Res} {id : Nat} {l : List Oper} (Z : List Nat) (base : List Res) (hm : E.P.follows .mixedOrders = true) (h : DL E l.toArray Z base k l.toArray.size (Array.replicate l.toArray.size false) f H) : Run E (.code (.region id l.toArray true) :: k) f H :=
  fun a w ha hs => wp_region_any hm (wpL_any _ _ _ _ (h a { w with drawn := w.drawn + 1 } ha hs.drew))
/-- One that is not of Z, alone: the base goes on to hold. -/
theorem DL.stepS {E : Env} {ops : Array Oper} {Z : List Nat} {base : List Res} {k : List It} {fuel : Nat} {listed : Array Bool} {f : Fr} {H : List Res} {i : Nat} {o : Oper} (hr : Region.ready .any ops listed = [i]) (hi : ops[i]? = some o) (hw : wantedF ops f o = true)
    (h : OpStep E o f H fun f' H' => Weak H' base ∧ DL E ops Z base k fuel (listed.setIfInBounds i true) f' H') : DL E ops Z base k (fuel + 1) listed f H := by
  intro a w ha hst
  refine ⟨fun h0 => absurd (hr.symm.trans h0) (by simp), fun j hj => ?_⟩
  rw [hr] at hj
  simp only [List.mem_singleton] at hj
  subst hj
  unfold wpOp
  simp only [hi]
  rw [wantedF_eq ha, hw, if_pos rfl]
  exact .inl (h a w ha hst _ _ fun f' H' a' w' h1 h2 h3 => ⟨fun _ _ => h3.1 _ _ _ h2, h3.2 a' w' h1 h2⟩)
theorem DL.weak {E : Env} {ops : Array Oper} {Z : List Nat} {base : List Res} {k : List It} {fuel : Nat} {listed : Array Bool} {f : Fr} {H H' : List Res} (hw : Weak H H') (h : DL E ops Z base k fuel listed f H') : DL E ops Z base k fuel listed f H :=
  fun a w ha hs => h a w ha (hw _ _ _ hs)
theorem DL.weakS {E : Env} {ops : Array Oper} {Z : List Nat} {base : List Res} {k : List It} {fuel : Nat} {listed : Array Bool} {f : Fr} {H H' : List Res} (hw : Weak H H') (h : Weak H' base ∧ DL E ops Z base k fuel listed f H') : Weak H base ∧ DL E ops Z base k fuel listed f H :=
  ⟨hw.trans h.1, h.2.weak hw⟩
theorem DW.weak {E : Env} {ops : Array Oper} {base : List Res} {k : List It} {fuel : Nat} {listed : Array Bool} {f : Fr} {H H' : List Res} (hw : Weak H H') (h : DW E ops base k fuel listed f H') : DW E ops base k fuel listed f H :=
  fun a w ha hs => h a w ha (hw _ _ _ hs)
theorem DW.weakS {E : Env} {ops : Array Oper} {base : List Res} {k : List It} {fuel : Nat} {listed : Array Bool} {f : Fr} {H H' : List Res} (hw : Weak H H') (h : Weak H' base ∧ DW E ops base k fuel listed f H') : Weak H base ∧ DW E ops base k fuel listed f H :=
  ⟨hw.trans h.1, h.2.weak hw⟩
/-- Two may come up. -/
theorem DW.two {E : Env} {ops : Array Oper} {base : List Res} {k : List It} {fuel : Nat} {listed : Array Bool} {f : Fr} {H : List Res} {i j : Nat} {o o' : Oper} (hr : Region.ready .any ops listed = [i, j]) (hi : ops[i]? = some o) (hj : ops[j]? = some o') (hw : wantedF ops f o = true) (hw' : wantedF ops f o' = true)
    (h : OpStep E o f H fun f' H' => Weak H' base ∧ DW E ops base k fuel (listed.setIfInBounds i true) f' H')
    (h' : OpStep E o' f H fun f' H' => Weak H' base ∧ DW E ops base k fuel (listed.setIfInBounds j true) f' H') : DW E ops base k (fuel + 1) listed f H := by
  intro a w ha hst
  refine wpAnyH_all hr (by simp) fun q hq => ?_
  simp only [List.mem_cons, List.not_mem_nil, or_false] at hq
  rcases hq with rfl | rfl
  · unfold wpOp
    simp only [hi]
    rw [wantedF_eq ha, hw, if_pos rfl]
    exact .inl (h a w ha hst _ _ fun f' H' a' w' h1 h2 h3 => ⟨h3.1 _ _ _ h2, h3.2 a' w' h1 h2⟩)
  · unfold wpOp
    simp only [hj]
    rw [wantedF_eq ha, hw', if_pos rfl]
    exact .inl (h' a w ha hst _ _ fun f' H' a' w' h1 h2 h3 => ⟨h3.1 _ _ _ h2, h3.2 a' w' h1 h2⟩)
/-! ### .. where those of Z wait for an operation by way of others -/
def waitsT (ops : Array Oper) : Nat → Nat → Nat → Bool
  | 0, _, _ => false
  | fuel + 1, j, i => match ops[j]? with
    | some o => o.after.any fun e => Region.binds .any e && (e.on == i || waitsT ops fuel e.on i)
    | none => false
def waitsLT (ops : Array Oper) (Z : List Nat) (i : Nat) : Bool := Z.all fun j => waitsT ops ops.size j i
/-- What is listed stands on what is listed. -/
def Down (ops : Array Oper) (listed : Array Bool) : Prop := ∀ k o, ops[k]? = some o → listed.getD k true = true → ∀ e ∈ o.after, Region.binds .any e = true → listed.getD e.on true = true
def downB (ops : Array Oper) (listed : Array Bool) : Bool := (List.range ops.size).all fun k => !listed.getD k true || (match ops[k]? with
  | some o => o.after.all fun e => !Region.binds .any e || listed.getD e.on true
  | none => true)
theorem getD_ft {a : Array Bool} {i : Nat} (h : a.getD i false = true) : a.getD i true = true := by
  simp only [Array.getD_eq_getD_getElem?] at h ⊢
  cases h2 : a[i]? with
  | none => rfl
  | some b => rw [h2] at h; simpa using h
theorem downB_spec {ops : Array Oper} {listed : Array Bool} (h : downB ops listed = true) : Down ops listed := by
  intro k o ho hl e he hb
  have hk : k < ops.size := (Array.getElem?_eq_some_iff.1 ho).1
  have h1 := List.all_eq_true.1 h k (List.mem_range.2 hk)
  rw [hl, ho] at h1
  simp only [Bool.not_true, Bool.false_or] at h1
  have h2 := Array.all_eq_true'.1 h1 e he
  rw [hb] at h2
  simpa using h2
theorem Down.set {ops : Array Oper} {listed : Array Bool} {j : Nat} (h : Down ops listed) (hj : j ∈ Region.ready .any ops listed) : Down ops (listed.setIfInBounds j true) := by
  have mono : ∀ k, listed.getD k true = true → (listed.setIfInBounds j true).getD k true = true := by
    intro k hk
    by_cases e : j = k
    · subst e
      simp only [Array.getD_eq_getD_getElem?, Array.getElem?_setIfInBounds]
      by_cases hs : j < listed.size
      · simp [hs]
      · simp [hs]
    · rw [getD_set_ne true e]; exact hk
  intro k o ho hl e he hb
  by_cases hkj : j = k
  · subst hkj
    obtain ⟨_, oj, hoj, hall⟩ := mem_ready.1 hj
    rw [ho] at hoj; injection hoj with hoj; subst hoj
    exact mono _ (getD_ft (hall e he hb))
  · rw [getD_set_ne true hkj] at hl
    exact mono _ (h k o ho hl e he hb)
theorem waitsT_listed {ops : Array Oper} {listed : Array Bool} {i : Nat} (hd : Down ops listed) : ∀ (fuel j : Nat), waitsT ops fuel j i = true → (∀ o, ops[j]? = some o → ∀ e ∈ o.after, Region.binds .any e = true → listed.getD e.on true = true) → listed.getD i true = true
  | 0, _, h, _ => by simp [waitsT] at h
  | fuel + 1, j, h, hj => by
    unfold waitsT at h
    split at h
    · rename_i o ho
      simp only [Array.any_eq_true', Bool.and_eq_true, Bool.or_eq_true, beq_iff_eq] at h
      obtain ⟨e, he, hb, h2⟩ := h
      have hl := hj o ho e he hb
      rcases h2 with rfl | h2
      · exact hl
      · exact waitsT_listed hd fuel e.on h2 fun o' ho' e' he' hb' => hd e.on o' ho' hl e' he' hb'
    · cases h
theorem ready_notZT {ops : Array Oper} {Z : List Nat} {i j : Nat} {listed : Array Bool} (hd : Down ops listed) (hwt : waitsLT ops Z i = true) (hri : i ∈ Region.ready .any ops listed) (hrj : j ∈ Region.ready .any ops listed) : Z.contains j = false := by
  cases hz : Z.contains j with
  | false => rfl
  | true =>
    exfalso
    have h1 := List.all_eq_true.1 hwt j (by simpa using hz)
    obtain ⟨_, oj, hoj, hall⟩ := mem_ready.1 hrj
    have h2 := waitsT_listed hd _ j h1 fun o ho e he hb => by
      rw [hoj] at ho; injection ho with ho; subst ho
      exact getD_ft (hall e he hb)
    have h0 := (mem_ready.1 hri).1
    simp at h0 h2
    rw [h0] at h2; cases h2
theorem wpL_takeT {P : Program} {ops : Array Oper} {Q : Exit → Act → World → Prop} {S : World → Prop} {Z : List Nat} {i : Nat} {oi : Oper} {v : Value} (hi : ops[i]? = some oi) (hsel : Region.noSelect ops = true) (hwt : waitsLT ops Z i = true)
    (hQ : ∀ c a w, Q (.panic c) (a.put oi.dst v) w → Q (.panic c) a w) : ∀ (fuel : Nat) (listed : Array Bool) (a : Act) (w : World), Down ops listed →
      (∀ j oj, ops[j]? = some oj → j ≠ i → listed.getD j true = false → (∀ e ∈ oj.after, Region.binds .any e = true → e.on ≠ i) → oi.apart ops oj = true) →
      i ∈ Region.ready .any ops listed → YieldsIf P ops S oi v a → S w → wpL P ops Q S Z fuel (listed.setIfInBounds i true) (a.put oi.dst v) w → wpL P ops Q S Z (fuel + 1) listed a w := by
  have hs := Region.noSelect_spec hsel
  intro fuel
  induction fuel with
  | zero =>
    intro listed a w _ _ hr hy hS hK
    refine ⟨fun h => absurd hr (by rw [h]; simp), fun j hj => ?_⟩
    by_cases e : j = i
    · subst e; exact hy.wpOp hi hS ⟨fun _ h => h, hK⟩
    · have := ready_mono hj e
      rw [hK.1] at this; cases this
  | succ fuel ih =>
    intro listed a w hd hfree hr hy hS hK
    refine ⟨fun h => absurd hr (by rw [h]; simp), fun j hj => ?_⟩
    by_cases e : j = i
    · subst e; exact hy.wpOp hi hS ⟨fun _ h => h, hK⟩
    · obtain ⟨hun, oj, hoj, _⟩ := mem_ready.1 hj
      have hap := hfree j oj hoj e hun (ready_key hr hj oj hoj)
      refine wpOp_mono (fun a' w' ⟨g1, g2, g3⟩ => ⟨g2, ?_⟩) (wpOp_putIf hoj hap (fun cs b => hs i oi cs b hi) (fun cs b => hs j oj cs b hoj) hQ hy (hK.2 j (ready_mono hj e)))
      refine ih (listed.setIfInBounds j true) a' w' (hd.set hj) (fun k ok hk hki hku hkn => hfree k ok hk hki ?_ hkn) (ready_mono hr (Ne.symm e)) g1 (g2 (ready_notZT hd hwt hr hj) hS) (by rw [Array.setIfInBounds_comm _ _ e]; exact g3)
      by_cases hjk : j = k
      · subst hjk; exact hun
      · rw [getD_set_ne true hjk] at hku; exact hku
theorem DL.takeT {E : Env} {ops : Array Oper} {Z : List Nat} {base : List Res} {k : List It} {fuel : Nat} {listed : Array Bool} {f : Fr} {H : List Res} {i : Nat} {o : Oper} {v : Value} (hi : ops[i]? = some o) (hs : Region.noSelect ops = true) (hwt : waitsLT ops Z i = true) (hf : Region.free .any ops listed i = true) (hr : (Region.ready .any ops listed).contains i = true) (hd : downB ops listed = true)
    (hQ : ∀ c f H, ¬ E.Q (.panic c) f H) (hb : Weak H base) (hw : wantedF ops f o = true) (hy : OpY E o f base v) (h : DL E ops Z base k fuel (listed.setIfInBounds i true) (putF E.n f o.dst v) H) : DL E ops Z base k (fuel + 1) listed f H := by
  intro a w ha hst
  exact wpL_takeT hi hs hwt (fun c a' w' ⟨f', H', _, _, h3⟩ => absurd h3 (cont_panic hQ)) fuel listed a w (downB_spec hd) (Region.free_spec hi hf) (by simpa using hr) (.inl ⟨by rw [wantedF_eq ha]; exact hw, fun w' hw' => by rw [ha.eval]; exact hy w' hw'⟩) (hb _ _ _ hst) (h _ _ (ha.put _ _) hst)
/-! ### The same rules, shorter to write -/
/-- The value, where its head is in sight. -/
def headV : Value → Option Value
  | .int k n => some (.int k n)
  | .bool b => some (.bool b)
  | .slice a n c => some (.slice a n c)
  | .pointer p => some (.pointer p)
  | _ => none
theorem headV_eq {v u : Value} (h : headV v = some u) : v = u := by
  cases v <;> simp only [headV, Option.some.injEq, reduceCtorEq] at h <;> exact h
/-- What an operation that hands a value on yields. -/
def moveF (f : Fr) : Op → Option Value
  | .move x => headV (f.eval x)
  | .assign x => headV (f.eval x)
  | _ => none
theorem moveF_eq {f : Fr} {o : Oper} {v : Value} (h : moveF f o.op = some v) : execOp f.eval o = Sem.pure (.value v) := by
  cases o with
  | mk d op ty pos after gd =>
    cases op <;> simp only [moveF, reduceCtorEq] at h
    all_goals
      have h1 := headV_eq h
      subst h1
      rfl
section
variable {E : Env} {k : List It} {f : Fr} {H : List Res} {ops : Array Oper} {o : Oper} {rest : List Oper} {v : Value}
theorem Run.m (hk : Run E (.ops ops rest :: k) (putF E.n f o.dst v) H) (hw : wantedF ops f o = true := by exact rfl) (h : moveF f o.op = some v := by exact rfl) : Run E (.ops ops (o :: rest) :: k) f H :=
  Run.p v hw (moveF_eq h) hk
theorem Run.w (v : Value) (hk : Run E (.ops ops rest :: k) (putF E.n f o.dst v) H) (hw : wantedF ops f o = true := by exact rfl) (h : execOp f.eval o = Sem.pure (.value v) := by exact rfl) : Run E (.ops ops (o :: rest) :: k) f H :=
  Run.p v hw h hk
theorem Run.u (v : Value) (h : OpY E o f H v) (hk : Run E (.ops ops rest :: k) (putF E.n f o.dst v) H) (hw : wantedF ops f o = true := by exact rfl) : Run E (.ops ops (o :: rest) :: k) f H :=
  Run.y v hw h hk
theorem Lex.m {Q : Fr → Prop} (hk : Lex E ops Q rest (putF E.n f o.dst v) H) (hw : wantedF ops f o = true := by exact rfl) (h : moveF f o.op = some v := by exact rfl) : Lex E ops Q (o :: rest) f H :=
  Lex.q hw (OpQ.y (OpY.pure (moveF_eq h))) hk
theorem Lex.w {Q : Fr → Prop} (v : Value) (hk : Lex E ops Q rest (putF E.n f o.dst v) H) (hw : wantedF ops f o = true := by exact rfl) (h : execOp f.eval o = Sem.pure (.value v) := by exact rfl) : Lex E ops Q (o :: rest) f H :=
  Lex.q hw (OpQ.y (OpY.pure h)) hk
theorem Lex.u {Q : Fr → Prop} (v : Value) (h : OpY E o f H v) (hk : Lex E ops Q rest (putF E.n f o.dst v) H) (hw : wantedF ops f o = true := by exact rfl) : Lex E ops Q (o :: rest) f H :=
  Lex.q hw (OpQ.y h) hk
end
section
variable {E : Env} {ops : Array Oper} {Z : List Nat} {base : List Res} {k : List It} {fuel : Nat} {listed : Array Bool} {f : Fr} {H : List Res} {o : Oper} {v : Value}
theorem DW.t (i : Nat) (hi : ops[i]? = some o) (hb : Weak H base) (v : Value) (hy : OpY E o f base v) (h : DW E ops base k fuel (listed.setIfInBounds i true) (putF E.n f o.dst v) H) (hs : Region.noSelect ops = true := by kernel_rfl) (hf : Region.free .any ops listed i = true := by kernel_rfl) (hr : (Region.ready .any ops listed).contains i = true := by kernel_rfl)
    (hQ : ∀ c f H, ¬ E.Q (.panic c) f H := by exact fun _ _ _ h => h) (hw : wantedF ops f o = true := by exact rfl) : DW E ops base k (fuel + 1) listed f H := DW.take hi hs hf hr hQ hb hw hy h
theorem DW.m (i : Nat) (hi : ops[i]? = some o) (hb : Weak H base) (h : DW E ops base k fuel (listed.setIfInBounds i true) (putF E.n f o.dst v) H) (hs : Region.noSelect ops = true := by kernel_rfl) (hf : Region.free .any ops listed i = true := by kernel_rfl) (hr : (Region.ready .any ops listed).contains i = true := by kernel_rfl)
    (hQ : ∀ c f H, ¬ E.Q (.panic c) f H := by exact fun _ _ _ h => h) (hw : wantedF ops f o = true := by exact rfl) (hm : moveF f o.op = some v := by exact rfl) : DW E ops base k (fuel + 1) listed f H := DW.take hi hs hf hr hQ hb hw (OpY.pure (moveF_eq hm)) h
theorem DW.ps (i : Nat) (hi : ops[i]? = some o) (hb : Weak H base) (h : DW E ops base k fuel (listed.setIfInBounds i true) (putF E.n f o.dst undef) H) (hs : Region.noSelect ops = true := by kernel_rfl) (hf : Region.free .any ops listed i = true := by kernel_rfl) (hr : (Region.ready .any ops listed).contains i = true := by kernel_rfl)
    (hQ : ∀ c f H, ¬ E.Q (.panic c) f H := by exact fun _ _ _ h => h) (hw : wantedF ops f o = false := by exact rfl) : DW E ops base k (fuel + 1) listed f H := DW.pass hi hs hf hr hQ hb hw h
theorem DL.t (i : Nat) (hi : ops[i]? = some o) (hb : Weak H base) (v : Value) (hy : OpY E o f base v) (h : DL E ops Z base k fuel (listed.setIfInBounds i true) (putF E.n f o.dst v) H) (hs : Region.noSelect ops = true := by kernel_rfl) (hwt : waitsL ops Z i = true := by kernel_rfl) (hf : Region.free .any ops listed i = true := by kernel_rfl) (hr : (Region.ready .any ops listed).contains i = true := by kernel_rfl)
    (hQ : ∀ c f H, ¬ E.Q (.panic c) f H := by exact fun _ _ _ h => h) (hw : wantedF ops f o = true := by exact rfl) : DL E ops Z base k (fuel + 1) listed f H := DL.take hi hs hwt hf hr hQ hb hw hy h
theorem DL.tT (i : Nat) (hi : ops[i]? = some o) (hb : Weak H base) (v : Value) (hy : OpY E o f base v) (h : DL E ops Z base k fuel (listed.setIfInBounds i true) (putF E.n f o.dst v) H) (hs : Region.noSelect ops = true := by kernel_rfl) (hwt : waitsLT ops Z i = true := by kernel_rfl) (hf : Region.free .any ops listed i = true := by kernel_rfl) (hr : (Region.ready .any ops listed).contains i = true := by kernel_rfl) (hd : downB ops listed = true := by kernel_rfl)
    (hQ : ∀ c f H, ¬ E.Q (.panic c) f H := by exact fun _ _ _ h => h) (hw : wantedF ops f o = true := by exact rfl) : DL E ops Z base k (fuel + 1) listed f H := DL.takeT hi hs hwt hf hr hd hQ hb hw hy h
theorem DL.tP (i : Nat) (hi : ops[i]? = some o) (v : Value) (hy : ∀ w0, OpY ⟨E.P, E.n, No, w0, E.Q⟩ o f [] v) (h : DL E ops Z base k fuel (listed.setIfInBounds i true) (putF E.n f o.dst v) H) (hs : Region.noSelect ops = true := by kernel_rfl) (hf : Region.free .any ops listed i = true := by kernel_rfl) (hr : (Region.ready .any ops listed).contains i = true := by kernel_rfl)
    (hQ : ∀ c f H, ¬ E.Q (.panic c) f H := by exact fun _ _ _ h => h) (hw : wantedF ops f o = true := by exact rfl) : DL E ops Z base k (fuel + 1) listed f H := DL.takeP hi hs hf hr hQ hw hy h
theorem DL.m (i : Nat) (hi : ops[i]? = some o) (h : DL E ops Z base k fuel (listed.setIfInBounds i true) (putF E.n f o.dst v) H) (hs : Region.noSelect ops = true := by kernel_rfl) (hf : Region.free .any ops listed i = true := by kernel_rfl) (hr : (Region.ready .any ops listed).contains i = true := by kernel_rfl)
    (hQ : ∀ c f H, ¬ E.Q (.panic c) f H := by exact fun _ _ _ h => h) (hw : wantedF ops f o = true := by exact rfl) (hm : moveF f o.op = some v := by exact rfl) : DL E ops Z base k (fuel + 1) listed f H := DL.takeP hi hs hf hr hQ hw (fun _ => OpY.pure (moveF_eq hm)) h
theorem DL.ps (i : Nat) (hi : ops[i]? = some o) (h : DL E ops Z base k fuel (listed.setIfInBounds i true) (putF E.n f o.dst undef) H) (hs : Region.noSelect ops = true := by kernel_rfl) (hf : Region.free .any ops listed i = true := by kernel_rfl) (hr : (Region.ready .any ops listed).contains i = true := by kernel_rfl)
    (hQ : ∀ c f H, ¬ E.Q (.panic c) f H := by exact fun _ _ _ h => h) (hw : wantedF ops f o = false := by exact rfl) : DL E ops Z base k (fuel + 1) listed f H := DL.pass hi hs hf hr hQ hw h
end
end Go.Proofs.Ytnnkoeknejeieaa
