/- Plain laws: searches in breadth. -/
import Derived.Test.YtekikmdjldincaaFind
set_option linter.unusedSimpArgs false
set_option linter.unusedVariables false
namespace Go.Proofs.Ytekikmdjldincaa
open Go Go.RowKit

/-- Lists of one length, by the first place at which they differ. -/
def lexlt : List Nat → List Nat → Prop
  | a :: u, b :: v => a < b ∨ a = b ∧ lexlt u v
  | _, _ => False
def slt (u v : List Nat) : Prop := u.length < v.length ∨ u.length = v.length ∧ lexlt u v
def sle (u v : List Nat) : Prop := slt u v ∨ u = v
theorem lexlt_irrefl : ∀ u, ¬ lexlt u u
  | [] => fun h => h
  | a :: u => fun h => h.elim (fun h => Nat.lt_irrefl _ h) fun h => lexlt_irrefl u h.2
theorem lexlt_trans : ∀ {u v w}, lexlt u v → lexlt v w → lexlt u w
  | a :: u, b :: v, c :: w, h, h' => by
    rcases h with h | ⟨rfl, h⟩ <;> rcases h' with h' | ⟨rfl, h'⟩
    · exact .inl (by omega)
    · exact .inl h
    · exact .inl h'
    · exact .inr ⟨rfl, lexlt_trans h h'⟩
  | [], _, _, h, _ => h.elim
  | _ :: _, [], _, h, _ => h.elim
  | _ :: _, _ :: _, [], _, h => h.elim
theorem lexlt_total : ∀ {u v : List Nat}, u.length = v.length → lexlt u v ∨ u = v ∨ lexlt v u
  | [], [], _ => .inr (.inl rfl)
  | a :: u, b :: v, h => by
    rcases Nat.lt_trichotomy a b with h1 | rfl | h1
    · exact .inl (.inl h1)
    · rcases lexlt_total (u := u) (v := v) (by simpa using h) with h2 | rfl | h2
      · exact .inl (.inr ⟨rfl, h2⟩)
      · exact .inr (.inl rfl)
      · exact .inr (.inr (.inr ⟨rfl, h2⟩))
    · exact .inr (.inr (.inl h1))
theorem lexlt_append : ∀ {u v : List Nat} (x y : List Nat), lexlt u v → lexlt (u ++ x) (v ++ y)
  | a :: u, b :: v, x, y, h => h.elim .inl fun h => .inr ⟨h.1, lexlt_append x y h.2⟩
  | [], _, _, _, h => h.elim
  | _ :: _, [], _, _, h => h.elim
theorem lexlt_left : ∀ (u : List Nat) {x y : List Nat}, lexlt x y → lexlt (u ++ x) (u ++ y)
  | [], _, _, h => h
  | _ :: u, _, _, h => .inr ⟨rfl, lexlt_left u h⟩
theorem slt_irrefl (u : List Nat) : ¬ slt u u := fun h => h.elim (Nat.lt_irrefl _) fun h => lexlt_irrefl u h.2
theorem slt_trans {u v w : List Nat} (h : slt u v) (h' : slt v w) : slt u w := by
  rcases h with h | ⟨h1, h2⟩ <;> rcases h' with h' | ⟨h3, h4⟩
  · exact .inl (by omega)
  · exact .inl (by omega)
  · exact .inl (by omega)
  · exact .inr ⟨by omega, lexlt_trans h2 h4⟩
theorem slt_total (u v : List Nat) : slt u v ∨ u = v ∨ slt v u := by
  rcases Nat.lt_trichotomy u.length v.length with h | h | h
  · exact .inl (.inl h)
  · rcases lexlt_total h with h1 | h1 | h1
    · exact .inl (.inr ⟨h, h1⟩)
    · exact .inr (.inl h1)
    · exact .inr (.inr (.inr ⟨h.symm, h1⟩))
  · exact .inr (.inr (.inl h))
theorem sle_refl (u : List Nat) : sle u u := .inr rfl
theorem sle_trans {u v w : List Nat} (h : sle u v) (h' : sle v w) : sle u w := by
  rcases h with h | rfl
  · rcases h' with h' | rfl
    · exact .inl (slt_trans h h')
    · exact .inl h
  · exact h'
theorem sle_antisymm {u v : List Nat} (h : sle u v) (h' : sle v u) : u = v := by
  rcases h with h | rfl
  · rcases h' with h' | rfl
    · exact absurd (slt_trans h h') (slt_irrefl u)
    · rfl
  · rfl
theorem sle_len {u v : List Nat} (h : sle u v) : u.length ≤ v.length := by
  rcases h with (h | h) | rfl <;> omega
theorem slt_snoc {u v : List Nat} (a b : Nat) (h : slt u v) : slt (u ++ [a]) (v ++ [b]) := by
  rcases h with h | ⟨h1, h2⟩
  · exact .inl (by simp; exact h)
  · exact .inr ⟨by simp [h1], lexlt_append _ _ h2⟩
theorem slt_last (u : List Nat) {a b : Nat} (h : a < b) : slt (u ++ [a]) (u ++ [b]) := .inr ⟨by simp, lexlt_left u (.inl h)⟩
theorem sle_snoc {u v : List Nat} (a : Nat) (h : sle u v) : sle (u ++ [a]) (v ++ [a]) := by
  rcases h with h | rfl
  · exact .inl (slt_snoc a a h)
  · exact sle_refl _
theorem slt_cons {u v : List Nat} (a : Nat) : slt (a :: u) (a :: v) ↔ slt u v := by
  constructor
  · rintro (h | ⟨h1, h2⟩)
    · exact .inl (by simpa using h)
    · refine .inr ⟨by simpa using h1, ?_⟩
      exact h2.elim (fun h => absurd h (Nat.lt_irrefl _)) fun h => h.2
  · rintro (h | ⟨h1, h2⟩)
    · exact .inl (by simpa using h)
    · exact .inr ⟨by simpa using h1, .inr ⟨rfl, h2⟩⟩
theorem slt_head {u v : List Nat} {a b : Nat} (hl : u.length = v.length) (h : a < b) : slt (a :: u) (b :: v) := .inr ⟨by simp [hl], .inl h⟩

section
variable {K : Type} (step : K → Nat → K) (ok : Nat → Bool) (E : Nat) (s : K)
def bev (w : List Nat) : K := w.foldl step s
theorem bev_snoc (w : List Nat) (e : Nat) : bev step s (w ++ [e]) = step (bev step s w) e := by simp [bev, List.foldl_append]
/-- Words of edges. -/
def BW (w : List Nat) : Prop := ∀ e ∈ w, e < E ∧ ok e = true
/-- The queue behind the nodes before i and the edges below e of node i. -/
structure BI (i e : Nat) (q : List (K × List Nat)) : Prop where
  first : q[0]? = some (s, [])
  nd : (q.map (·.1)).Nodup
  ev : ∀ y ∈ q, bev step s y.2 = y.1
  okw : ∀ y ∈ q, BW ok E y.2
  srt : q.Pairwise fun a b => slt a.2 b.2
  form : ∀ y ∈ q, y.2 = [] ∨ ∃ (m e' : Nat) (z : K × List Nat), q[m]? = some z ∧ y.2 = z.2 ++ [e'] ∧ (m < i ∨ m = i ∧ e' < e)
  clo : ∀ (m : Nat) (z : K × List Nat), q[m]? = some z → ∀ e', e' < E → ok e' = true → (m < i ∨ m = i ∧ e' < e) → ∃ y ∈ q, y.1 = step z.1 e' ∧ sle y.2 (z.2 ++ [e'])
variable {step ok E s}
theorem BI.start : BI step ok E s 0 0 [(s, [])] :=
  ⟨rfl, by simp, by simp [bev], by simp [BW], by simp, by simp, fun m z hz e' _ _ h => by omega⟩
theorem pw_get {α : Type} {R : α → α → Prop} : ∀ {l : List α} {i j : Nat} {a b : α}, l.Pairwise R → i < j → l[i]? = some a → l[j]? = some b → R a b := by
  intro l i j a b h hij ha hb
  obtain ⟨hi, ea⟩ := List.getElem?_eq_some_iff.1 ha
  obtain ⟨hj, eb⟩ := List.getElem?_eq_some_iff.1 hb
  rw [← ea, ← eb]
  exact List.pairwise_iff_getElem.1 h i j hi hj hij
/-- Whatever is in the queue stands before a new path. -/
theorem BI.below {i e : Nat} {q : List (K × List Nat)} (h : BI step ok E s i e q) {x : K × List Nat} (hx : q[i]? = some x) : ∀ y ∈ q, slt y.2 (x.2 ++ [e]) := by
  intro y hy
  rcases h.form y hy with h1 | ⟨m, e', z, hz, h1, h2⟩
  · rw [h1]; exact .inl (by simp)
  · rw [h1]
    rcases h2 with h2 | ⟨rfl, h2⟩
    · exact slt_snoc _ _ (pw_get (R := fun a b : K × List Nat => slt a.2 b.2) h.srt h2 hz hx)
    · have : z = x := by rw [hz] at hx; exact Option.some.inj hx
      rw [this]; exact slt_last _ h2
theorem BI.next {i : Nat} {q : List (K × List Nat)} (h : BI step ok E s i E q) : BI step ok E s (i + 1) 0 q :=
  ⟨h.first, h.nd, h.ev, h.okw, h.srt, fun y hy => by
    rcases h.form y hy with h1 | ⟨m, e', z, hz, h1, h2⟩
    · exact .inl h1
    · exact .inr ⟨m, e', z, hz, h1, by omega⟩, fun m z hz e' he' hok hm => h.clo m z hz e' he' hok (by omega)⟩
end
section
variable {K : Type} [DecidableEq K] (step : K → Nat → K) (ok : Nat → Bool) (E : Nat) (s : K)
/-- One edge from the node x. -/
def bvis (x : K × List Nat) (q : List (K × List Nat)) (e : Nat) : List (K × List Nat) :=
  if ok e = true ∧ step x.1 e ∉ q.map (·.1) then q ++ [(step x.1 e, x.2 ++ [e])] else q
/-- The edges below e from the node x. -/
def brow (x : K × List Nat) (q : List (K × List Nat)) : Nat → List (K × List Nat)
  | 0 => q
  | e + 1 => bvis step ok x (brow x q e) e
/-- The queue behind the first i nodes. -/
def bfs : Nat → List (K × List Nat)
  | 0 => [(s, [])]
  | i + 1 => match (bfs i)[i]? with
    | some x => brow step ok x (bfs i) E
    | none => bfs i
variable {step ok E s}
theorem BI.vis {i e : Nat} {q : List (K × List Nat)} (h : BI step ok E s i e q) {x : K × List Nat} (hx : q[i]? = some x) (he : e < E) : BI step ok E s i (e + 1) (bvis step ok x q e) := by
  have hil : i < q.length := (List.getElem?_eq_some_iff.1 hx).1
  have hb := h.below hx
  have hxm : x ∈ q := List.mem_of_getElem? hx
  unfold bvis
  split
  · rename_i hc
    have hg : ∀ m z, q[m]? = some z → (q ++ [(step x.1 e, x.2 ++ [e])])[m]? = some z := fun m z hz => by
      rw [List.getElem?_append_left (List.getElem?_eq_some_iff.1 hz).1]; exact hz
    refine ⟨hg 0 _ h.first, ?_, fun y hy => ?_, fun y hy => ?_, ?_, fun y hy => ?_, fun m z hz e' he' hok hm => ?_⟩
    · rw [List.map_append, List.nodup_append]
      refine ⟨h.nd, by simp, fun a ha b hb' => ?_⟩
      simp only [List.map_cons, List.map_nil, List.mem_singleton] at hb'
      subst hb'
      intro e2; subst e2; exact hc.2 ha
    · rcases List.mem_append.1 hy with hy | hy
      · exact h.ev y hy
      · simp only [List.mem_singleton] at hy; subst hy
        rw [bev_snoc, h.ev x hxm]
    · rcases List.mem_append.1 hy with hy | hy
      · exact h.okw y hy
      · simp only [List.mem_singleton] at hy; subst hy
        intro e2 he2
        rcases List.mem_append.1 he2 with he2 | he2
        · exact h.okw x hxm e2 he2
        · simp only [List.mem_singleton] at he2; subst he2; exact ⟨he, hc.1⟩
    · refine List.pairwise_append.2 ⟨h.srt, by simp, fun a ha b hb' => ?_⟩
      simp only [List.mem_singleton] at hb'; subst hb'
      exact hb a ha
    · rcases List.mem_append.1 hy with hy | hy
      · rcases h.form y hy with h1 | ⟨m, e', z, hz, h1, h2⟩
        · exact .inl h1
        · exact .inr ⟨m, e', z, hg m z hz, h1, by omega⟩
      · simp only [List.mem_singleton] at hy; subst hy
        exact .inr ⟨i, e, x, hg i x hx, rfl, .inr ⟨rfl, by omega⟩⟩
    · by_cases hml : m < q.length
      · rw [List.getElem?_append_left hml] at hz
        by_cases hnew : m = i ∧ e' = e
        · obtain ⟨rfl, rfl⟩ := hnew
          have : z = x := by rw [hz] at hx; exact Option.some.inj hx
          subst this
          exact ⟨_, List.mem_append.2 (.inr (List.mem_singleton.2 rfl)), rfl, sle_refl _⟩
        · obtain ⟨y, hy, h1, h2⟩ := h.clo m z hz e' he' hok (by omega)
          exact ⟨y, List.mem_append.2 (.inl hy), h1, h2⟩
      · exfalso; omega
  · rename_i hc
    refine ⟨h.first, h.nd, h.ev, h.okw, h.srt, fun y hy => ?_, fun m z hz e' he' hok hm => ?_⟩
    · rcases h.form y hy with h1 | ⟨m, e', z, hz, h1, h2⟩
      · exact .inl h1
      · exact .inr ⟨m, e', z, hz, h1, by omega⟩
    · by_cases hnew : m = i ∧ e' = e
      · obtain ⟨rfl, rfl⟩ := hnew
        have : z = x := by rw [hz] at hx; exact Option.some.inj hx
        subst this
        have hin : step z.1 e' ∈ q.map (·.1) := Classical.byContradiction fun hn => hc ⟨hok, hn⟩
        obtain ⟨y, hy, h1⟩ := List.mem_map.1 hin
        exact ⟨y, hy, h1, .inl (hb y hy)⟩
      · exact h.clo m z hz e' he' hok (by omega)
theorem bvis_pre (x : K × List Nat) (q : List (K × List Nat)) (e : Nat) : ∃ t, bvis step ok x q e = q ++ t := by
  unfold bvis; split
  · exact ⟨_, rfl⟩
  · exact ⟨[], by simp⟩
theorem brow_pre (x : K × List Nat) (q : List (K × List Nat)) : ∀ e, ∃ t, brow step ok x q e = q ++ t
  | 0 => ⟨[], by simp [brow]⟩
  | e + 1 => by
    obtain ⟨t, ht⟩ := brow_pre x q e
    obtain ⟨u, hu⟩ := bvis_pre (step := step) (ok := ok) x (brow step ok x q e) e
    exact ⟨t ++ u, by rw [brow, hu, ht, List.append_assoc]⟩
theorem BI.row {i : Nat} {q : List (K × List Nat)} (h : BI step ok E s i 0 q) {x : K × List Nat} (hx : q[i]? = some x) : ∀ e, e ≤ E → BI step ok E s i e (brow step ok x q e)
  | 0, _ => h
  | e + 1, he => by
    have ih := h.row hx e (by omega)
    obtain ⟨t, ht⟩ := brow_pre (step := step) (ok := ok) x q e
    exact ih.vis (by rw [ht, List.getElem?_append_left (List.getElem?_eq_some_iff.1 hx).1]; exact hx) (by omega)
theorem bfs_inv : ∀ i, BI step ok E s i 0 (bfs step ok E s i)
  | 0 => BI.start
  | i + 1 => by
    have ih := bfs_inv i
    rw [bfs]
    split
    · rename_i x hx
      exact (ih.row hx E (Nat.le_refl _)).next
    · rename_i hx
      have hlen : (bfs step ok E s i).length ≤ i := List.getElem?_eq_none_iff.1 hx
      refine ⟨ih.first, ih.nd, ih.ev, ih.okw, ih.srt, fun y hy => ?_, fun m z hz e' he' hok hm => ih.clo m z hz e' he' hok ?_⟩
      · rcases ih.form y hy with h1 | ⟨m, e', z, hz, h1, h2⟩
        · exact .inl h1
        · exact .inr ⟨m, e', z, hz, h1, by omega⟩
      · have := (List.getElem?_eq_some_iff.1 hz).1; omega
theorem bfs_pre : ∀ d i, ∃ t, bfs step ok E s (i + d) = bfs step ok E s i ++ t
  | 0, i => ⟨[], by simp⟩
  | d + 1, i => by
    obtain ⟨t, ht⟩ := bfs_pre d i
    rw [← Nat.add_assoc, bfs]
    split
    · rename_i x hx
      obtain ⟨u, hu⟩ := brow_pre (step := step) (ok := ok) x (bfs step ok E s (i + d)) E
      exact ⟨t ++ u, by rw [hu, ht, List.append_assoc]⟩
    · exact ⟨t, ht⟩
theorem bfs_le {i j : Nat} (h : i ≤ j) : ∃ t, bfs step ok E s j = bfs step ok E s i ++ t := by
  obtain ⟨t, ht⟩ := bfs_pre (step := step) (ok := ok) (E := E) (s := s) (j - i) i
  rw [show i + (j - i) = j by omega] at ht
  exact ⟨t, ht⟩
/-- Nothing is left to do: every word leads to a node of the queue, whose path stands not behind the word. -/
theorem bfs_min {i : Nat} (hi : (bfs step ok E s i).length ≤ i) (w : List Nat) (hw : BW ok E w) : ∃ y ∈ bfs step ok E s i, y.1 = bev step s w ∧ sle y.2 w := by
  have key : ∀ (n : Nat) (w : List Nat), w.length = n → BW ok E w → ∃ y ∈ bfs step ok E s i, y.1 = bev step s w ∧ sle y.2 w := by
    intro n
    induction n with
    | zero =>
      intro w hl _
      have : w = [] := List.length_eq_zero_iff.1 hl
      subst this
      exact ⟨(s, []), List.mem_of_getElem? (bfs_inv i).first, rfl, sle_refl _⟩
    | succ n ih =>
      intro w hl hw
      rcases List.eq_nil_or_concat w with rfl | ⟨w', e, rfl⟩
      · simp at hl
      · rw [List.concat_eq_append] at *
        obtain ⟨z, hz, h1, h2⟩ := ih w' (by simpa using hl) fun e he => hw e (List.mem_append.2 (.inl he))
        obtain ⟨m, hm, hzm⟩ := List.getElem_of_mem hz
        have he := hw e (by simp)
        obtain ⟨y, hy, h3, h4⟩ := (bfs_inv i).clo m z (by rw [List.getElem?_eq_getElem hm, hzm]) e he.1 he.2 (.inl (by omega))
        exact ⟨y, hy, by rw [h3, h1, bev_snoc], sle_trans h4 (sle_snoc e h2)⟩
  exact key w.length w rfl hw
/-- A key has one entry. -/
theorem bfs_one {i : Nat} {y z : K × List Nat} (hy : y ∈ bfs step ok E s i) (hz : z ∈ bfs step ok E s i) (h : y.1 = z.1) : y = z := by
  obtain ⟨a, ha, rfl⟩ := List.getElem_of_mem hy
  obtain ⟨b, hb, rfl⟩ := List.getElem_of_mem hz
  have hn := (bfs_inv (step := step) (ok := ok) (E := E) (s := s) i).nd
  rcases Nat.lt_trichotomy a b with h1 | rfl | h1
  · exact absurd (by rw [List.getElem_map, List.getElem_map]; exact h) (List.pairwise_iff_getElem.1 hn a b (by simpa using ha) (by simpa using hb) h1)
  · rfl
  · exact absurd (by rw [List.getElem_map, List.getElem_map]; exact h.symm) (List.pairwise_iff_getElem.1 hn b a (by simpa using hb) (by simpa using ha) h1)
theorem bvis_inv {p : K → Prop} (hp : ∀ k e, p k → e < E → ok e = true → p (step k e)) {x : K × List Nat} {q : List (K × List Nat)} {e : Nat} (he : e < E) (hx : p x.1) (hq : ∀ y ∈ q, p y.1) : ∀ y ∈ bvis step ok x q e, p y.1 := by
  unfold bvis; split
  · rename_i hc
    intro y hy
    rcases List.mem_append.1 hy with hy | hy
    · exact hq y hy
    · simp only [List.mem_singleton] at hy; subst hy; exact hp _ _ hx he hc.1
  · exact hq
theorem bfs_keys {p : K → Prop} (hp : ∀ k e, p k → e < E → ok e = true → p (step k e)) (h0 : p s) (i : Nat) : ∀ y ∈ bfs step ok E s i, p y.1 := by
  intro y hy
  have h1 := (bfs_inv (step := step) (ok := ok) (E := E) (s := s) i).ev y hy
  have h2 := (bfs_inv (step := step) (ok := ok) (E := E) (s := s) i).okw y hy
  rw [← h1]
  have key : ∀ (w : List Nat) (k : K), p k → BW ok E w → p (w.foldl step k) := by
    intro w
    induction w with
    | nil => intro k hk _; exact hk
    | cons e w ih =>
      intro k hk hw
      have he := hw e (by simp)
      exact ih _ (hp k e hk he.1 he.2) fun e' he' => hw e' (by simp [he'])
  exact key _ _ h0 h2
end
/-- Different numbers below M are at most M. -/
theorem nodup_le : ∀ {M : Nat} {l : List Nat}, l.Nodup → (∀ x ∈ l, x < M) → l.length ≤ M
  | 0, l, _, h => by
    cases l with
    | nil => simp
    | cons x l => have := h x (by simp); omega
  | M + 1, l, hn, h => by
    by_cases hm : M ∈ l
    · have h1 := nodup_le (M := M) (hn.erase M) fun x hx => by
        have h2 := h x (List.mem_of_mem_erase hx)
        have h3 : x ≠ M := fun e => by subst e; exact (List.Nodup.not_mem_erase hn) hx
        omega
      rw [List.length_erase_of_mem hm] at h1
      omega
    · have := nodup_le (M := M) hn fun x hx => by
        have h2 := h x hx
        have h3 : x ≠ M := fun e => by subst e; exact hm hx
        omega
      omega
/-- The queue stays small: its keys have different codes. -/
theorem bfs_small {K : Type} [DecidableEq K] {step : K → Nat → K} {ok : Nat → Bool} {E : Nat} {s : K} {p : K → Prop} {code : K → Nat} {M : Nat} (hp : ∀ k e, p k → e < E → ok e = true → p (step k e)) (h0 : p s)
    (hc : ∀ k, p k → code k < M) (hinj : ∀ k k', p k → p k' → code k = code k' → k = k') (i : Nat) : (bfs step ok E s i).length ≤ M := by
  have hk := bfs_keys (step := step) (ok := ok) (E := E) (s := s) hp h0 i
  have hn := (bfs_inv (step := step) (ok := ok) (E := E) (s := s) i).nd
  have h1 : ((bfs step ok E s i).map fun y => code y.1).Nodup := by
    rw [show (bfs step ok E s i).map (fun y => code y.1) = ((bfs step ok E s i).map (·.1)).map code by simp [Function.comp_def]]
    refine List.pairwise_map.2 (hn.imp_of_mem fun {a b} ha hb hne e => hne ?_)
    obtain ⟨y, hy, rfl⟩ := List.mem_map.1 ha
    obtain ⟨z, hz, rfl⟩ := List.mem_map.1 hb
    exact hinj _ _ (hk y hy) (hk z hz) e
  have := nodup_le h1 fun x hx => by
    obtain ⟨y, hy, rfl⟩ := List.mem_map.1 hx
    exact hc _ (hk y hy)
  simpa using this

end Go.Proofs.Ytekikmdjldincaa
