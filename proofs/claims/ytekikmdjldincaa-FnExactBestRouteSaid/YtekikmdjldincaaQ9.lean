/- Plain laws: searches in breadth. -/
import Derived.Test.YtekikmdjldincaaQ3
import Derived.Test.YtekikmdjldincaaQ8
import Derived.Test.YtekikmdjldincaaProg
import Derived.Test.YtekikmdjldincaaQ2
import Derived.DeepKeys4
import Derived.Maps.Keyed
import Derived.Test.YtekikmdjldincaaQ7
set_option linter.unusedSimpArgs false
set_option linter.unusedVariables false
namespace Go.Proofs.Ytekikmdjldincaa
open Go Go.RowKit
/-- Lists of one length, by the first place at which they differ. -/
def lexlt : List Nat → List Nat → Prop
  | a :: u, b :: v => a < b ∨ a = b ∧ lexlt u v
  | _, _ => False
def slt (u v : List Nat) : Prop := u.length < v.length ∨ u.length = v.length ∧ lexlt u v
def sle (u v : List Nat) : Prop := slt u v ∨ u = v
theorem lexlt_irrefl : ∀ u, ¬ lexlt u u
  | [] => fun h => h
  | a :: u => fun h => h.elim (fun h => Nat.lt_irrefl _ h) fun h => lexlt_irrefl u h.2
theorem lexlt_trans : ∀ {u v w}, lexlt u v → lexlt v w → lexlt u w
  | a :: u, b :: v, c :: w, h, h' => by
    rcases h with h | ⟨rfl, h⟩ <;> rcases h' with h' | ⟨rfl, h'⟩
    · exact .inl (by omega)
    · exact .inl h
    · exact .inl h'
    · exact .inr ⟨rfl, lexlt_trans h h'⟩
  | [], _, _, h, _ => h.elim
  | _ :: _, [], _, h, _ => h.elim
  | _ :: _, _ :: _, [], _, h => h.elim
theorem lexlt_append : ∀ {u v : List Nat} (x y : List Nat), lexlt u v → lexlt (u ++ x) (v ++ y)
  | a :: u, b :: v, x, y, h => h.elim .inl fun h => .inr ⟨h.1, lexlt_append x y h.2⟩
  | [], _, _, _, h => h.elim
  | _ :: _, [], _, _, h => h.elim
theorem lexlt_left : ∀ (u : List Nat) {x y : List Nat}, lexlt x y → lexlt (u ++ x) (u ++ y)
  | [], _, _, h => h
  | _ :: u, _, _, h => .inr ⟨rfl, lexlt_left u h⟩
theorem slt_irrefl (u : List Nat) : ¬ slt u u := fun h => h.elim (Nat.lt_irrefl _) fun h => lexlt_irrefl u h.2
theorem slt_trans {u v w : List Nat} (h : slt u v) (h' : slt v w) : slt u w := by
  rcases h with h | ⟨h1, h2⟩ <;> rcases h' with h' | ⟨h3, h4⟩
  · exact .inl (by omega)
  · exact .inl (by omega)
  · exact .inl (by omega)
  · exact .inr ⟨by omega, lexlt_trans h2 h4⟩
theorem sle_refl (u : List Nat) : sle u u := .inr rfl
theorem sle_trans {u v w : List Nat} (h : sle u v) (h' : sle v w) : sle u w := by
  rcases h with h | rfl
  · rcases h' with h' | rfl
    · exact .inl (slt_trans h h')
    · exact .inl h
  · exact h'
theorem sle_antisymm {u v : List Nat} (h : sle u v) (h' : sle v u) : u = v := by
  rcases h with h | rfl
  · rcases h' with h' | rfl
    · exact absurd (slt_trans h h') (slt_irrefl u)
    · rfl
  · rfl
theorem sle_len {u v : List Nat} (h : sle u v) : u.length ≤ v.length := by
  rcases h with (h | h) | rfl <;> omega
theorem slt_snoc {u v : List Nat} (a b : Nat) (h : slt u v) : slt (u ++ [a]) (v ++ [b]) := by
  rcases h with h | ⟨h1, h2⟩
  · exact .inl (by simp; exact h)
  · exact .inr ⟨by simp [h1], lexlt_append _ _ h2⟩
theorem slt_last (u : List Nat) {a b : Nat} (h : a < b) : slt (u ++ [a]) (u ++ [b]) := .inr ⟨by simp, lexlt_left u (.inl h)⟩
theorem sle_snoc {u v : List Nat} (a : Nat) (h : sle u v) : sle (u ++ [a]) (v ++ [a]) := by
  rcases h with h | rfl
  · exact .inl (slt_snoc a a h)
  · exact sle_refl _
theorem slt_cons {u v : List Nat} (a : Nat) : slt (a :: u) (a :: v) ↔ slt u v := by
  constructor
  · rintro (h | ⟨h1, h2⟩)
    · exact .inl (by simpa using h)
    · refine .inr ⟨by simpa using h1, ?_⟩
      exact h2.elim (fun h => absurd h (Nat.lt_irrefl _)) fun h => h.2
  · rintro (h | ⟨h1, h2⟩)
    · exact .inl (by simpa using h)
    · exact .inr ⟨by simpa using h1, .inr ⟨rfl, h2⟩⟩
theorem slt_head {u v : List Nat} {a b : Nat} (hl : u.length = v.length) (h : a < b) : slt (a :: u) (b :: v) := .inr ⟨by simp [hl], .inl h⟩

section
variable {K : Type} (step : K → Nat → K) (ok : Nat → Bool) (E : Nat) (s : K)
def bev (w : List Nat) : K := w.foldl step s
theorem bev_snoc (w : List Nat) (e : Nat) : bev step s (w ++ [e]) = step (bev step s w) e := by simp [bev, List.foldl_append]
/-- Words of edges. -/
def BW (w : List Nat) : Prop := ∀ e ∈ w, e < E ∧ ok e = true
/-- The queue behind the nodes before i and the edges below e of node i. -/
structure BI (i e : Nat) (q : List (K × List Nat)) : Prop where
  first : q[0]? = some (s, [])
  nd : (q.map (·.1)).Nodup
  ev : ∀ y ∈ q, bev step s y.2 = y.1
  okw : ∀ y ∈ q, BW ok E y.2
  srt : q.Pairwise fun a b => slt a.2 b.2
  form : ∀ y ∈ q, y.2 = [] ∨ ∃ (m e' : Nat) (z : K × List Nat), q[m]? = some z ∧ y.2 = z.2 ++ [e'] ∧ (m < i ∨ m = i ∧ e' < e)
  clo : ∀ (m : Nat) (z : K × List Nat), q[m]? = some z → ∀ e', e' < E → ok e' = true → (m < i ∨ m = i ∧ e' < e) → ∃ y ∈ q, y.1 = step z.1 e' ∧ sle y.2 (z.2 ++ [e'])
variable {step ok E s}
theorem BI.start : BI step ok E s 0 0 [(s, [])] :=
  ⟨rfl, by simp, by simp [bev], by simp [BW], by simp, by simp, fun m z hz e' _ _ h => by omega⟩
theorem pw_get {α : Type} {R : α → α → Prop} : ∀ {l : List α} {i j : Nat} {a b : α}, l.Pairwise R → i < j → l[i]? = some a → l[j]? = some b → R a b := by
  intro l i j a b h hij ha hb
  obtain ⟨hi, ea⟩ := List.getElem?_eq_some_iff.1 ha
  obtain ⟨hj, eb⟩ := List.getElem?_eq_some_iff.1 hb
  rw [← ea, ← eb]
  exact List.pairwise_iff_getElem.1 h i j hi hj hij
/-- Whatever is in the queue stands before a new path. -/
theorem BI.below {i e : Nat} {q : List (K × List Nat)} (h : BI step ok E s i e q) {x : K × List Nat} (hx : q[i]? = some x) : ∀ y ∈ q, slt y.2 (x.2 ++ [e]) := by
  intro y hy
  rcases h.form y hy with h1 | ⟨m, e', z, hz, h1, h2⟩
  · rw [h1]; exact .inl (by simp)
  · rw [h1]
    rcases h2 with h2 | ⟨rfl, h2⟩
    · exact slt_snoc _ _ (pw_get (R := fun a b : K × List Nat => slt a.2 b.2) h.srt h2 hz hx)
    · have : z = x := by rw [hz] at hx; exact Option.some.inj hx
      rw [this]; exact slt_last _ h2
theorem BI.next {i : Nat} {q : List (K × List Nat)} (h : BI step ok E s i E q) : BI step ok E s (i + 1) 0 q :=
  ⟨h.first, h.nd, h.ev, h.okw, h.srt, fun y hy => by
    rcases h.form y hy with h1 | ⟨m, e', z, hz, h1, h2⟩
    · exact .inl h1
    · exact .inr ⟨m, e', z, hz, h1, by omega⟩, fun m z hz e' he' hok hm => h.clo m z hz e' he' hok (by omega)⟩
end
section
variable {K : Type} [DecidableEq K] (step : K → Nat → K) (ok : Nat → Bool) (E : Nat) (s : K)
/-- One edge from the node x. -/
def bvis (x : K × List Nat) (q : List (K × List Nat)) (e : Nat) : List (K × List Nat) :=
  if ok e = true ∧ step x.1 e ∉ q.map (·.1) then q ++ [(step x.1 e, x.2 ++ [e])] else q
/-- The edges below e from the node x. -/
def brow (x : K × List Nat) (q : List (K × List Nat)) : Nat → List (K × List Nat)
  | 0 => q
  | e + 1 => bvis step ok x (brow x q e) e
/-- The queue behind the first i nodes. -/
def bfs : Nat → List (K × List Nat)
  | 0 => [(s, [])]
  | i + 1 => match (bfs i)[i]? with
    | some x => brow step ok x (bfs i) E
    | none => bfs i
variable {step ok E s}
theorem BI.vis {i e : Nat} {q : List (K × List Nat)} (h : BI step ok E s i e q) {x : K × List Nat} (hx : q[i]? = some x) (he : e < E) : BI step ok E s i (e + 1) (bvis step ok x q e) := by
  have hil : i < q.length := (List.getElem?_eq_some_iff.1 hx).1
  have hb := h.below hx
  have hxm : x ∈ q := List.mem_of_getElem? hx
  unfold bvis
  split
  · rename_i hc
    have hg : ∀ m z, q[m]? = some z → (q ++ [(step x.1 e, x.2 ++ [e])])[m]? = some z := fun m z hz => by
      rw [List.getElem?_append_left (List.getElem?_eq_some_iff.1 hz).1]; exact hz
    refine ⟨hg 0 _ h.first, ?_, fun y hy => ?_, fun y hy => ?_, ?_, fun y hy => ?_, fun m z hz e' he' hok hm => ?_⟩
    · rw [List.map_append, List.nodup_append]
      refine ⟨h.nd, by simp, fun a ha b hb' => ?_⟩
      simp only [List.map_cons, List.map_nil, List.mem_singleton] at hb'
      subst hb'
      intro e2; subst e2; exact hc.2 ha
    · rcases List.mem_append.1 hy with hy | hy
      · exact h.ev y hy
      · simp only [List.mem_singleton] at hy; subst hy
        rw [bev_snoc, h.ev x hxm]
    · rcases List.mem_append.1 hy with hy | hy
      · exact h.okw y hy
      · simp only [List.mem_singleton] at hy; subst hy
        intro e2 he2
        rcases List.mem_append.1 he2 with he2 | he2
        · exact h.okw x hxm e2 he2
        · simp only [List.mem_singleton] at he2; subst he2; exact ⟨he, hc.1⟩
    · refine List.pairwise_append.2 ⟨h.srt, by simp, fun a ha b hb' => ?_⟩
      simp only [List.mem_singleton] at hb'; subst hb'
      exact hb a ha
    · rcases List.mem_append.1 hy with hy | hy
      · rcases h.form y hy with h1 | ⟨m, e', z, hz, h1, h2⟩
        · exact .inl h1
        · exact .inr ⟨m, e', z, hg m z hz, h1, by omega⟩
      · simp only [List.mem_singleton] at hy; subst hy
        exact .inr ⟨i, e, x, hg i x hx, rfl, .inr ⟨rfl, by omega⟩⟩
    · by_cases hml : m < q.length
      · rw [List.getElem?_append_left hml] at hz
        by_cases hnew : m = i ∧ e' = e
        · obtain ⟨rfl, rfl⟩ := hnew
          have : z = x := by rw [hz] at hx; exact Option.some.inj hx
          subst this
          exact ⟨_, List.mem_append.2 (.inr (List.mem_singleton.2 rfl)), rfl, sle_refl _⟩
        · obtain ⟨y, hy, h1, h2⟩ := h.clo m z hz e' he' hok (by omega)
          exact ⟨y, List.mem_append.2 (.inl hy), h1, h2⟩
      · exfalso; omega
  · rename_i hc
    refine ⟨h.first, h.nd, h.ev, h.okw, h.srt, fun y hy => ?_, fun m z hz e' he' hok hm => ?_⟩
    · rcases h.form y hy with h1 | ⟨m, e', z, hz, h1, h2⟩
      · exact .inl h1
      · exact .inr ⟨m, e', z, hz, h1, by omega⟩
    · by_cases hnew : m = i ∧ e' = e
      · obtain ⟨rfl, rfl⟩ := hnew
        have : z = x := by rw [hz] at hx; exact Option.some.inj hx
        subst this
        have hin : step z.1 e' ∈ q.map (·.1) := Classical.byContradiction fun hn => hc ⟨hok, hn⟩
        obtain ⟨y, hy, h1⟩ := List.mem_map.1 hin
        exact ⟨y, hy, h1, .inl (hb y hy)⟩
      · exact h.clo m z hz e' he' hok (by omega)
theorem bvis_pre (x : K × List Nat) (q : List (K × List Nat)) (e : Nat) : ∃ t, bvis step ok x q e = q ++ t := by
  unfold bvis; split
  · exact ⟨_, rfl⟩
  · exact ⟨[], by simp⟩
theorem brow_pre (x : K × List Nat) (q : List (K × List Nat)) : ∀ e, ∃ t, brow step ok x q e = q ++ t
  | 0 => ⟨[], by simp [brow]⟩
  | e + 1 => by
    obtain ⟨t, ht⟩ := brow_pre x q e
    obtain ⟨u, hu⟩ := bvis_pre (step := step) (ok := ok) x (brow step ok x q e) e
    exact ⟨t ++ u, by rw [brow, hu, ht, List.append_assoc]⟩
theorem BI.row {i : Nat} {q : List (K × List Nat)} (h : BI step ok E s i 0 q) {x : K × List Nat} (hx : q[i]? = some x) : ∀ e, e ≤ E → BI step ok E s i e (brow step ok x q e)
  | 0, _ => h
  | e + 1, he => by
    have ih := h.row hx e (by omega)
    obtain ⟨t, ht⟩ := brow_pre (step := step) (ok := ok) x q e
    exact ih.vis (by rw [ht, List.getElem?_append_left (List.getElem?_eq_some_iff.1 hx).1]; exact hx) (by omega)
theorem bfs_inv : ∀ i, BI step ok E s i 0 (bfs step ok E s i)
  | 0 => BI.start
  | i + 1 => by
    have ih := bfs_inv i
    rw [bfs]
    split
    · rename_i x hx
      exact (ih.row hx E (Nat.le_refl _)).next
    · rename_i hx
      have hlen : (bfs step ok E s i).length ≤ i := List.getElem?_eq_none_iff.1 hx
      refine ⟨ih.first, ih.nd, ih.ev, ih.okw, ih.srt, fun y hy => ?_, fun m z hz e' he' hok hm => ih.clo m z hz e' he' hok ?_⟩
      · rcases ih.form y hy with h1 | ⟨m, e', z, hz, h1, h2⟩
        · exact .inl h1
        · exact .inr ⟨m, e', z, hz, h1, by omega⟩
      · have := (List.getElem?_eq_some_iff.1 hz).1; omega
theorem bfs_pre : ∀ d i, ∃ t, bfs step ok E s (i + d) = bfs step ok E s i ++ t
  | 0, i => ⟨[], by simp⟩
  | d + 1, i => by
    obtain ⟨t, ht⟩ := bfs_pre d i
    rw [← Nat.add_assoc, bfs]
    split
    · rename_i x hx
      obtain ⟨u, hu⟩ := brow_pre (step := step) (ok := ok) x (bfs step ok E s (i + d)) E
      exact ⟨t ++ u, by rw [hu, ht, List.append_assoc]⟩
    · exact ⟨t, ht⟩
theorem bfs_le {i j : Nat} (h : i ≤ j) : ∃ t, bfs step ok E s j = bfs step ok E s i ++ t := by
  obtain ⟨t, ht⟩ := bfs_pre (step := step) (ok := ok) (E := E) (s := s) (j - i) i
  rw [show i + (j - i) = j by omega] at ht
  exact ⟨t, ht⟩
/-- Nothing is left to do: every word leads to a node of the queue, whose path stands not behind the word. -/
theorem bfs_min {i : Nat} (hi : (bfs step ok E s i).length ≤ i) (w : List Nat) (hw : BW ok E w) : ∃ y ∈ bfs step ok E s i, y.1 = bev step s w ∧ sle y.2 w := by
  have key : ∀ (n : Nat) (w : List Nat), w.length = n → BW ok E w → ∃ y ∈ bfs step ok E s i, y.1 = bev step s w ∧ sle y.2 w := by
    intro n
    induction n with
    | zero =>
      intro w hl _
      have : w = [] := List.length_eq_zero_iff.1 hl
      subst this
      exact ⟨(s, []), List.mem_of_getElem? (bfs_inv i).first, rfl, sle_refl _⟩
    | succ n ih =>
      intro w hl hw
      rcases List.eq_nil_or_concat w with rfl | ⟨w', e, rfl⟩
      · simp at hl
      · rw [List.concat_eq_append] at *
        obtain ⟨z, hz, h1, h2⟩ := ih w' (by simpa using hl) fun e he => hw e (List.mem_append.2 (.inl he))
        obtain ⟨m, hm, hzm⟩ := List.getElem_of_mem hz
        have he := hw e (by simp)
        obtain ⟨y, hy, h3, h4⟩ := (bfs_inv i).clo m z (by rw [List.getElem?_eq_getElem hm, hzm]) e he.1 he.2 (.inl (by omega))
        exact ⟨y, hy, by rw [h3, h1, bev_snoc], sle_trans h4 (sle_snoc e h2)⟩
  exact key w.length w rfl hw
theorem bfs_keys {p : K → Prop} (hp : ∀ k e, p k → e < E → ok e = true → p (step k e)) (h0 : p s) (i : Nat) : ∀ y ∈ bfs step ok E s i, p y.1 := by
  intro y hy
  have h1 := (bfs_inv (step := step) (ok := ok) (E := E) (s := s) i).ev y hy
  have h2 := (bfs_inv (step := step) (ok := ok) (E := E) (s := s) i).okw y hy
  rw [← h1]
  have key : ∀ (w : List Nat) (k : K), p k → BW ok E w → p (w.foldl step k) := by
    intro w
    induction w with
    | nil => intro k hk _; exact hk
    | cons e w ih =>
      intro k hk hw
      have he := hw e (by simp)
      exact ih _ (hp k e hk he.1 he.2) fun e' he' => hw e' (by simp [he'])
  exact key _ _ h0 h2
end
/-- Different numbers below M are at most M. -/
theorem nodup_le : ∀ {M : Nat} {l : List Nat}, l.Nodup → (∀ x ∈ l, x < M) → l.length ≤ M
  | 0, l, _, h => by
    cases l with
    | nil => simp
    | cons x l => have := h x (by simp); omega
  | M + 1, l, hn, h => by
    by_cases hm : M ∈ l
    · have h1 := nodup_le (M := M) (hn.erase M) fun x hx => by
        have h2 := h x (List.mem_of_mem_erase hx)
        have h3 : x ≠ M := fun e => by subst e; exact (List.Nodup.not_mem_erase hn) hx
        omega
      rw [List.length_erase_of_mem hm] at h1
      omega
    · have := nodup_le (M := M) hn fun x hx => by
        have h2 := h x hx
        have h3 : x ≠ M := fun e => by subst e; exact hm hx
        omega
      omega
/-- The queue stays small: its keys have different codes. -/
theorem bfs_small {K : Type} [DecidableEq K] {step : K → Nat → K} {ok : Nat → Bool} {E : Nat} {s : K} {p : K → Prop} {code : K → Nat} {M : Nat} (hp : ∀ k e, p k → e < E → ok e = true → p (step k e)) (h0 : p s)
    (hc : ∀ k, p k → code k < M) (hinj : ∀ k k', p k → p k' → code k = code k' → k = k') (i : Nat) : (bfs step ok E s i).length ≤ M := by
  have hk := bfs_keys (step := step) (ok := ok) (E := E) (s := s) hp h0 i
  have hn := (bfs_inv (step := step) (ok := ok) (E := E) (s := s) i).nd
  have h1 : ((bfs step ok E s i).map fun y => code y.1).Nodup := by
    rw [show (bfs step ok E s i).map (fun y => code y.1) = ((bfs step ok E s i).map (·.1)).map code by simp [Function.comp_def]]
    refine List.pairwise_map.2 (hn.imp_of_mem fun {a b} ha hb hne e => hne ?_)
    obtain ⟨y, hy, rfl⟩ := List.mem_map.1 ha
    obtain ⟨z, hz, rfl⟩ := List.mem_map.1 hb
    exact hinj _ _ (hk y hy) (hk z hz) e
  have := nodup_le h1 fun x hx => by
    obtain ⟨y, hy, rfl⟩ := List.mem_map.1 hx
    exact hc _ (hk y hy)
  simpa using this

end Go.Proofs.Ytekikmdjldincaa
/- Plain laws: the states of the search for routes. -/
set_option linter.unusedSimpArgs false
set_option linter.unusedVariables false
namespace Go.Proofs.Ytekikmdjldincaa
open Go Go.RowKit
abbrev RK := List Int × List Bool
def kstep (es : List Int) (m : Nat) (xs : List Int) (n : Nat) (k : RK) (e : Nat) : RK := (swL (ix es (e * 2)) (ix es (e * 2 + 1)) k.1, (advS (goB es m xs (swL (ix es (e * 2)) (ix es (e * 2 + 1)) k.1)) n k.2 []).1)
structure KOk (N Q : Int) (pn n : Nat) (xs : List Int) (k : RK) : Prop where
  pl : k.1.length = pn
  po : plOk N Q k.1 pn = true
  dl : k.2.length = n
  dn : Dn xs k.2
  fu : Full xs n k.2
theorem plOk_swL {N Q a b : Int} {ps : List Int} {pn : Nat} (hl : ps.length = pn) (ha : 0 ≤ a ∧ a < N) (hb : 0 ≤ b ∧ b < N) (h : plOk N Q ps pn = true) : plOk N Q (swL a b ps) pn = true := by
  simp only [plOk, Bool.and_eq_true] at h ⊢
  exact ⟨placeOk_swL hl ha hb h.1, h.2⟩
theorem adv_ok {es xs ps : List Int} {m n : Nat} {ds : List Bool} (L : List T3) (hl : ds.length = n) (hd : Dn xs ds) : (advS (goB es m xs ps) n ds L).1.length = n ∧ Dn xs (advS (goB es m xs ps) n ds L).1 ∧ Full xs n (advS (goB es m xs ps) n ds L).1 := by
  obtain ⟨h1, h2, h3⟩ := advS_keep (es := es) (m := m) (xs := xs) (ps := ps) (n := n) (P := Dn xs) (fun ds i h1 h2 h3 h4 => h3.step h1 h2 h4) (und ds) ds L rfl hl hd
  exact ⟨h2, h1, Full.of h3⟩
theorem adv_same {g : List Bool → Nat → Bool} {n : Nat} (ds : List Bool) (L M : List T3) : (advS g n ds L).1 = (advS g n ds M).1 := adv_fst g n _ ds L M
theorem kstep_ok {N Q : Int} {es xs : List Int} {m n pn : Nat} (hes : edgesOk N es m = true) {k : RK} {e : Nat} (he : e < m) (h : KOk N Q pn n xs k) : KOk N Q pn n xs (kstep es m xs n k e) := by
  have h1 := (of_decide_eq_true hes) e he
  simp only [edgeOk] at h1
  have hp := plOk_swL (a := ix es (e * 2)) (b := ix es (e * 2 + 1)) h.pl (by omega) (by omega) h.po
  obtain ⟨h2, h3, h4⟩ := adv_ok (es := es) (m := m) (ps := swL (ix es (e * 2)) (ix es (e * 2 + 1)) k.1) [] h.dl h.dn
  exact ⟨by rw [kstep, swL_length]; exact h.pl, hp, h2, h3, h4⟩
def kcode (pn n : Nat) (xs : List Int) (k : RK) : Nat := (cdP k.1 pn).toNat * 4096 + tcD xs k.2 n
theorem pl_range {N Q : Int} {ps : List Int} {pn : Nat} (hN : N ≤ 5) (h : plOk N Q ps pn = true) : ∀ i, i < pn → 0 ≤ ix ps i ∧ ix ps i < 5 := by
  simp only [plOk, Bool.and_eq_true] at h
  intro i hi
  have := (placeOk_iff.1 h.1).1 i hi
  omega
theorem tc_4096 {xs : List Int} {n : Nat} (hc : cnt2 xs n ≤ 12) (ds : List Bool) : tcD xs ds n < 4096 :=
  Nat.lt_of_lt_of_le (tcD_lt xs ds n) (Nat.le_trans (Nat.pow_le_pow_right (n := 2) (by omega) hc) (by decide))
theorem kcode_lt {N Q : Int} {xs : List Int} {n pn : Nat} (hN : N ≤ 5) (h5 : pn ≤ 5) (hc : cnt2 xs n ≤ 12) {k : RK} (h : KOk N Q pn n xs k) : kcode pn n xs k < 12800000 := by
  have h1 := cdP_range (pl_range hN h.po) pn (Nat.le_refl _)
  have h2 := pow5_le h5
  have h3 := tc_4096 hc k.2
  unfold kcode; omega
theorem kcode_inj {N Q : Int} {xs : List Int} {n pn : Nat} (hN : N ≤ 5) (hc : cnt2 xs n ≤ 12) {k l : RK} (h : KOk N Q pn n xs k) (h' : KOk N Q pn n xs l) (he : kcode pn n xs k = kcode pn n xs l) : k = l := by
  have h3 := tc_4096 hc k.2
  have h4 := tc_4096 hc l.2
  unfold kcode at he
  have h1 := cdP_range (pl_range hN h.po) pn (Nat.le_refl _)
  have h2 := cdP_range (pl_range hN h'.po) pn (Nat.le_refl _)
  have e1 : cdP k.1 pn = cdP l.1 pn := by omega
  have e2 : tcD xs k.2 n = tcD xs l.2 n := by omega
  have hp := cdP_inj (pl_range hN h.po) (pl_range hN h'.po) pn (Nat.le_refl _) e1
  have hd := done_eq h.dn h'.dn h.fu h'.fu (tcD_inj n e2)
  refine Prod.ext (list_ext_ix (by rw [h.pl, h'.pl]) fun j hj => hp j (by rw [← h.pl]; exact hj)) ?_
  refine List.ext_getElem (by rw [h.dl, h'.dl]) fun i h5 h6 => ?_
  have := hd i (by rw [← h.dl]; exact h5)
  simpa [bx, List.getD, h5, h6] using this
/-- The search. -/
def rQ (es : List Int) (m : Nat) (xs : List Int) (n : Nat) (s : RK) (i : Nat) : List (RK × List Nat) := bfs (kstep es m xs n) (fun _ => true) m s i
theorem rQ_key {N Q : Int} {es xs : List Int} {m n pn : Nat} {s : RK} (hes : edgesOk N es m = true) (h0 : KOk N Q pn n xs s) (i : Nat) : ∀ y ∈ rQ es m xs n s i, KOk N Q pn n xs y.1 :=
  bfs_keys (p := KOk N Q pn n xs) (fun k e h he _ => kstep_ok hes he h) h0 i
theorem rQ_small {N Q : Int} {es xs : List Int} {m n pn : Nat} {s : RK} (hN : N ≤ 5) (h5 : pn ≤ 5) (hc : cnt2 xs n ≤ 12) (hes : edgesOk N es m = true) (h0 : KOk N Q pn n xs s) (i : Nat) : (rQ es m xs n s i).length ≤ 12800000 :=
  bfs_small (p := KOk N Q pn n xs) (code := kcode pn n xs) (fun k e h he _ => kstep_ok hes he h) h0 (fun k h => kcode_lt hN h5 hc h) (fun k k' h h' he => kcode_inj hN hc h h' he) i
/-- The steps of a path. -/
def stp (es : List Int) (m : Nat) (xs : List Int) (n : Nat) : RK → List T3 → List Nat → List T3
  | _, L, [] => L
  | k, L, e :: p => stp es m xs n (kstep es m xs n k e) (advS (goB es m xs (swL (ix es (e * 2)) (ix es (e * 2 + 1)) k.1)) n k.2 (L ++ [((-1, ix es (e * 2), ix es (e * 2 + 1)) : T3)])).2 p
theorem stp_snoc (es : List Int) (m : Nat) (xs : List Int) (n : Nat) : ∀ (p : List Nat) (k : RK) (L : List T3) (e : Nat), stp es m xs n k L (p ++ [e]) = (advS (goB es m xs (swL (ix es (e * 2)) (ix es (e * 2 + 1)) (bev (kstep es m xs n) k p).1)) n (bev (kstep es m xs n) k p).2 (stp es m xs n k L p ++ [((-1, ix es (e * 2), ix es (e * 2 + 1)) : T3)])).2
  | [], k, L, e => rfl
  | a :: p, k, L, e => by
    rw [List.cons_append, stp, stp_snoc es m xs n p, stp]; rfl

end Go.Proofs.Ytekikmdjldincaa
/- Plain laws: how many steps and swaps a route has. -/
set_option linter.unusedSimpArgs false
set_option linter.unusedVariables false
namespace Go.Proofs.Ytekikmdjldincaa
open Go Go.RowKit
def swC (L : List T3) : Nat := L.countP fun t => t.1 == -1
theorem swC_snoc (L : List T3) (t : T3) : swC (L ++ [t]) = swC L + (if t.1 = -1 then 1 else 0) := by
  unfold swC
  rw [List.countP_append]
  by_cases h : t.1 = -1 <;> simp [h]
theorem adv_sw (g : List Bool → Nat → Bool) (n : Nat) : ∀ f ds L, swC (adv g n f ds L).2 = swC L
  | 0, ds, L => rfl
  | f + 1, ds, L => by
    rw [adv]
    split
    · rfl
    · rename_i h
      rw [adv_sw g n f, swC_snoc, if_neg (by show ¬ findI (g ds) n = -1; omega), Nat.add_zero]
theorem stp_sw (es : List Int) (m : Nat) (xs : List Int) (n : Nat) : ∀ (p : List Nat) (k : RK) (L : List T3), swC (stp es m xs n k L p) = swC L + p.length
  | [], k, L => rfl
  | e :: p, k, L => by
    rw [stp, stp_sw es m xs n p]
    unfold advS
    rw [adv_sw, swC_snoc, if_pos rfl, List.length_cons]; omega
theorem fl3_ix : ∀ (L : List T3) (k : Nat), k < L.length → ∃ t, L[k]? = some t ∧ ix (fl3 L) (k * 3) = t.1
  | [], k, h => by simp at h
  | t :: L, 0, _ => ⟨t, rfl, rfl⟩
  | t :: L, k + 1, h => by
    obtain ⟨u, h1, h2⟩ := fl3_ix L k (by simpa using h)
    refine ⟨u, h1, ?_⟩
    rw [← h2, show (k + 1) * 3 = k * 3 + 3 by omega]
    rfl
theorem swN_fl3 (L : List T3) : ∀ k, k ≤ L.length → swN (fl3 L) k = swC (L.take k)
  | 0, _ => rfl
  | k + 1, h => by
    obtain ⟨t, h1, h2⟩ := fl3_ix L k (by omega)
    rw [swN, swN_fl3 L k (by omega), List.take_add_one, h1, Option.toList_some, swC_snoc, h2]
    split <;> rfl
theorem swN_all (L : List T3) : swN (fl3 L) L.length = swC L := by rw [swN_fl3 L _ (Nat.le_refl _), List.take_length]
theorem first_of {g : Nat → Bool} {n : Nat} (h : ¬ ∀ j, j < n → g j = false) : ∃ i, i < n ∧ g i = true ∧ ∀ j, j < i → g j = false := by
  have hex : ∃ i, i < n ∧ g i = true := by
    refine Decidable.byContradiction fun hne => h fun j hj => ?_
    cases hg : g j with
    | false => rfl
    | true => exact absurd ⟨j, hj, hg⟩ hne
  have key : ∀ k, (∃ i, i < k ∧ i < n ∧ g i = true) → ∃ i, i < n ∧ g i = true ∧ ∀ j, j < i → g j = false := by
    intro k
    induction k with
    | zero => rintro ⟨i, hi, _⟩; omega
    | succ k ihk =>
      rintro ⟨i, hi, hin, hg⟩
      by_cases h2 : ∃ i, i < k ∧ i < n ∧ g i = true
      · exact ihk h2
      · refine ⟨i, hin, hg, fun j hj => ?_⟩
        cases hgj : g j with
        | false => rfl
        | true => exact absurd ⟨j, by omega, by omega, hgj⟩ h2
  obtain ⟨i, hi, hg⟩ := hex
  exact key (i + 1) ⟨i, by omega, hi, hg⟩
theorem advS_len {es xs ps : List Int} {m n : Nat} : ∀ f ds L, und ds = f → ds.length = n → (advS (goB es m xs ps) n ds L).2.length + und (advS (goB es m xs ps) n ds L).1 = L.length + und ds := by
  intro f
  induction f with
  | zero =>
    intro ds L hu hl
    have hb : ∀ j, j < n → goB es m xs ps ds j = false := by
      intro j hj
      cases hg : goB es m xs ps ds j with
      | false => rfl
      | true => have := und_set (i := j) (by omega) (goB_open hg); omega
    rw [advS_stop hb]
  | succ f ih =>
    intro ds L hu hl
    by_cases h : ∀ j, j < n → goB es m xs ps ds j = false
    · rw [advS_stop h]
    · obtain ⟨i, hi, hg, hlow⟩ := first_of h
      have ho := goB_open hg
      have hu2 := und_set (i := i) (by omega) ho
      rw [advS_step hl hi hg ho hlow, ih _ _ (by omega) (by rw [List.length_set]; exact hl), List.length_append]
      simp only [List.length_cons, List.length_nil]; omega
theorem stp_len {N Q : Int} {es xs : List Int} {m n pn : Nat} (hes : edgesOk N es m = true) : ∀ (p : List Nat) (k : RK) (L : List T3), KOk N Q pn n xs k → (∀ e ∈ p, e < m) → (stp es m xs n k L p).length + und (bev (kstep es m xs n) k p).2 = L.length + und k.2 + p.length
  | [], k, L, _, _ => rfl
  | e :: p, k, L, hk, hp => by
    have h1 := stp_len hes p (kstep es m xs n k e) (advS (goB es m xs (swL (ix es (e * 2)) (ix es (e * 2 + 1)) k.1)) n k.2 (L ++ [((-1, ix es (e * 2), ix es (e * 2 + 1)) : T3)])).2 (kstep_ok hes (hp e (.head _)) hk) (fun a ha => hp a (.tail _ ha))
    have h2 := advS_len (es := es) (m := m) (xs := xs) (ps := swL (ix es (e * 2)) (ix es (e * 2 + 1)) k.1) (n := n) _ k.2 (L ++ [((-1, ix es (e * 2), ix es (e * 2 + 1)) : T3)]) rfl hk.dl
    rw [stp]
    have h3 : (bev (kstep es m xs n) k (e :: p)) = bev (kstep es m xs n) (kstep es m xs n k e) p := rfl
    rw [h3, h1]
    have h4 : (kstep es m xs n k e).2 = (advS (goB es m xs (swL (ix es (e * 2)) (ix es (e * 2 + 1)) k.1)) n k.2 (L ++ [((-1, ix es (e * 2), ix es (e * 2 + 1)) : T3)])).1 := adv_same _ _ _
    rw [h4, List.length_cons]
    rw [List.length_append] at h2
    simp only [List.length_cons, List.length_nil] at h2
    omega

end Go.Proofs.Ytekikmdjldincaa
/- The queue of the program's search for routes: its cells and the groups of its slices. -/
set_option linter.unusedSimpArgs false
set_option linter.unusedVariables false
namespace Go.Proofs.Ytekikmdjldincaa
open Go Go.RowKit
theorem Pre.of {cs : List Value} : ∀ {xs : List Value} {o : Nat}, (∀ j v, xs[j]? = some v → cs[o + j]? = some v) → Pre cs o xs
  | [], _, _ => trivial
  | x :: xs, o, h => ⟨by simpa using h 0 x rfl, Pre.of fun j v hv => by have := h (j + 1) v (by simpa using hv); rwa [show o + (j + 1) = o + 1 + j by omega] at this⟩
theorem Weak.grpTakeR {H : List Res} {e : TypeId} {size : Nat} {p : Value × Nat × List Value} {A B : List (Value × Nat × List Value)} : Weak (.grp e size (A ++ p :: B) :: H) (.own p.1 e size p.2.1 p.2.2 :: .grp e size (A ++ B) :: H) :=
  (Weak.grpPerm (l' := p :: (A ++ B)) List.perm_middle).trans Weak.grpOut
theorem Weak.grpSnocR {H : List Res} {e : TypeId} {size n : Nat} {v : Value} {xs : List Value} {l : List (Value × Nat × List Value)} : Weak (.own v e size n xs :: .grp e size l :: H) (.grp e size (l ++ [(v, n, xs)]) :: H) :=
  Weak.grpIn.trans (Weak.grpPerm (List.perm_append_singleton _ _).symm)
theorem St.slGrpR {M : Nat → Prop} {w0 w : World} {H : List Res} {e : TypeId} {size : Nat} {l : List (Value × Nat × List Value)} (hs : St M w0 w H) (hm : Res.grp e size l ∈ H) {p : Value × Nat × List Value} (hp : p ∈ l) : Sl w p.1 size p.2.1 p.2.2 := by
  obtain ⟨A, B, rfl⟩ := List.append_of_mem hp
  obtain ⟨H1, H2, rfl⟩ := List.append_of_mem hm
  have h1 := hs.perm (List.perm_middle (a := Res.grp e size (A ++ p :: B)) (l₁ := H1) (l₂ := H2))
  exact (Weak.grpTakeR _ _ _ h1).slOwn (.head _)
theorem Run.formMem {E : Env} {k : List It} {f : Fr} {H : List Res} {e : TypeId} {size : Nat} {l : List (Value × Nat × List Value)} (hm : Res.grp e size l ∈ H) {p : Value × Nat × List Value} (hp : p ∈ l)
    (h : ∀ A c, p.1 = .slice A p.2.1 c → Run E k f H) (hk : ∀ G i k', k ≠ .goal G :: k' ∧ k ≠ .block i :: k' ∧ k ≠ []) : Run E k f H := by
  have key : ∀ w, St E.M E.w0 w H → Run E k f H := by
    intro w hs
    obtain ⟨A, c, he, _, _⟩ := (hs.slGrpR hm hp).form0
    exact h A c he
  match k, hk with
  | [], hk => exact absurd rfl (hk (fun _ _ => True) 0 []).2.2
  | .goal G :: k', hk => exact absurd rfl (hk G 0 k').1
  | .block i :: k', hk => exact absurd rfl (hk (fun _ _ => True) i k').2.1
  | .rounds c n :: k', _ => exact fun a w ha hs => key w hs a w ha hs
  | .ops ops l :: k', _ => exact fun a w ha hs => key w hs a w ha hs
  | .code c :: k', _ => exact fun a w ha hs => key w hs a w ha hs
abbrev RZ := Value × Value × Value × RK × List Nat
/-- A node of the program's search: three slices, the state, the path. -/
def rcell (N : Int) (vg : Value) (Q : Int) (vc : Value) (z : RZ) : List Value := [.int .i64 N, vg, .int .i64 Q, vc, z.1, z.2.1, z.2.2.1]
def rcells (N : Int) (vg : Value) (Q : Int) (vc : Value) (zs : List RZ) : List Value := (zs.map (rcell N vg Q vc)).flatten
def rk (zs : List RZ) : List (RK × List Nat) := zs.map fun z => z.2.2.2
theorem rcells_snoc (N : Int) (vg : Value) (Q : Int) (vc : Value) (zs : List RZ) (z : RZ) : rcells N vg Q vc (zs ++ [z]) = rcells N vg Q vc zs ++ rcell N vg Q vc z := by simp [rcells]
theorem rcells_length (N : Int) (vg : Value) (Q : Int) (vc : Value) (zs : List RZ) : (rcells N vg Q vc zs).length = zs.length * 7 := by
  induction zs with
  | nil => rfl
  | cons z zs ih => simp only [rcells, List.map_cons, List.flatten_cons, List.length_append] at ih ⊢; rw [ih]; simp [rcell]; omega
def pm (pn : Nat) (z : RZ) : Value × Nat × List Value := (z.1, pn, ints z.2.2.2.1.1)
def dm (n : Nat) (z : RZ) : Value × Nat × List Value := (z.2.1, n, bls z.2.2.2.1.2)
def sm (S : List Nat → List T3) (z : RZ) : Value × Nat × List Value := (z.2.2.1, (S z.2.2.2.2).length, ints (fl3 (S z.2.2.2.2)))
def pgp (pn : Nat) (zs : List RZ) : List (Value × Nat × List Value) := zs.map (pm pn)
def dgp (n : Nat) (zs : List RZ) : List (Value × Nat × List Value) := zs.map (dm n)
def sgp (S : List Nat → List T3) (zs : List RZ) : List (Value × Nat × List Value) := zs.map (sm S)
theorem preR {N : Int} {vg : Value} {Q : Int} {vc : Value} {zs : List RZ} {i : Nat} {z : RZ} (h : zs[i]? = some z) : Pre (rcells N vg Q vc zs) (i * 7) (rcell N vg Q vc z) := by
  obtain ⟨hi, he⟩ := List.getElem?_eq_some_iff.1 h
  have e : zs = zs.take i ++ z :: zs.drop (i + 1) := by rw [← he, List.getElem_cons_drop, List.take_append_drop]
  refine Pre.of fun j v hv => ?_
  have hj : j < (rcell N vg Q vc z).length := (List.getElem?_eq_some_iff.1 hv).1
  have hl : (rcells N vg Q vc (zs.take i)).length = i * 7 := by rw [rcells_length, List.length_take, Nat.min_eq_left (by omega)]
  have e2 : rcells N vg Q vc zs = rcells N vg Q vc (zs.take i) ++ (rcell N vg Q vc z ++ rcells N vg Q vc (zs.drop (i + 1))) := by
    conv => lhs; rw [e]
    simp [rcells]
  rw [e2, List.getElem?_append_right (by omega), hl, show i * 7 + j - i * 7 = j by omega, List.getElem?_append_left hj]
  exact hv
theorem pg_mem {pn : Nat} {zs : List RZ} {z : RZ} (h : z ∈ zs) : pm pn z ∈ pgp pn zs := List.mem_map.2 ⟨z, h, rfl⟩
theorem dg_mem {n : Nat} {zs : List RZ} {z : RZ} (h : z ∈ zs) : dm n z ∈ dgp n zs := List.mem_map.2 ⟨z, h, rfl⟩
theorem sg_mem {S : List Nat → List T3} {zs : List RZ} {z : RZ} (h : z ∈ zs) : sm S z ∈ sgp S zs := List.mem_map.2 ⟨z, h, rfl⟩
theorem Weak.pgSnoc {H : List Res} {e : TypeId} {pn : Nat} {zs : List RZ} {z : RZ} : Weak (.own z.1 e 1 pn (ints z.2.2.2.1.1) :: .grp e 1 (pgp pn zs) :: H) (.grp e 1 (pgp pn (zs ++ [z])) :: H) := by
  have h := Weak.grpSnocR (H := H) (e := e) (size := 1) (v := z.1) (n := pn) (xs := ints z.2.2.2.1.1) (l := pgp pn zs)
  have e2 : pgp pn (zs ++ [z]) = pgp pn zs ++ [(z.1, pn, ints z.2.2.2.1.1)] := by simp [pgp, pm]
  rw [e2]; exact h
theorem Weak.dgSnoc {H : List Res} {e : TypeId} {n : Nat} {zs : List RZ} {z : RZ} : Weak (.own z.2.1 e 1 n (bls z.2.2.2.1.2) :: .grp e 1 (dgp n zs) :: H) (.grp e 1 (dgp n (zs ++ [z])) :: H) := by
  have h := Weak.grpSnocR (H := H) (e := e) (size := 1) (v := z.2.1) (n := n) (xs := bls z.2.2.2.1.2) (l := dgp n zs)
  have e2 : dgp n (zs ++ [z]) = dgp n zs ++ [(z.2.1, n, bls z.2.2.2.1.2)] := by simp [dgp, dm]
  rw [e2]; exact h
theorem Weak.sgSnoc {H : List Res} {e : TypeId} {S : List Nat → List T3} {zs : List RZ} {z : RZ} : Weak (.own z.2.2.1 e 3 (S z.2.2.2.2).length (ints (fl3 (S z.2.2.2.2))) :: .grp e 3 (sgp S zs) :: H) (.grp e 3 (sgp S (zs ++ [z])) :: H) := by
  have h := Weak.grpSnocR (H := H) (e := e) (size := 3) (v := z.2.2.1) (n := (S z.2.2.2.2).length) (xs := ints (fl3 (S z.2.2.2.2))) (l := sgp S zs)
  have e2 : sgp S (zs ++ [z]) = sgp S zs ++ [(z.2.2.1, (S z.2.2.2.2).length, ints (fl3 (S z.2.2.2.2)))] := by simp [sgp, sm]
  rw [e2]; exact h

end Go.Proofs.Ytekikmdjldincaa
/- Maps that hold a set: to each key the value true. -/
namespace Go.Proofs.Ytekikmdjldincaa
open Go Go.RowKit
open Go.ChangeMaps (setBlock)
open Go.WideMaps (KeyLaw)
/-- The value has the form of a key. -/
def Keyable (P : Program) (k : TypeId) (v : Value) : Prop := ∃ l, keyOf P k v = some l
/-- The entries of a set. -/
def setKv (ks : List Value) : List (Value × Value) := ks.map fun k => (k, .bool true)
/-- A map type: its key's and its element's type, and that one's zero. -/
def mapOfT (P : Program) (t : TypeId) : Option (TypeId × TypeId) := match P.underlying t with
  | some (.map k e) => some (k, e)
  | _ => none
theorem mapOfT_spec {P : Program} {t k e : TypeId} (h : mapOfT P t = some (k, e)) : P.underlying t = some (.map k e) := by
  unfold mapOfT at h
  split at h
  · rename_i hu; simp only [Option.some.injEq, Prod.mk.injEq] at h; obtain ⟨rfl, rfl⟩ := h; exact hu
  · cases h
theorem setKv_keys {es : Array MapEntry} {ks : List Value} (h : es.toList.map (fun e => (e.key, e.val)) = setKv ks) : es.toList.map (·.key) = ks ∧ ∀ e ∈ es.toList, e.val = .bool true := by
  constructor
  · have : (es.toList.map (fun e => (e.key, e.val))).map Prod.fst = (setKv ks).map Prod.fst := by rw [h]
    simpa [setKv, List.map_map, Function.comp_def] using this
  · intro e he
    have : (e.key, e.val) ∈ setKv ks := by rw [← h]; exact List.mem_map.2 ⟨e, he, rfl⟩
    simp only [setKv, List.mem_map, Prod.mk.injEq] at this
    obtain ⟨_, _, _, h3⟩ := this
    exact h3.symm
variable {E : Env} {f : Fr} {H : List Res} {d : Option Tmp} {ty : TypeId} {pos : String} {after : Array Edge} {gd : Option (Nat × Bool)} {K : Fr → List Res → Prop}
theorem St.mpAt {M : Nat → Prop} {w0 w : World} {H : List Res} {b : Nat} {kvs : List (Value × Value)} (h : St M w0 w H) (hm : Res.mp b kvs ∈ H) : ∃ es clock, w.heap[b]? = some (.map es clock) ∧ es.toList.map (fun e => (e.key, e.val)) = kvs :=
  h.holds _ hm
/-- What is asked of a set: is the key there. -/
theorem OpY.lookupSet {t : TypeId} {x y : Operand} {b : Nat} {k e : TypeId} {ks : List Value} {key : Value} {c : Bool} (ht : mapOfT E.P t = some (k, e)) (hz : zeroOf E.P e = some [.bool false]) (hK : KeyLaw E.P k) (hx : f.eval x = .map (some b)) (hy : f.eval y = key)
    (hm : Res.mp b (setKv ks) ∈ H) (hks : ∀ u ∈ ks, Keyable E.P k u) (hkey : Keyable E.P k key) (hc : c = true ↔ key ∈ ks) (hzb : (E.P.info? e).bind (·.zero) = some (.bool false)) :
    OpY E ⟨d, .lookup t x y false, ty, pos, after, gd⟩ f H (.bool c) := by
  intro w hs
  have hu := mapOfT_spec ht
  obtain ⟨es, clock, hb, he⟩ := hs.mpAt hm
  obtain ⟨hk1, hk2⟩ := setKv_keys he
  obtain ⟨l, hl⟩ := hkey
  have hes : ∀ e ∈ es.toList, ∃ l, keyOf E.P k e.key = some l := fun e he => hks _ (by rw [← hk1]; exact List.mem_map.2 ⟨e, he, rfl⟩)
  have hzv : (zeroValue e).run E.P w = .ok (.bool false) w := by
    obtain ⟨i, hi, hz2⟩ := Option.bind_eq_some_iff.1 hzb
    simp [zeroValue, typeInfo, hi, hz2]
  have key0 : (Instr.lookup t (.map (some b)) key false).run E.P w = .ok (.bool c) w := by
    rcases hK.find w hl es.toList hes with ⟨h1, h2⟩ | ⟨j, e0, h1, h2, h3⟩
    · have : c = false := by
        cases hcc : c with
        | false => rfl
        | true =>
          have h4 := hc.1 hcc
          rw [← hk1] at h4
          obtain ⟨e1, h5, h6⟩ := List.mem_map.1 h4
          exact absurd h6 (h2 e1 h5)
      subst this
      simp [Instr.lookup, run_underlying hu, MapKept.run_getObj_map hb, hK.check w _ hl, h1, hzv]
    · have h5 : e0 ∈ es.toList := List.mem_of_getElem? h2
      have : c = true := hc.2 (by rw [← hk1]; exact List.mem_map.2 ⟨e0, h5, h3⟩)
      subst this
      simp [Instr.lookup, run_underlying hu, MapKept.run_getObj_map hb, hK.check w _ hl, h1, hk2 e0 h5]
  simp [execOp, hx, hy, key0]
theorem St.putMap {M : Nat → Prop} {w0 w : World} {H : List Res} {b clock clock' : Nat} {es es' : Array MapEntry} {kvs kvs' : List (Value × Value)} (h : St M w0 w (.mp b kvs :: H)) (hb : w.heap[b]? = some (.map es clock)) (he : es'.toList.map (fun e => (e.key, e.val)) = kvs') :
    St M w0 (setBlock w b (.map es' clock')) (.mp b kvs' :: H) := by
  refine St.turn h rfl rfl rfl (by simp [setBlock]) (fun k _ hn => ?_) ?_ (fun k hk => .inl (by simpa [Res.has] using hk))
  · exact ChangeMaps.heap_setBlock_other hb _ fun e => hn (by simp [Res.has, e])
  · exact ⟨es', clock', ChangeMaps.heap_setBlock_same hb _, he⟩
/-- A new key is put into a set. -/
theorem OpStep.insertSet {t : TypeId} {x y z : Operand} {b : Nat} {k e : TypeId} {ks : List Value} {key : Value} {H' : List Res} (ht : mapOfT E.P t = some (k, e)) (hK : KeyLaw E.P k) (hx : f.eval x = .map (some b)) (hy : f.eval y = key) (hz : f.eval z = .bool true)
    (hH : Turn (.mp b (setKv ks)) (.mp b (setKv (ks ++ [key]))) H H') (hks : ∀ u ∈ ks, Keyable E.P k u) (hkey : Keyable E.P k key) (hnew : key ∉ ks) (hk : K (putF E.n f d undef) H') :
    OpStep E ⟨d, .mapUpdate t x y z, ty, pos, after, gd⟩ f H K := by
  intro a w ha hs Kw Q' hKw
  have hu := mapOfT_spec ht
  obtain ⟨H1, H2, rfl, rfl⟩ := hH.split
  have hs' := hs.perm List.perm_middle
  obtain ⟨es, clock, hb, he⟩ := hs'.mpAt (.head _)
  obtain ⟨hk1, hk2⟩ := setKv_keys he
  obtain ⟨l, hl⟩ := hkey
  have hes : ∀ e ∈ es.toList, ∃ l, keyOf E.P k e.key = some l := fun e he => hks _ (by rw [← hk1]; exact List.mem_map.2 ⟨e, he, rfl⟩)
  rcases hK.find w hl es.toList hes with ⟨h1, h2⟩ | ⟨j, e0, h1, h2, h3⟩
  · have hrun : (Instr.mapUpdate t (.map (some b)) key (.bool true)).run E.P w = .ok () (setBlock w b (.map (es.push ⟨key, .bool true, clock⟩) (clock + 1))) := by
      simp [Instr.mapUpdate, run_underlying hu, MapKept.run_getObj_map hb, hK.check w _ hl, h1, MapKept.run_setObj_map _ hb, setBlock]
    unfold Oper.wp
    rw [ha.eval]
    simp only [execOp, hx, hy, hz]
    simp [hrun, Result.andThen]
    refine hKw _ _ _ _ (ha.put _ _) ?_ hk
    exact (hs'.putMap hb (by simp [he, setKv])).perm List.perm_middle.symm
  · exact absurd (by rw [← hk1]; exact List.mem_map.2 ⟨e0, List.mem_of_getElem? h2, h3⟩) hnew
/-- The same, where a map is written out. -/
theorem OpStep.insertLit {t : TypeId} {x y z : Operand} {b : Nat} {k e : TypeId} {ks : List Value} {key : Value} {H' : List Res} (ht : mapOfT E.P t = some (k, e)) (hK : KeyLaw E.P k) (hx : f.eval x = .map (some b)) (hy : f.eval y = key) (hz : f.eval z = .bool true)
    (hH : Turn (.mp b (setKv ks)) (.mp b (setKv (ks ++ [key]))) H H') (hks : ∀ u ∈ ks, Keyable E.P k u) (hkey : Keyable E.P k key) (hnew : key ∉ ks) (hk : K (putF E.n f d undef) H') :
    OpStep E ⟨d, .insert t x y z, ty, pos, after, gd⟩ f H K := by
  intro a w ha hs Kw Q' hKw
  have hu := mapOfT_spec ht
  obtain ⟨H1, H2, rfl, rfl⟩ := hH.split
  have hs' := hs.perm List.perm_middle
  obtain ⟨es, clock, hb, he⟩ := hs'.mpAt (.head _)
  obtain ⟨hk1, hk2⟩ := setKv_keys he
  obtain ⟨l, hl⟩ := hkey
  have hes : ∀ e ∈ es.toList, ∃ l, keyOf E.P k e.key = some l := fun e he => hks _ (by rw [← hk1]; exact List.mem_map.2 ⟨e, he, rfl⟩)
  rcases hK.find w hl es.toList hes with ⟨h1, h2⟩ | ⟨j, e0, h1, h2, h3⟩
  · have hrun : (Instr.mapUpdate t (.map (some b)) key (.bool true)).run E.P w = .ok () (setBlock w b (.map (es.push ⟨key, .bool true, clock⟩) (clock + 1))) := by
      simp [Instr.mapUpdate, run_underlying hu, MapKept.run_getObj_map hb, hK.check w _ hl, h1, MapKept.run_setObj_map _ hb, setBlock]
    unfold Oper.wp
    rw [ha.eval]
    simp only [execOp, hx, hy, hz]
    simp [hrun, Result.andThen]
    refine hKw _ _ _ _ (ha.put _ _) ?_ hk
    exact (hs'.putMap hb (by simp [he, setKv])).perm List.perm_middle.symm
  · exact absurd (by rw [← hk1]; exact List.mem_map.2 ⟨e0, List.mem_of_getElem? h2, h3⟩) hnew
/-- A new map. -/
theorem OpStep.makeMap {t : TypeId} (hk : ∀ b, K (putF E.n f d (.map (some b))) (.mp b (setKv []) :: H)) : OpStep E ⟨d, .makeMap t none, ty, pos, after, gd⟩ f H K := by
  refine OpStep.of_value (v := fun w => .map (some w.heap.size)) (w' := fun w => w.alloc (.map #[] 0)) (H' := fun w => .mp w.heap.size (setKv []) :: H) fun w hs => ⟨?_, ?_, hk _⟩
  · simp [execOp, Instr.makeMap]
  · refine St.call (H' := [.mp w.heap.size (setKv [])]) hs ⟨rfl, rfl, rfl, by simp, fun k hk _ => Below.heap_alloc w _ k hk, ?_, ?_, by simp⟩
    · intro r hr
      simp only [List.mem_singleton] at hr; subst hr
      exact ⟨#[], 0, heap_alloc_new w _, rfl⟩
    · intro r hr k hk hl
      simp only [List.mem_singleton] at hr; subst hr
      simp only [Res.has] at hk
      omega
end Go.Proofs.Ytekikmdjldincaa
/- The type of the keys of routes, as a key of sets. -/
set_option linter.unusedSimpArgs false
set_option linter.unusedVariables false
namespace Go.Proofs.Ytekikmdjldincaa
open Go Go.RowKit
theorem rk_wide : (match Try.prog.underlying 94 with | some (.array _ _) | some (.struct _) => true | _ => false) = true := by kernel_rfl
theorem rk_type : Try.prog.keyTypeAt 3 94 = true := by kernel_rfl
theorem rk_row : (94 : TypeId) < Try.prog.types.size := of_decide_eq_true (by kernel_rfl)
set_option maxRecDepth 100000 in
theorem rk_laid : laidOutB Try.prog = true := by kernel_rfl
set_option maxRecDepth 100000 in
theorem rk_law : WideMaps.KeyLaw Try.prog 94 := deep_law_laid rk_laid (m := 3) (by omega) rk_row rk_type rk_wide
theorem rk_kt : Try.prog.keyType 94 = true := by kernel_rfl
theorem rk_c1 : Try.prog.cellsOf 92 = 1 := by kernel_rfl
theorem rk_ci : Try.prog.cellsOf 3 = 1 := by kernel_rfl
theorem rk_c5 : Try.prog.cellsOf 91 = 5 := by kernel_rfl
theorem rk_c6 : Try.prog.cellsOf 94 = 6 := by kernel_rfl
theorem rk_can {a b c d e f : Int} (ha : (Lit.int .i64 a).wf = true) (hb : (Lit.int .i64 b).wf = true) (hc : (Lit.int .i64 c).wf = true) (hd : (Lit.int .i64 d).wf = true) (he : (Lit.int .i64 e).wf = true) (hf : (Lit.int .u64 f).wf = true) : Keyable Try.prog 94 (.agg #[.int .i64 a, .int .i64 b, .int .i64 c, .int .i64 d, .int .i64 e, .int .u64 f]) := by
  obtain ⟨z, hz⟩ : ∃ z, Try.prog.types.size + 1 = z + 3 := ⟨Try.prog.types.size - 2, by have h : (94 : Nat) < Try.prog.types.size := rk_row; omega⟩
  refine Option.isSome_iff_exists.1 ?_
  unfold keyOf
  rw [Try.underlying94, hz]
  simp [Program.keyLits, Try.underlying94, Try.underlying91, Try.underlying92, rk_kt, rk_c1, rk_ci, Try.underlying3, rk_c5, rk_c6, Value.formed, Value.cells, List.range_succ, ha, hb, hc, hd, he, hf]


theorem wf_i {x : Int} (h : 0 ≤ x ∧ x < 5) : (Lit.int .i64 x).wf = true := by
  show (decide (-9223372036854775808 ≤ x) && decide (x ≤ 9223372036854775807)) = true
  rw [Bool.and_eq_true, decide_eq_true_eq, decide_eq_true_eq]; omega
theorem wf_u {x : Nat} (h : x < 9223372036854775808) : (Lit.int .u64 (x : Int)).wf = true := by
  show (decide (0 ≤ (x : Int)) && decide ((x : Int) ≤ 18446744073709551615)) = true
  rw [Bool.and_eq_true, decide_eq_true_eq, decide_eq_true_eq]; omega
theorem keyP_can {ps : List Int} {ds : List Bool} {pn n : Nat} (hl : ps.length = pn) (h40 : n ≤ 40) (hr : ∀ i, i < pn → 0 ≤ ix ps i ∧ ix ps i < 5) : Keyable Try.prog 94 (keyP ps ds n) := by
  have h : ∀ i, 0 ≤ ix ps i ∧ ix ps i < 5 := by
    intro i
    by_cases hi : i < pn
    · exact hr i hi
    · have : ix ps i = 0 := by simp only [ix, List.getD]; rw [List.getElem?_eq_none (by omega)]; rfl
      omega
  have h1 := mkD_lt ds n
  have h2 := pow40_le h40
  exact rk_can (wf_i (h 0)) (wf_i (h 1)) (wf_i (h 2)) (wf_i (h 3)) (wf_i (h 4)) (wf_u (by omega))
theorem keyP_inj {ps qs : List Int} {ds es : List Bool} {pn n : Nat} (h1 : ps.length = pn) (h2 : qs.length = pn) (h5 : pn ≤ 5) (h3 : ds.length = n) (h4 : es.length = n) (h : keyP ps ds n = keyP qs es n) : ps = qs ∧ ds = es := by
  simp only [keyP, Value.agg.injEq, Array.mk.injEq, List.cons.injEq, Value.int.injEq, true_and, and_true] at h
  obtain ⟨a0, a1, a2, a3, a4, a5⟩ := h
  refine ⟨list_ext_ix (by omega) fun j hj => ?_, mkD_inj h3 h4 (by omega)⟩
  rcases (by omega : j = 0 ∨ j = 1 ∨ j = 2 ∨ j = 3 ∨ j = 4) with rfl | rfl | rfl | rfl | rfl <;> assumption

end Go.Proofs.Ytekikmdjldincaa
/- Plain laws: the route that the search finds. -/
set_option linter.unusedSimpArgs false
set_option linter.unusedVariables false
namespace Go.Proofs.Ytekikmdjldincaa
open Go Go.RowKit
theorem rQ_fix {es xs : List Int} {m n : Nat} {s : RK} {i : Nat} (h : (rQ es m xs n s i).length ≤ i) : ∀ d, rQ es m xs n s (i + d) = rQ es m xs n s i
  | 0 => rfl
  | d + 1 => by
    have ih := rQ_fix h d
    have hn : (bfs (kstep es m xs n) (fun _ => true) m s (i + d))[i + d]? = none := by
      have e : bfs (kstep es m xs n) (fun _ => true) m s (i + d) = rQ es m xs n s i := ih
      rw [e]; exact List.getElem?_eq_none (by omega)
    rw [← ih]
    unfold rQ
    rw [show i + (d + 1) = (i + d) + 1 from rfl, bfs, hn]
/-- The path to the first node of the search where all is done. -/
def rtP (M : Nat) (es : List Int) (m : Nat) (xs : List Int) (n : Nat) (s : RK) : Option (List Nat) := ((rQ es m xs n s M).find? fun y => allD y.1.2 n).map (·.2)
theorem find_at {α : Type} {p : α → Bool} : ∀ {l : List α} {i : Nat} {x : α}, l[i]? = some x → p x = true → (∀ j, j < i → ∀ y, l[j]? = some y → p y = false) → l.find? p = some x
  | [], i, x, h, _, _ => by simp at h
  | a :: l, 0, x, h, hp, _ => by
    simp only [List.getElem?_cons_zero, Option.some.injEq] at h; subst h
    simp [List.find?, hp]
  | a :: l, i + 1, x, h, hp, hb => by
    have ha := hb 0 (by omega) a rfl
    rw [List.find?_cons_of_neg (by rw [ha]; decide)]
    exact find_at (by simpa using h) hp fun j hj y hy => hb (j + 1) (by omega) y (by simpa using hy)
theorem rtP_some {M : Nat} {es xs : List Int} {m n : Nat} {s : RK} {i : Nat} {y : RK × List Nat} (hi : i ≤ M) (hy : (rQ es m xs n s i)[i]? = some y) (ha : allD y.1.2 n = true) (hb : ∀ j, j < i → ∀ z, (rQ es m xs n s i)[j]? = some z → allD z.1.2 n = false) : rtP M es m xs n s = some y.2 := by
  obtain ⟨t, ht⟩ := bfs_le (step := kstep es m xs n) (ok := fun _ => true) (E := m) (s := s) hi
  have hl := (List.getElem?_eq_some_iff.1 hy).1
  have e : rQ es m xs n s M = rQ es m xs n s i ++ t := ht
  rw [rtP, e, find_at (p := fun y : RK × List Nat => allD y.1.2 n) (i := i) (x := y) (by rw [List.getElem?_append_left hl]; exact hy) ha fun j hj z hz => hb j hj z (by rwa [List.getElem?_append_left (by omega)] at hz)]
  rfl
theorem rtP_none {M : Nat} {es xs : List Int} {m n : Nat} {s : RK} {i : Nat} (hi : i ≤ M) (hl : (rQ es m xs n s i).length ≤ i) (hb : ∀ j, j < i → ∀ z, (rQ es m xs n s i)[j]? = some z → allD z.1.2 n = false) : rtP M es m xs n s = none := by
  have e : rQ es m xs n s M = rQ es m xs n s i := by rw [show M = i + (M - i) by omega, rQ_fix hl]
  rw [rtP, e, List.find?_eq_none.2]
  · rfl
  · intro y hy
    obtain ⟨j, hj, rfl⟩ := List.getElem_of_mem hy
    rw [hb j (by omega) _ (List.getElem?_eq_getElem hj)]; decide

end Go.Proofs.Ytekikmdjldincaa
/- Plain laws: what a search for a route answers. -/
set_option linter.unusedSimpArgs false
set_option linter.unusedVariables false
namespace Go.Proofs.Ytekikmdjldincaa
open Go Go.RowKit
/-- The state at the start: what can be done is done. -/
def rS (es : List Int) (m : Nat) (xs : List Int) (n : Nat) (ps : List Int) : RK := (ps, (advS (goB es m xs ps) n (List.replicate n false) []).1)
def rL (es : List Int) (m : Nat) (xs : List Int) (n : Nat) (ps : List Int) : List T3 := (advS (goB es m xs ps) n (List.replicate n false) []).2
def rtO (N : Int) (es : List Int) (m : Nat) (Q : Int) (xs : List Int) (n : Nat) (ps : List Int) (pn : Nat) : Bool := smB N es m Q xs n && plOk N Q ps pn
def rtB (M : Nat) (N : Int) (es : List Int) (m : Nat) (Q : Int) (xs : List Int) (n : Nat) (ps : List Int) (pn : Nat) : Bool := rtO N es m Q xs n ps pn && (rtP M es m xs n (rS es m xs n ps)).isSome
def rtL (M : Nat) (N : Int) (es : List Int) (m : Nat) (Q : Int) (xs : List Int) (n : Nat) (ps : List Int) (pn : Nat) : List T3 :=
  if rtO N es m Q xs n ps pn then match rtP M es m xs n (rS es m xs n ps) with
    | some p => stp es m xs n (rS es m xs n ps) (rL es m xs n ps) p
    | none => []
  else []
structure RtF (N : Int) (es : List Int) (m : Nat) (Q : Int) (xs : List Int) (n : Nat) (ps : List Int) (pn : Nat) : Prop where
  hN : 1 ≤ N ∧ N ≤ 5
  hn : n ≤ 40
  hc : cnt2 xs n ≤ 12
  he : edgesOk N es m = true
  hci : circOk Q xs n = true
  hpl : plOk N Q ps pn = true
  hpn : 0 < pn ∧ pn ≤ 5
theorem rtF_of {N Q : Int} {es xs ps : List Int} {m n pn : Nat} (h : rtO N es m Q xs n ps pn = true) : RtF N es m Q xs n ps pn := by
  simp only [rtO, smB, Bool.and_eq_true, decide_eq_true_eq] at h
  obtain ⟨⟨⟨⟨hf, h5⟩, h40⟩, h12⟩, hp⟩ := h
  have hf2 := hf
  simp only [fitOk, Bool.and_eq_true, decide_eq_true_eq] at hf2
  have hN := cgOk_N hf2.1.1
  have hq := hp
  simp only [plOk, Bool.and_eq_true, decide_eq_true_eq] at hq
  have hQ : 1 ≤ Q := (circOk_N hf2.1.2).1
  exact ⟨⟨hN.1, h5⟩, by omega, by omega, cgOk_edges hf2.1.1, hf2.1.2, hp, by omega, by omega⟩
theorem rS_ok {N Q : Int} {es xs ps : List Int} {m n pn : Nat} (h : RtF N es m Q xs n ps pn) (hl : ps.length = pn) : KOk N Q pn n xs (rS es m xs n ps) := by
  obtain ⟨h2, h3, h4⟩ := adv_ok (es := es) (m := m) (ps := ps) (n := n) (ds := List.replicate n false) [] (by simp) (Dn.start xs n)
  exact ⟨hl, h.hpl, h2, h3, h4⟩

end Go.Proofs.Ytekikmdjldincaa
