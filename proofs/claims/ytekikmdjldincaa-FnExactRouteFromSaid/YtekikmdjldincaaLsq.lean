/- Plain laws: searches in breadth from many starts. -/
import Derived.Test.YtekikmdjldincaaLsp
set_option linter.unusedSimpArgs false
set_option linter.unusedVariables false
namespace Go.Proofs.Ytekikmdjldincaa
open Go Go.RowKit

section
variable {K : Type} (step : K → Nat → K) (E : Nat)
def st0 : List K → Nat → List (K × List Nat)
  | [], _ => []
  | k :: l, j => (k, [j]) :: st0 l (j + 1)
/-- The steps from a root, whose letters are the starts. -/
def stepO (l : List K) : Option K → Nat → Option K
  | none, e => l[e]?
  | some k, e => some (if e < E then step k e else k)
def upO (y : K × List Nat) : Option K × List Nat := (some y.1, y.2)
def rootO : Option K × List Nat := (none, [])
variable {step E}
theorem st0_snoc (k : K) : ∀ (l : List K) (j : Nat), st0 (l ++ [k]) j = st0 l j ++ [(k, [j + l.length])]
  | [], j => by simp [st0]
  | a :: l, j => by
    rw [List.cons_append, st0, st0_snoc k l (j + 1), st0, List.cons_append, List.length_cons]
    simp only [List.cons.injEq, List.append_cancel_left_eq, Prod.mk.injEq, true_and, and_true]; omega
theorem st0_fst : ∀ (l : List K) (j : Nat), (st0 l j).map (·.1) = l
  | [], _ => rfl
  | a :: l, j => by rw [st0, List.map_cons, st0_fst l (j + 1)]
theorem st0_length (l : List K) (j : Nat) : (st0 l j).length = l.length := by
  have := congrArg List.length (st0_fst l j); simpa using this
theorem st0_get : ∀ (l : List K) (j i : Nat) (y : K × List Nat), (st0 l j)[i]? = some y → l[i]? = some y.1 ∧ y.2 = [j + i]
  | [], j, i, y, h => by simp [st0] at h
  | a :: l, j, 0, y, h => by simp only [st0, List.getElem?_cons_zero, Option.some.injEq] at h; subst h; exact ⟨rfl, rfl⟩
  | a :: l, j, i + 1, y, h => by
    have h2 := st0_get l (j + 1) i y (by simpa [st0] using h)
    exact ⟨by simpa using h2.1, by rw [h2.2]; simp; omega⟩
theorem up_mem (k : K) (q : List (K × List Nat)) : some k ∈ ((rootO :: q.map upO).map (·.1) : List (Option K)) ↔ k ∈ q.map (·.1) := by
  simp only [List.map_cons, List.map_map, List.mem_cons, rootO, reduceCtorEq, false_or, List.mem_map, Function.comp, upO]
  constructor
  · rintro ⟨y, hy, h⟩; exact ⟨y, hy, Option.some.inj h⟩
  · rintro ⟨y, hy, h⟩; exact ⟨y, hy, congrArg some h⟩
theorem bev_up {l : List K} : ∀ (u : List Nat) (k : K), (∀ e ∈ u, e < E) → bev (stepO step E l) (some k) u = some (bev step k u)
  | [], k, _ => rfl
  | e :: u, k, h => by
    have h1 : bev (stepO step E l) (some k) (e :: u) = bev (stepO step E l) (stepO step E l (some k) e) u := rfl
    have h2 : stepO step E l (some k) e = some (step k e) := by show some _ = _; rw [if_pos (h e (by simp))]
    rw [h1, h2, bev_up u _ fun a ha => h a (by simp [ha])]; rfl
end
section
variable {K : Type} [DecidableEq K] (step : K → Nat → K) (E : Nat)
/-- The queue behind the first i nodes, from many starts. -/
def bfsL (q0 : List (K × List Nat)) : Nat → List (K × List Nat)
  | 0 => q0
  | i + 1 => match (bfsL q0 i)[i]? with
    | some x => brow step (fun _ => true) x (bfsL q0 i) E
    | none => bfsL q0 i
variable {step E}
theorem row_up {l : List K} {x : K × List Nat} {q : List (K × List Nat)} : ∀ e, e ≤ E → brow (stepO step E l) (fun _ => true) (upO x) (rootO :: q.map upO) e = rootO :: (brow step (fun _ => true) x q e).map upO
  | 0, _ => rfl
  | e + 1, he => by
    rw [brow, row_up e (by omega), brow]
    have hs : stepO step E l (upO x).1 e = some (step x.1 e) := by show some _ = _; rw [if_pos (by omega)]
    unfold bvis
    rw [hs]
    by_cases h : step x.1 e ∈ (brow step (fun _ => true) x q e).map (·.1)
    · rw [if_neg (fun hc => hc.2 ((up_mem _ _).2 h)), if_neg (fun hc => hc.2 h)]
    · rw [if_pos ⟨rfl, fun hc => h ((up_mem _ _).1 hc)⟩, if_pos ⟨rfl, h⟩, List.map_append]; rfl
theorem row_up2 {l : List K} {x : K × List Nat} {q : List (K × List Nat)} (hx : x ∈ q) : ∀ d, brow (stepO step E l) (fun _ => true) (upO x) (rootO :: q.map upO) (E + d) = rootO :: (brow step (fun _ => true) x q E).map upO
  | 0 => row_up E (Nat.le_refl _)
  | d + 1 => by
    rw [← Nat.add_assoc, brow, row_up2 hx d]
    have hs : stepO step E l (upO x).1 (E + d) = some x.1 := by show some _ = _; rw [if_neg (by omega)]
    unfold bvis
    rw [hs, if_neg]
    intro hc
    refine hc.2 ((up_mem _ _).2 ?_)
    obtain ⟨t, ht⟩ := brow_pre (step := step) (ok := fun _ => true) x q E
    rw [ht]
    exact List.mem_map.2 ⟨x, List.mem_append.2 (.inl hx), rfl⟩
theorem row_root {l : List K} (hn : l.Nodup) : ∀ e, e ≤ l.length → brow (stepO step E l) (fun _ => true) rootO [rootO] e = rootO :: (st0 (l.take e) 0).map upO
  | 0, _ => by simp [brow, st0]
  | e + 1, he => by
    have hl : e < l.length := by omega
    rw [brow, row_root hn e (by omega)]
    have hs : stepO step E l (rootO : Option K × List Nat).1 e = some l[e] := List.getElem?_eq_getElem hl
    unfold bvis
    rw [hs, if_pos]
    · have ht : l.take (e + 1) = l.take e ++ [l[e]] := (List.take_append_getElem hl).symm
      rw [ht, st0_snoc, List.map_append]
      simp only [rootO, upO, List.cons_append, List.nil_append, List.map_cons, List.map_nil, List.length_take]
      rw [Nat.min_eq_left (by omega), Nat.zero_add]
    · refine ⟨rfl, fun h => ?_⟩
      rw [up_mem, st0_fst] at h
      obtain ⟨i, hi, hie⟩ := List.getElem_of_mem h
      rw [List.length_take, Nat.min_eq_left (by omega)] at hi
      rw [List.getElem_take] at hie
      exact List.pairwise_iff_getElem.1 hn i e (by omega) hl hi hie
theorem row_root2 {l : List K} (hn : l.Nodup) : ∀ d, brow (stepO step E l) (fun _ => true) rootO [rootO] (l.length + d) = rootO :: (st0 l 0).map upO
  | 0 => by have := row_root (step := step) (E := E) hn l.length (Nat.le_refl _); rwa [List.take_length] at this
  | d + 1 => by
    rw [← Nat.add_assoc, brow, row_root2 hn d]
    have hs : stepO step E l (rootO : Option K × List Nat).1 (l.length + d) = none := List.getElem?_eq_none (by omega)
    unfold bvis
    rw [hs, if_neg]
    exact fun h => h.2 (by simp [rootO])
theorem bfs_up {l : List K} (hn : l.Nodup) {F : Nat} (h1 : l.length ≤ F) (h2 : E ≤ F) : ∀ i, bfs (stepO step E l) (fun _ => true) F none (i + 1) = rootO :: (bfsL step E (st0 l 0) i).map upO
  | 0 => by
    have h := row_root2 (step := step) (E := E) hn (F - l.length)
    rw [show l.length + (F - l.length) = F by omega] at h
    exact h
  | i + 1 => by
    have ih := bfs_up hn h1 h2 i
    rw [bfs, ih, bfsL]
    have hg : ((rootO : Option K × List Nat) :: (bfsL step E (st0 l 0) i).map upO)[i + 1]? = ((bfsL step E (st0 l 0) i)[i]?).map upO := by simp
    rw [hg]
    cases hx : (bfsL step E (st0 l 0) i)[i]? with
    | none => rfl
    | some x =>
      have h := row_up2 (step := step) (E := E) (l := l) (List.mem_of_getElem? hx) (F - E)
      rw [show E + (F - E) = F by omega] at h
      exact h
theorem bfsL_form {l : List K} (i : Nat) : ∀ y ∈ bfsL step E (st0 l 0) i, ∃ (s : Nat) (k : K) (u : List Nat), y.2 = s :: u ∧ l[s]? = some k ∧ y.1 = bev step k u ∧ ∀ e ∈ u, e < E := by
  induction i with
  | zero =>
    intro y hy
    obtain ⟨j, hj, rfl⟩ := List.getElem_of_mem hy
    obtain ⟨h1, h2⟩ := st0_get l 0 j _ (List.getElem?_eq_getElem hj)
    exact ⟨j, _, [], by rw [h2]; simp, h1, rfl, fun e he => nomatch he⟩
  | succ i ih =>
    rw [bfsL]
    split
    · rename_i x hx
      have hxm := ih x (List.mem_of_getElem? hx)
      have key : ∀ e, e ≤ E → ∀ y ∈ brow step (fun _ => true) x (bfsL step E (st0 l 0) i) e, ∃ (s : Nat) (k : K) (u : List Nat), y.2 = s :: u ∧ l[s]? = some k ∧ y.1 = bev step k u ∧ ∀ e ∈ u, e < E := by
        intro e
        induction e with
        | zero => exact fun _ => ih
        | succ e ihe =>
          intro he y hy
          rw [brow, bvis] at hy
          split at hy
          · rcases List.mem_append.1 hy with hy | hy
            · exact ihe (by omega) y hy
            · simp only [List.mem_singleton] at hy
              subst hy
              obtain ⟨s, k, u, h1, h2, h3, h4⟩ := hxm
              refine ⟨s, k, u ++ [e], by simp [h1], h2, by rw [bev_snoc, ← h3], fun a ha => ?_⟩
              rcases List.mem_append.1 ha with ha | ha
              · exact h4 a ha
              · simp only [List.mem_singleton] at ha; omega
          · exact ihe (by omega) y hy
      exact key E (Nat.le_refl _)
    · exact ih
theorem bfsL_keys {p : K → Prop} {l : List K} (hp : ∀ k e, p k → e < E → p (step k e)) (h0 : ∀ k ∈ l, p k) (i : Nat) : ∀ y ∈ bfsL step E (st0 l 0) i, p y.1 := by
  intro y hy
  obtain ⟨s, k, u, _, h2, h3, h4⟩ := bfsL_form i y hy
  rw [h3]
  have key : ∀ (w : List Nat) (k : K), p k → (∀ e ∈ w, e < E) → p (w.foldl step k) := by
    intro w
    induction w with
    | nil => intro k hk _; exact hk
    | cons e w ih => intro k hk hw; exact ih _ (hp k e hk (hw e (by simp))) fun e' he' => hw e' (by simp [he'])
  exact key u k (h0 k (List.mem_of_getElem? h2)) h4
theorem bfsL_le {l : List (K × List Nat)} (i : Nat) : ∀ d, ∃ t, bfsL step E l (i + d) = bfsL step E l i ++ t
  | 0 => ⟨[], by simp⟩
  | d + 1 => by
    obtain ⟨t, ht⟩ := bfsL_le i d
    rw [← Nat.add_assoc, bfsL]
    split
    · rename_i x hx
      obtain ⟨u, hu⟩ := brow_pre (step := step) (ok := fun _ => true) x (bfsL step E l (i + d)) E
      exact ⟨t ++ u, by rw [hu, ht, List.append_assoc]⟩
    · exact ⟨t, ht⟩
theorem bfsL_succ {l : List (K × List Nat)} {i : Nat} {x : K × List Nat} (h : (bfsL step E l i)[i]? = some x) : bfsL step E l (i + 1) = brow step (fun _ => true) x (bfsL step E l i) E := by
  rw [bfsL, h]
theorem bfsL_in {l : List (K × List Nat)} {i : Nat} {x : K × List Nat} (h : (bfsL step E l i)[i]? = some x) {e : Nat} (he : e ≤ E) : ∃ t, bfsL step E l (i + 1) = brow step (fun _ => true) x (bfsL step E l i) e ++ t := by
  rw [bfsL_succ h]
  obtain ⟨t, ht⟩ := brow_le (step := step) (ok := fun _ => true) x (bfsL step E l i) e (E - e)
  rw [show e + (E - e) = E by omega] at ht
  exact ⟨t, ht⟩
theorem bfsL_fix {l : List (K × List Nat)} {i : Nat} (h : (bfsL step E l i).length ≤ i) : ∀ d, bfsL step E l (i + d) = bfsL step E l i
  | 0 => rfl
  | d + 1 => by
    have ih := bfsL_fix h d
    have hn : (bfsL step E l (i + d))[i + d]? = none := by rw [ih]; exact List.getElem?_eq_none (by omega)
    rw [← Nat.add_assoc, bfsL, hn]; exact ih
theorem bfsL_small {p : K → Prop} {code : K → Nat} {M : Nat} {l : List K} (hn : l.Nodup) (hp : ∀ k e, p k → e < E → p (step k e)) (h0 : ∀ k ∈ l, p k) (hc : ∀ k, p k → code k < M) (hi : ∀ k k', p k → p k' → code k = code k' → k = k') (i : Nat) : (bfsL step E (st0 l 0) i).length ≤ M := by
  have hup := bfs_up (step := step) (E := E) hn (F := max l.length E) (by omega) (by omega) i
  have h := nodup_le (M := M) (l := (bfsL step E (st0 l 0) i).map fun y => code y.1) ?_ ?_
  · simpa using h
  · have hnd := (bfs_inv (step := stepO step E l) (ok := fun _ => true) (E := max l.length E) (s := none) (i + 1)).nd
    rw [hup, List.map_cons, List.nodup_cons, List.map_map] at hnd
    have h2 := hnd.2
    have hk := bfsL_keys (step := step) (E := E) (l := l) hp h0 i
    refine List.pairwise_map.2 (List.Pairwise.imp_of_mem ?_ (List.pairwise_map.1 h2))
    intro a b ha hb hab hc
    exact hab (congrArg some (hi _ _ (hk a ha) (hk b hb) hc))
  · intro x hx
    obtain ⟨y, hy, rfl⟩ := List.mem_map.1 hx
    exact hc _ (bfsL_keys (step := step) (E := E) (l := l) hp h0 i y hy)
theorem bfsL_plen {l : List K} (hn : l.Nodup) (i j : Nat) (y : K × List Nat) (h : (bfsL step E (st0 l 0) i)[j]? = some y) : y.2.length ≤ j + 1 := by
  have hup := bfs_up (step := step) (E := E) hn (F := max l.length E) (by omega) (by omega) i
  refine bfs_plen (step := stepO step E l) (ok := fun _ => true) (E := max l.length E) (s := none) (i + 1) (j + 1) (upO y) ?_
  rw [hup, List.getElem?_cons_succ, List.getElem?_map, h]; rfl
/-- A word of a start and edges. -/
def MW (E : Nat) (l : List K) (step : K → Nat → K) (done : K → Bool) (w : List Nat) : Prop := ∃ (s : Nat) (k : K) (u : List Nat), w = s :: u ∧ l[s]? = some k ∧ (∀ e ∈ u, e < E) ∧ done (bev step k u) = true
theorem bfsL_srt {l : List K} (hn : l.Nodup) (i : Nat) : (bfsL step E (st0 l 0) i).Pairwise fun a b => slt a.2 b.2 := by
  have hs := (bfs_inv (step := stepO step E l) (ok := fun _ => true) (E := max l.length E) (s := none) (i + 1)).srt
  rw [bfs_up (step := step) (E := E) hn (by omega) (by omega) i, List.pairwise_cons, List.pairwise_map] at hs
  exact hs.2
theorem bfsL_min {l : List K} (hn : l.Nodup) {i : Nat} (hi : (bfsL step E (st0 l 0) i).length ≤ i) {s : Nat} {k : K} {u : List Nat} (hs : l[s]? = some k) (hu : ∀ e ∈ u, e < E) : ∃ y ∈ bfsL step E (st0 l 0) i, y.1 = bev step k u ∧ sle y.2 (s :: u) := by
  have hup := bfs_up (step := step) (E := E) hn (F := max l.length E) (by omega) (by omega) i
  have hsl := (List.getElem?_eq_some_iff.1 hs).1
  obtain ⟨y, hy, h1, h2⟩ := bfs_min (step := stepO step E l) (ok := fun _ => true) (E := max l.length E) (s := none) (i := i + 1) (by rw [hup, List.length_cons, List.length_map]; omega) (s :: u) (by
    intro e he
    rcases List.mem_cons.1 he with rfl | he
    · exact ⟨by omega, rfl⟩
    · exact ⟨by have := hu e he; omega, rfl⟩)
  have h3 : bev (stepO step E l) none (s :: u) = some (bev step k u) := by
    have h4 : bev (stepO step E l) none (s :: u) = bev (stepO step E l) (stepO step E l none s) u := rfl
    have h5 : stepO step E l none s = some k := hs
    rw [h4, h5, bev_up u k hu]
  rw [h3] at h1
  rw [hup] at hy
  rcases List.mem_cons.1 hy with rfl | hy
  · exact absurd h1 (by simp [rootO])
  · obtain ⟨z, hz, rfl⟩ := List.mem_map.1 hy
    exact ⟨z, hz, Option.some.inj h1, h2⟩
/-- The path to the first node that is done. -/
def mP (M : Nat) (step : K → Nat → K) (E : Nat) (l : List K) (done : K → Bool) : Option (List Nat) := ((bfsL step E (st0 l 0) M).find? fun y => done y.1).map (·.2)
theorem mP_some {M i : Nat} {l : List K} {done : K → Bool} {y : K × List Nat} (hi : i ≤ M) (hy : (bfsL step E (st0 l 0) i)[i]? = some y) (ha : done y.1 = true) (hb : ∀ j, j < i → ∀ z, (bfsL step E (st0 l 0) i)[j]? = some z → done z.1 = false) : mP M step E l done = some y.2 := by
  obtain ⟨t, ht⟩ := bfsL_le (step := step) (E := E) (l := st0 l 0) i (M - i)
  rw [show i + (M - i) = M by omega] at ht
  have hl := (List.getElem?_eq_some_iff.1 hy).1
  rw [mP, ht, find_at (p := fun y : K × List Nat => done y.1) (i := i) (x := y) (by rw [List.getElem?_append_left hl]; exact hy) ha fun j hj z hz => hb j hj z (by rwa [List.getElem?_append_left (by omega)] at hz)]
  rfl
theorem mP_none {M i : Nat} {l : List K} {done : K → Bool} (hi : i ≤ M) (hl : (bfsL step E (st0 l 0) i).length ≤ i) (hb : ∀ j, j < i → ∀ z, (bfsL step E (st0 l 0) i)[j]? = some z → done z.1 = false) : mP M step E l done = none := by
  have e : bfsL step E (st0 l 0) M = bfsL step E (st0 l 0) i := by rw [show M = i + (M - i) by omega, bfsL_fix hl]
  rw [mP, e, List.find?_eq_none.2]
  · rfl
  · intro y hy
    obtain ⟨j, hj, rfl⟩ := List.getElem_of_mem hy
    rw [hb j (by omega) _ (List.getElem?_eq_getElem hj)]; decide
/-- It is the least word. -/
theorem mP_least {M : Nat} {l : List K} {done : K → Bool} (hn : l.Nodup) (hM : (bfsL step E (st0 l 0) M).length ≤ M) {w : List Nat} (h : mP M step E l done = some w) : MW E l step done w ∧ ∀ v, MW E l step done v → sle w v := by
  rw [mP, Option.map_eq_some_iff] at h
  obtain ⟨y, hy, rfl⟩ := h
  rw [List.find?_eq_some_iff_getElem] at hy
  obtain ⟨hd, i, hi, hyi, hbefore⟩ := hy
  have hym : y ∈ bfsL step E (st0 l 0) M := by rw [← hyi]; exact List.getElem_mem hi
  refine ⟨?_, ?_⟩
  · obtain ⟨s, k, u, h1, h2, h3, h4⟩ := bfsL_form M y hym
    exact ⟨s, k, u, h1, h2, h4, by rw [← h3]; exact hd⟩
  · rintro v ⟨s, k, u, rfl, h2, h4, h5⟩
    obtain ⟨z, hz, h6, h7⟩ := bfsL_min (step := step) (E := E) hn hM h2 h4
    obtain ⟨j, hj, hzj⟩ := List.getElem_of_mem hz
    refine sle_trans ?_ h7
    rcases Nat.lt_trichotomy j i with hji | rfl | hji
    · have := hbefore j hji
      rw [hzj, h6, h5] at this; exact absurd this (by decide)
    · rw [hyi] at hzj; rw [hzj]; exact sle_refl _
    · have := List.pairwise_iff_getElem.1 (bfsL_srt (step := step) (E := E) hn M) i j hi hj hji
      rw [hyi, hzj] at this
      exact .inl this
theorem mP_no {M : Nat} {l : List K} {done : K → Bool} (hn : l.Nodup) (hM : (bfsL step E (st0 l 0) M).length ≤ M) (h : mP M step E l done = none) : ∀ v, ¬ MW E l step done v := by
  rintro v ⟨s, k, u, rfl, h2, h4, h5⟩
  rw [mP, Option.map_eq_none_iff, List.find?_eq_none] at h
  obtain ⟨z, hz, h6, _⟩ := bfsL_min (step := step) (E := E) hn hM h2 h4
  exact h z hz (by rw [h6]; exact h5)
/-- One start. -/
theorem bfsL_one (s : K) : ∀ i, bfsL step E (st0 [s] 0) i = (bfs step (fun _ => true) E s i).map fun y => (y.1, 0 :: y.2)
  | 0 => rfl
  | i + 1 => by
    have ih := bfsL_one s i
    have hrow : ∀ (x : K × List Nat) (q : List (K × List Nat)) e, brow step (fun _ => true) (x.1, 0 :: x.2) (q.map fun y => (y.1, 0 :: y.2)) e = (brow step (fun _ => true) x q e).map fun y => (y.1, 0 :: y.2) := by
      intro x q e
      induction e with
      | zero => rfl
      | succ e ihe =>
        rw [brow, ihe, brow]
        have hm : ((brow step (fun _ => true) x q e).map fun y => (y.1, 0 :: y.2)).map (·.1) = (brow step (fun _ => true) x q e).map (·.1) := by rw [List.map_map]; rfl
        unfold bvis
        rw [hm]
        split
        · rw [List.map_append]; rfl
        · rfl
    rw [bfsL, ih, bfs, List.getElem?_map]
    cases hx : (bfs step (fun _ => true) E s i)[i]? with
    | none => rfl
    | some x => exact hrow x _ E
end
theorem rtP_mP (M : Nat) (es : List Int) (m : Nat) (xs : List Int) (n : Nat) (s : RK) : mP M (kstep es m xs n) m [s] (fun k => allD k.2 n) = (rtP M es m xs n s).map fun p => 0 :: p := by
  rw [mP, bfsL_one, List.find?_map, rtP, rQ, Option.map_map, Option.map_map]
  rfl

end Go.Proofs.Ytekikmdjldincaa
