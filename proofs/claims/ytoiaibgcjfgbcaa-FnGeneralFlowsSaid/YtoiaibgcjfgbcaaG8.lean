/- Walks: odd neighbours of a set, the greatest number. -/
import Derived.Test.YtoiaibgcjfgbcaaG7
import Derived.Test.YtoiaibgcjfgbcaaProg
set_option linter.unusedSimpArgs false
set_option linter.unusedVariables false
namespace Go.Proofs.Ytoiaibgcjfgbcaa
open Go Go.RowKit
namespace FwoT
theorem Tagg_26 : aggOf Try.prog 26 = some 4 := by kernel_rfl
theorem Tcall_24 : callable Try.prog 24 = true := by kernel_rfl
theorem Tcall_48 : callable Try.prog 48 = true := by kernel_rfl
theorem Tcall_49 : callable Try.prog 49 = true := by kernel_rfl
theorem Tfo_26_0 : fieldOff Try.prog 26 0 = some 0 := by kernel_rfl
theorem Tone_3 : oneOf Try.prog 3 = true := by kernel_rfl
theorem Tsl_24 : sliceOf Try.prog 24 = some (3, 1, 8, [.int .i64 0]) := by kernel_rfl
end FwoT
open FwoT
/-- The greatest number, or 0. -/
def mostL (xs : List Int) : Nat → Int
  | 0 => 0
  | k + 1 => if ix xs k > mostL xs k then ix xs k else mostL xs k
theorem mostL_le {xs : List Int} {B : Nat} : ∀ {k : Nat}, (∀ i, i < k → ix xs i ≤ B) → mostL xs k ≤ B
  | 0, _ => by simp [mostL]
  | k + 1, h => by
    have h1 := mostL_le (k := k) fun i hi => h i (by omega)
    have h2 := h k (by omega)
    rw [mostL]; split <;> omega

set_option maxHeartbeats 1000000 in
set_option maxRecDepth 20000 in
theorem OddNeighbors_spec {ve vi vo : Value} {n m ni no set : Nat} {es is os : List Int} {w : World} (hg : ogB n es m is ni os no = true) (hset : set < 2 ^ n) (he : Sl w ve 2 m (ints es)) (hi : Sl w vi 1 ni (ints is)) (ho : Sl w vo 1 no (ints os)) : Calls Try.prog 22 #[.agg #[.int .i64 (n : Int), ve, vi, vo], .int .i64 (set : Int)] w (Post No w fun v _ => v = .tuple #[.int .i64 ((oddM es m n set n : Nat) : Int), .bool true]) := by
 obtain ⟨hn1, hn10, hes, hri, hro⟩ := og_ok hg
 have hp10 := pow10 hn10
 obtain ⟨q, hq⟩ : ∃ q : Nat, q = 2 ^ n := ⟨_, rfl⟩
 refine enter (n := 21) (args := [.agg #[.int .i64 (((n : Nat) : Int)), ve, vi, vo], .int .i64 (((set : Nat) : Int))]) Try.func22 rfl rfl (St.empty _ _) ?_
 refine Run.sr ?_
 refine Run.step rfl (OpStep.box (us := [.int .i64 (((n : Nat) : Int)), ve, vi, vo]) rfl fun b1 => ?_)
 refine Run.p (.int .i64 0) rfl rfl ?_
 refine Run.p (.bool false) rfl rfl ?_
 refine Run.done ?_
 refine Run.seq ?_
 refine Run.sr ?_
 refine Run.y (.agg #[.int .i64 (((n : Nat) : Int)), ve, vi, vo]) rfl (OpY.loadN (cs := [.int .i64 (((n : Nat) : Int)), ve, vi, vo]) Tagg_26 rfl (Cells.blk (.head _) ⟨rfl, rfl, rfl, rfl, trivial⟩)) ?_
 refine Run.q (v := .bool true) rfl (OpQ.call (vs := [.agg #[.int .i64 (((n : Nat) : Int)), ve, vi, vo]]) (caps := []) Tcall_24 rfl rfl (fun w hs => (by have h := IsValidOpenGraph_spec (n := n) (by omega) (hs.sl he) (hs.sl hi) (hs.sl ho); rw [hg] at h; exact h))) ?_
 refine Run.p (.bool false) rfl rfl ?_
 refine Run.p (.bool false) rfl rfl ?_
 refine Run.p (.int .i64 (((set : Nat) : Int))) rfl rfl ?_
 refine Run.y (.pointer (some ⟨b1, 0, none⟩)) rfl (OpY.fieldAddr Tfo_26_0 rfl rfl) ?_
 refine Run.y (.int .i64 (((n : Nat) : Int))) rfl (OpY.load1 Tone_3 rfl (Cells.blk (.head _) ⟨rfl, trivial⟩)) ?_
 refine Run.y (.int .i64 (((q : Nat) : Int))) rfl (OpY.shlOne rfl rfl rfl (by omega) hq) ?_
 refine Run.y (.int .i64 ((((q : Nat) : Int)) - 1)) rfl (OpY.sub rfl rfl rfl (by omega) (by omega)) ?_
 refine Run.q (v := .bool (within (((set : Nat) : Int)) 0 ((((q : Nat) : Int)) - 1))) rfl (OpQ.call (vs := [.int .i64 (((set : Nat) : Int)), .int .i64 0, .int .i64 ((((q : Nat) : Int)) - 1)]) (caps := []) Tcall_48 rfl rfl (fun w hs => within_spec _ _ _ w)) ?_
 refine Run.p (.bool (!(within (((set : Nat) : Int)) 0 ((((q : Nat) : Int)) - 1)))) rfl rfl ?_
 refine Run.p (.bool (!(within (((set : Nat) : Int)) 0 ((((q : Nat) : Int)) - 1)))) rfl rfl ?_
 refine Run.done ?_
 refine Run.cond (b := !(within (((set : Nat) : Int)) 0 ((((q : Nat) : Int)) - 1))) rfl (fun h17 => ?_) (fun h17 => ?_)
 ·exact absurd h17 (by simp [within]; omega) --DONE
 ·have p17 := h17; try simp only [bs] at p17
  refine Run.skip ?_
  refine Run.sr ?_
  refine Run.y (.agg #[.int .i64 (((n : Nat) : Int)), ve, vi, vo]) rfl (OpY.loadN (cs := [.int .i64 (((n : Nat) : Int)), ve, vi, vo]) Tagg_26 rfl (Cells.blk (.head _) ⟨rfl, rfl, rfl, rfl, trivial⟩)) ?_
  refine Run.p (.int .i64 (((set : Nat) : Int))) rfl rfl ?_
  refine Run.q (v := .int .i64 (((oddM es m n set n : Nat) : Int))) rfl (OpQ.call (vs := [.agg #[.int .i64 (((n : Nat) : Int)), ve, vi, vo], .int .i64 (((set : Nat) : Int))]) (caps := []) Tcall_49 rfl rfl (fun w hs => odd_spec hn10 hset hes (hs.sl he))) ?_
  refine Run.p (.int .i64 (((oddM es m n set n : Nat) : Int))) rfl rfl ?_
  refine Run.p (.bool true) rfl rfl ?_
  refine Run.done ?_
  refine Run.ret ?_
  refine ⟨.tuple #[.int .i64 (((oddM es m n set n : Nat) : Int)), .bool true], [], Out.two rfl rfl rfl, (Some'.weak (.nil _)), ?_⟩
  rfl

set_option maxHeartbeats 1000000 in
set_option maxRecDepth 20000 in
theorem qMost_spec {va : Value} {n : Nat} {xs : List Int} {w : World} (ha : Sl w va 1 n (ints xs)) : Calls Try.prog 20 #[va] w (Post No w fun v _ => v = .int .i64 (mostL xs n)) := by
 have hlx := ha.len
 have hle := ha.le
 obtain ⟨A, c, rfl, _, _⟩ := ha.form0
 refine enter (n := 18) (args := [.slice A n c]) Try.func20 rfl rfl (St.empty _ _) ?_
 refine Run.sr ?_
 refine Run.p (.int .i64 0) rfl rfl ?_
 refine Run.dsr ?_
 refine Run.p (.int .i64 0) rfl rfl ?_
 refine Run.done ?_
 refine Run.seq ?_
 refine Run.sr ?_
 refine Run.p (.slice A n c) rfl rfl ?_
 refine Run.y (.int .i64 (((n : Nat) : Int))) rfl (OpY.len Tsl_24 rfl) ?_
 refine Run.p (.int .i64 0) rfl rfl ?_
 refine Run.done ?_
 refine Run.block ?_
 refine Run.loop (ι := Nat) [3, 5, 8, 9, 10, 11, 12, 13, 14, 15, 16] (fun k => [(3, .int .i64 (mostL xs k)), (8, .int .i64 (((k : Nat) : Int)))]) (fun k => []) (fun k => k ≤ n) (fun k => n - k) 0 ?_ ?_ ?_ ?_
 ·exact Nat.zero_le _
 ·exact ⟨rfl, rfl, trivial⟩
 ·exact (Some'.weak (.nil _))
 ·rintro k fr hinv
  show Run _ _ (over _ _ [(3, .int .i64 (mostL xs k)), (8, .int .i64 (((k : Nat) : Int)))] fr) []
  try dsimp only at hinv
  refine Run.sr ?_
  refine Run.p (.bool (decide ((((k : Nat) : Int)) < (((n : Nat) : Int))))) rfl rfl ?_
  refine Run.done ?_
  refine Run.seq ?_
  refine Run.cond (b := decide ((((k : Nat) : Int)) < (((n : Nat) : Int)))) rfl (fun h9 => ?_) (fun h9 => ?_)
  ·have p9 := h9; try simp only [bs] at p9
   have hkn : k < n := by omega
   obtain ⟨bq, oq, rfl⟩ := ha.opn (by omega)
   refine Run.skip ?_
   refine Run.seq ?_
   refine Run.block ?_
   refine Run.sr ?_
   refine Run.y (.pointer (some ⟨bq, oq + k, none⟩)) rfl (OpY.index (kk := k) Tsl_24 rfl rfl (by omega) (by omega) (by first | rfl | omega)) ?_
   refine Run.y (.int .i64 (ix xs (k))) rfl (OpY.load1 Tone_3 rfl (Cells.arg (k := k) ha rfl (by omega) (pre1 (by omega)))) ?_
   refine Run.p (.int .i64 (ix xs (k))) rfl rfl ?_
   refine Run.dsr ?_
   refine Run.p (.int .i64 (ix xs (k))) rfl rfl ?_
   refine Run.p (.int .i64 (mostL xs k)) rfl rfl ?_
   refine Run.p (.bool (decide ((ix xs (k)) > (mostL xs k)))) rfl rfl ?_
   refine Run.done ?_
   refine Run.cond (b := decide ((ix xs (k)) > (mostL xs k))) rfl (fun h14 => ?_) (fun h14 => ?_)
   ·have p14 := h14; try simp only [bs] at p14
    have hst : mostL xs (k + 1) = ix xs k := by rw [mostL, if_pos (by omega)]
    refine Run.region ?_
    refine Run.p (.int .i64 (ix xs (k))) rfl rfl ?_
    refine Run.p (.int .i64 (ix xs (k))) rfl rfl ?_
    refine Run.done ?_
    refine Run.blockEnd ?_
    refine Run.region ?_
    refine Run.y (.int .i64 (((k + 1 : Nat) : Int))) rfl (OpY.add rfl rfl (by omega) (by omega) (by omega)) ?_
    refine Run.p (.int .i64 (((k + 1 : Nat) : Int))) rfl rfl ?_
    refine Run.done ?_
    refine Run.goal ⟨(by repeat (first | exact Same.refl _ _ | refine Same.put rfl ?_ | refine Same.over rfl rfl ?_)), k + 1, ?_, ?_, ?_, ?_⟩
    ·exact hkn
    ·omega
    ·exact ⟨(by show Value.int _ _ = Value.int _ _; rw [hst]), (by first | rfl | (congr 1; omega) | simp), trivial⟩
    ·exact (Some'.weak (.nil _))
   ·have p14 := h14; try simp only [bs] at p14
    have hst : mostL xs (k + 1) = mostL xs k := by rw [mostL, if_neg (by omega)]
    refine Run.skip ?_
    refine Run.blockEnd ?_
    refine Run.region ?_
    refine Run.y (.int .i64 (((k + 1 : Nat) : Int))) rfl (OpY.add rfl rfl (by omega) (by omega) (by omega)) ?_
    refine Run.p (.int .i64 (((k + 1 : Nat) : Int))) rfl rfl ?_
    refine Run.done ?_
    refine Run.goal ⟨(by repeat (first | exact Same.refl _ _ | refine Same.put rfl ?_ | refine Same.over rfl rfl ?_)), k + 1, ?_, ?_, ?_, ?_⟩
    ·exact hkn
    ·omega
    ·exact ⟨(by show Value.int _ _ = Value.int _ _; rw [hst]), (by first | rfl | (congr 1; omega) | simp), trivial⟩
    ·exact (Some'.weak (.nil _))
  ·have p9 := h9; try simp only [bs] at p9
   have hkn : k = n := by omega
   refine Run.exit rfl ?_
   refine Run.sr ?_
   refine Run.p (.int .i64 (mostL xs k)) rfl rfl ?_
   refine Run.p (.int .i64 (mostL xs k)) rfl rfl ?_
   refine Run.done ?_
   refine Run.ret ?_
   refine ⟨.int .i64 (mostL xs k), [], Out.one rfl rfl, (Some'.weak (.nil _)), ?_⟩
   show _ = _; rw [hkn]

end Go.Proofs.Ytoiaibgcjfgbcaa
/- Plain laws: a step of the searches for flows, node by node. -/
set_option linter.unusedSimpArgs false
set_option linter.unusedVariables false
namespace Go.Proofs.Ytoiaibgcjfgbcaa
open Go Go.RowKit
theorem set_len0 {a n : Nat} (h : ∀ i, i < n → a.testBit i = false) : setN a n = [] := by
  induction n with
  | zero => rfl
  | succ n ih =>
    rw [setN, filterL, if_neg (by rw [h n (by omega)]; decide), List.append_nil]
    exact ih fun i hi => h i (by omega)
theorem set_one {a : Nat} : ∀ {n : Nat}, (setN a n).length = 1 → ∃ v : Nat, v < n ∧ setN a n = [(v : Int)] ∧ ∀ i, i < n → (a.testBit i = true ↔ i = v)
  | 0, h => by simp [setN, filterL] at h
  | n + 1, h => by
    rw [setN, filterL] at h ⊢
    cases hb : a.testBit n with
    | true =>
      rw [hb, if_pos rfl, List.length_append] at h
      simp only [List.length_cons, List.length_nil] at h
      have h0 : filterL (fun k => a.testBit k) n = [] := List.length_eq_zero_iff.1 (by omega)
      rw [if_pos rfl, h0]
      refine ⟨n, by omega, rfl, fun i hi => ?_⟩
      constructor
      · intro hi2
        refine Decidable.byContradiction fun hne => ?_
        obtain ⟨j, hj, _⟩ := filterL_mem (p := fun k => a.testBit k) (N := n) (v := i) (by omega) hi2
        rw [h0] at hj; simp at hj
      · rintro rfl; exact hb
    | false =>
      rw [hb, if_neg (by decide), List.append_nil] at h
      rw [if_neg (by decide), List.append_nil]
      obtain ⟨v, h1, h2, h3⟩ := set_one (n := n) h
      refine ⟨v, by omega, h2, fun i hi => ?_⟩
      by_cases e : i = n
      · subst e; rw [hb]; constructor
        · intro h; cases h
        · intro h; omega
      · exact h3 i (by omega)
theorem one_bit {a n : Nat} (ha : a < 2 ^ n) (h : (setN a n).length = 1) : ∃ v : Nat, v < n ∧ a = 2 ^ v ∧ setN a n = [(v : Int)] := by
  obtain ⟨v, h1, h2, h3⟩ := set_one h
  refine ⟨v, h1, Nat.eq_of_testBit_eq fun i => ?_, h2⟩
  rw [Nat.testBit_two_pow]
  by_cases hi : i < n
  · rw [Bool.eq_iff_iff, h3 i hi, decide_eq_true_eq]; exact ⟨fun h => h.symm, fun h => h.symm⟩
  · rw [Nat.testBit_lt_two_pow (Nat.lt_of_lt_of_le ha (Nat.pow_le_pow_right (by omega) (by omega))), decide_eq_false (by omega)]
theorem set_pow {v n : Nat} (hv : v < n) : setN (2 ^ v) n = [(v : Int)] := by
  induction n with
  | zero => omega
  | succ n ih =>
    rw [setN, filterL, Nat.testBit_two_pow]
    by_cases e : v = n
    · subst e
      have h0 : setN (2 ^ v) v = [] := set_len0 fun i hi => by rw [Nat.testBit_two_pow]; exact decide_eq_false (by omega)
      rw [if_pos (by simp)]
      show setN (2 ^ v) v ++ [(v : Int)] = _
      rw [h0]; rfl
    · rw [if_neg (by simpa using e), List.append_nil]; exact ih (by omega)
/-- Nodes from t on are done, the greatest first. -/
structure DnI (g : Nat → Nat → Bool) (n t k : Nat) (nx ly A L : List Int) : Prop where
  la : A.length = n
  ll : L.length = n
  at_ : ∀ v, v < n → (∃ u : Nat, t ≤ u ∧ u < n ∧ g u v = true ∧ (∀ w, t ≤ w → w < u → g w v = false) ∧ ix A v = (u : Int) ∧ ix L v = (k : Int)) ∨ ((∀ u, t ≤ u → u < n → g u v = false) ∧ ix A v = ix nx v ∧ ix L v = ix ly v)
theorem DnI.start {g : Nat → Nat → Bool} {n k : Nat} {nx ly : List Int} (h1 : nx.length = n) (h2 : ly.length = n) : DnI g n n k nx ly nx ly := ⟨h1, h2, fun v _ => .inr ⟨fun u h h' => by omega, rfl, rfl⟩⟩
theorem DnI.hit {g : Nat → Nat → Bool} {n u v k : Nat} {nx ly A L : List Int} (h : DnI g n (u + 1) k nx ly A L) (hu : u < n) (hv : v < n) (hg : g u v = true) (ho : ∀ w, w < n → w ≠ v → g u w = false) : DnI g n u k nx ly (A.set v (u : Int)) (L.set v (k : Int)) := by
  refine ⟨by simpa using h.la, by simpa using h.ll, fun w hw => ?_⟩
  rw [ix_lset (by rw [h.la]; exact hv), ix_lset (by rw [h.ll]; exact hv)]
  by_cases e : w = v
  · subst e
    rw [if_pos rfl, if_pos rfl]
    exact .inl ⟨u, Nat.le_refl _, hu, hg, fun x h1 h2 => by omega, rfl, rfl⟩
  · rw [if_neg e, if_neg e]
    rcases h.at_ w hw with ⟨x, h1, h2, h3, h4, h5⟩ | ⟨h1, h2⟩
    · exact .inl ⟨x, by omega, h2, h3, fun y hy hy2 => by
        by_cases e2 : y = u
        · subst e2; exact ho w hw e
        · exact h4 y (by omega) hy2, h5⟩
    · exact .inr ⟨fun y hy hy2 => by
        by_cases e2 : y = u
        · subst e2; exact ho w hw e
        · exact h1 y (by omega) hy2, h2⟩
theorem DnI.miss {g : Nat → Nat → Bool} {n u k : Nat} {nx ly A L : List Int} (h : DnI g n (u + 1) k nx ly A L) (ho : ∀ w, w < n → g u w = false) : DnI g n u k nx ly A L := by
  refine ⟨h.la, h.ll, fun w hw => ?_⟩
  rcases h.at_ w hw with ⟨x, h1, h2, h3, h4, h5⟩ | ⟨h1, h2⟩
  · exact .inl ⟨x, by omega, h2, h3, fun y hy hy2 => by
      by_cases e2 : y = u
      · subst e2; exact ho w hw
      · exact h4 y (by omega) hy2, h5⟩
  · exact .inr ⟨fun y hy hy2 => by
      by_cases e2 : y = u
      · subst e2; exact ho w hw
      · exact h1 y (by omega) hy2, h2⟩
/-- Nodes below t are done, the first one counts. -/
structure UpI (g : Nat → Nat → Bool) (n t k : Nat) (nx ly A L : List Int) : Prop where
  la : A.length = n
  ll : L.length = n
  at_ : ∀ v, v < n → (∃ u : Nat, u < t ∧ g u v = true ∧ (∀ w, w < u → g w v = false) ∧ ix A v = (u : Int) ∧ ix L v = (k : Int)) ∨ ((∀ u, u < t → g u v = false) ∧ ix A v = ix nx v ∧ ix L v = ix ly v)
theorem UpI.start {g : Nat → Nat → Bool} {n k : Nat} {nx ly : List Int} (h1 : nx.length = n) (h2 : ly.length = n) : UpI g n 0 k nx ly nx ly := ⟨h1, h2, fun v _ => .inr ⟨fun u h => by omega, rfl, rfl⟩⟩
theorem UpI.hit {g : Nat → Nat → Bool} {n u v k : Nat} {nx ly A L : List Int} (h : UpI g n u k nx ly A L) (hv : v < n) (hL : ix L v < 0) (hg : g u v = true) (ho : ∀ w, w < n → w ≠ v → g u w = false) : UpI g n (u + 1) k nx ly (A.set v (u : Int)) (L.set v (k : Int)) := by
  refine ⟨by simpa using h.la, by simpa using h.ll, fun w hw => ?_⟩
  rw [ix_lset (by rw [h.la]; exact hv), ix_lset (by rw [h.ll]; exact hv)]
  by_cases e : w = v
  · subst e
    rw [if_pos rfl, if_pos rfl]
    rcases h.at_ w hw with ⟨x, _, _, _, _, h5⟩ | ⟨h1, _⟩
    · omega
    · exact .inl ⟨u, by omega, hg, h1, rfl, rfl⟩
  · rw [if_neg e, if_neg e]
    rcases h.at_ w hw with ⟨x, h1, h3, h4, h5⟩ | ⟨h1, h2⟩
    · exact .inl ⟨x, by omega, h3, h4, h5⟩
    · exact .inr ⟨fun y hy => by
        by_cases e2 : y = u
        · subst e2; exact ho w hw e
        · exact h1 y (by omega), h2⟩
theorem UpI.miss {g : Nat → Nat → Bool} {n u k : Nat} {nx ly A L : List Int} (h : UpI g n u k nx ly A L) (ho : ∀ w, w < n → g u w = true → 0 ≤ ix L w ∧ ix ly w < 0) : UpI g n (u + 1) k nx ly A L := by
  refine ⟨h.la, h.ll, fun w hw => ?_⟩
  rcases h.at_ w hw with ⟨x, h1, h3, h4, h5⟩ | ⟨h1, h2⟩
  · exact .inl ⟨x, by omega, h3, h4, h5⟩
  · refine .inr ⟨fun y hy => ?_, h2⟩
    by_cases e2 : y = u
    · subst e2
      cases hg : g y w with
      | false => rfl
      | true => have := ho w hw hg; omega
    · exact h1 y (by omega)
theorem cf_fin {es : List Int} {m n : Nat} {is : List Int} {ni : Nat} {os : List Int} {no k : Nat} {nx ly A L : List Int} (hf : FlI es m n is ni os no k nx ly) (hes : edgesOk (n : Int) es m = true) (hA : A.length = n) (hL : L.length = n)
    (h : ∀ v, v < n → (∃ u : Nat, u < n ∧ gdB es m n is ni nx ly u v = true ∧ (∀ w, w < u → gdB es m n is ni nx ly w v = false) ∧ ix A v = (u : Int) ∧ ix L v = (k : Int)) ∨ ((∀ u, u < n → gdB es m n is ni nx ly u v = false) ∧ ix A v = ix nx v ∧ ix L v = ix ly v)) :
    A = (cfS es m n is ni k (nx, ly)).1 ∧ L = (cfS es m n is ni k (nx, ly)).2 := by
  have hgu : ∀ u v, u < n → v < n → gdB es m n is ni nx ly u v = true → (unl ly n).testBit v = true := by
    intro u v hu hv hg
    have := (gd_iff hes hu).1 hg
    have h2 := (this.1.2.2.2 v hv).2 rfl
    rw [unl_bit]; simp [hv, h2.2]
  have key : ∀ v, v < n → ix A v = nxZ es m n is ni nx ly v ∧ ix L v = lyV es m n is ni k nx ly v := by
    intro v hv
    rcases h v hv with ⟨u, h1, h2, h3, h4, h5⟩ | ⟨h1, h2, h3⟩
    · have hb := hgu u v h1 hv h2
      have hfi : findI (fun u => gdB es m n is ni nx ly u v) n = (u : Int) := findI_hit h3 h2 h1
      rw [nxZ, lyV, hb, hfi, if_pos rfl, if_pos ⟨rfl, by omega⟩]
      exact ⟨h4, h5⟩
    · have hfi : findI (fun u => gdB es m n is ni nx ly u v) n = -1 := findI_none h1
      rw [nxZ, lyV, hfi]
      refine ⟨?_, by rw [if_neg (by omega)]; exact h3⟩
      by_cases hb : (unl ly n).testBit v = true
      · rw [if_pos hb, h2]
        rw [unl_bit] at hb
        simp only [Bool.and_eq_true, decide_eq_true_eq] at hb
        exact hf.nxo v hv (by omega)
      · rw [if_neg hb]; exact h2
  exact ⟨eq_mapN hA fun v hv => (key v hv).1, eq_mapN hL fun v hv => (key v hv).2⟩
theorem DnI.fin {es : List Int} {m n : Nat} {is : List Int} {ni : Nat} {os : List Int} {no k : Nat} {nx ly A L : List Int} (hf : FlI es m n is ni os no k nx ly) (hes : edgesOk (n : Int) es m = true) (h : DnI (gdB es m n is ni nx ly) n 0 k nx ly A L) : A = (cfS es m n is ni k (nx, ly)).1 ∧ L = (cfS es m n is ni k (nx, ly)).2 :=
  cf_fin hf hes h.la h.ll fun v hv => by
    rcases h.at_ v hv with ⟨u, _, h2, h3, h4, h5⟩ | ⟨h1, h2⟩
    · exact .inl ⟨u, h2, h3, fun w hw => h4 w (Nat.zero_le _) hw, h5⟩
    · exact .inr ⟨fun u hu => h1 u (Nat.zero_le _) hu, h2⟩
theorem UpI.fin {es : List Int} {m n : Nat} {is : List Int} {ni : Nat} {os : List Int} {no k : Nat} {nx ly A L : List Int} (hf : FlI es m n is ni os no k nx ly) (hes : edgesOk (n : Int) es m = true) (h : UpI (gdB es m n is ni nx ly) n n k nx ly A L) : A = (cfS es m n is ni k (nx, ly)).1 ∧ L = (cfS es m n is ni k (nx, ly)).2 :=
  cf_fin hf hes h.la h.ll h.at_
/-- What the search for a causal flow yields. -/
def cfO (es : List Int) (m n : Nat) (is : List Int) (ni : Nat) (os : List Int) (no : Nat) : Option (List Int × List Int) := if ogB n es m is ni os no = true then cfR es m n is ni (n + 1) 1 (List.replicate n (-1), ly0 os no n) else none
/-- Where the search stands: fuel f, the number k of the next layer. -/
structure CfI (es : List Int) (m n : Nat) (is : List Int) (ni : Nat) (os : List Int) (no f k : Nat) (nx ly : List Int) : Prop where
  run : cfR es m n is ni f k (nx, ly) = cfO es m n is ni os no
  fl : FlI es m n is ni os no k nx ly
  cnt : cntU ly n < f
  k1 : 1 ≤ k
  kf : k + f ≤ n + 2
theorem CfI.start {es : List Int} {m n : Nat} {is : List Int} {ni : Nat} {os : List Int} {no : Nat} (hg : ogB n es m is ni os no = true) : CfI es m n is ni os no (n + 1) 1 (List.replicate n (-1)) (ly0 os no n) := by
  refine ⟨by rw [cfO, if_pos hg], fl_start, ?_, Nat.le_refl _, by omega⟩
  have := cntU_le_n (ly0 os no n) n
  omega
theorem CfI.stop {es : List Int} {m n : Nat} {is : List Int} {ni : Nat} {os : List Int} {no f k : Nat} {nx ly : List Int} (h : CfI es m n is ni os no (f + 1) k nx ly) (h0 : unl ly n = 0) : cfO es m n is ni os no = some (nx, ly) := by
  rw [← h.run, cfR, if_pos h0]
theorem CfI.none {es : List Int} {m n : Nat} {is : List Int} {ni : Nat} {os : List Int} {no f k : Nat} {nx ly : List Int} (h : CfI es m n is ni os no (f + 1) k nx ly) (h0 : unl ly n ≠ 0) (h1 : unl (cfS es m n is ni k (nx, ly)).2 n = unl ly n) : cfO es m n is ni os no = .none := by
  rw [← h.run, cfR, if_neg h0, if_pos h1]
theorem CfI.next {es : List Int} {m n : Nat} {is : List Int} {ni : Nat} {os : List Int} {no f k : Nat} {nx ly : List Int} (hes : edgesOk (n : Int) es m = true) (h : CfI es m n is ni os no (f + 1) k nx ly) (h0 : unl ly n ≠ 0) (h1 : unl (cfS es m n is ni k (nx, ly)).2 n ≠ unl ly n) : CfI es m n is ni os no f (k + 1) (cfS es m n is ni k (nx, ly)).1 (cfS es m n is ni k (nx, ly)).2 := by
  obtain ⟨h2, h3⟩ := h.fl.step hes h.k1
  have hlt : cntU (cfS es m n is ni k (nx, ly)).2 n < cntU ly n := by
    refine cntU_lt h3 ?_
    refine Decidable.byContradiction fun hn => h1 (unl_congr.2 fun v hv => ⟨h3 v hv, fun hv0 => ?_⟩)
    refine Decidable.byContradiction fun hp => hn ⟨v, hv, hv0, by omega⟩
  have h4 := h.cnt
  have h5 := h.kf
  refine ⟨?_, h2, by omega, by omega, by omega⟩
  rw [← h.run]
  conv => rhs; rw [cfR, if_neg h0, if_neg h1]
theorem unl_neg {ly : List Int} {n u : Nat} (hu : u < n) : (unl ly n).testBit u = decide (ix ly u < 0) := by rw [unl_bit, decide_eq_true hu, Bool.true_and]

end Go.Proofs.Ytoiaibgcjfgbcaa
/- Walks: the searches for causal flows of both sides. -/
set_option linter.unusedSimpArgs false
set_option linter.unusedVariables false
namespace Go.Proofs.Ytoiaibgcjfgbcaa
open Go Go.RowKit
namespace FwfT
theorem Tagg_26 : aggOf Try.prog 26 = some 4 := by kernel_rfl
theorem Tcall_24 : callable Try.prog 24 = true := by kernel_rfl
theorem Tcall_25 : callable Try.prog 25 = true := by kernel_rfl
theorem Tcall_26 : callable Try.prog 26 = true := by kernel_rfl
theorem Tcall_27 : callable Try.prog 27 = true := by kernel_rfl
theorem Tcall_29 : callable Try.prog 29 = true := by kernel_rfl
theorem Tcall_30 : callable Try.prog 30 = true := by kernel_rfl
theorem Tcall_32 : callable Try.prog 32 = true := by kernel_rfl
theorem Tcall_57 : callable Try.prog 57 = true := by kernel_rfl
theorem Tcall_58 : callable Try.prog 58 = true := by kernel_rfl
theorem Tcall_60 : callable Try.prog 60 = true := by kernel_rfl
theorem Tcall_61 : callable Try.prog 61 = true := by kernel_rfl
theorem Tcall_62 : callable Try.prog 62 = true := by kernel_rfl
theorem Tfo_26_0 : fieldOff Try.prog 26 0 = some 0 := by kernel_rfl
theorem Tfo_26_2 : fieldOff Try.prog 26 2 = some 2 := by kernel_rfl
theorem Tone_24 : oneOf Try.prog 24 = true := by kernel_rfl
theorem Tone_3 : oneOf Try.prog 3 = true := by kernel_rfl
theorem Tsize_24 : (Try.prog.info? 24).map (·.size) = some 1 := by kernel_rfl
theorem Tsize_3 : (Try.prog.info? 3).map (·.size) = some 1 := by kernel_rfl
theorem Tsl_24 : sliceOf Try.prog 24 = some (3, 1, 8, [.int .i64 0]) := by kernel_rfl
end FwfT
open FwfT
end Go.Proofs.Ytoiaibgcjfgbcaa
/- Walks: the searches for generalised flows of both sides. -/
set_option linter.unusedSimpArgs false
set_option linter.unusedVariables false
namespace Go.Proofs.Ytoiaibgcjfgbcaa
open Go Go.RowKit
namespace FwgT
theorem Tagg_26 : aggOf Try.prog 26 = some 4 := by kernel_rfl
theorem Tagg_38 : aggOf Try.prog 38 = some 2 := by kernel_rfl
theorem Tcall_24 : callable Try.prog 24 = true := by kernel_rfl
theorem Tcall_26 : callable Try.prog 26 = true := by kernel_rfl
theorem Tcall_27 : callable Try.prog 27 = true := by kernel_rfl
theorem Tcall_38 : callable Try.prog 38 = true := by kernel_rfl
theorem Tcall_39 : callable Try.prog 39 = true := by kernel_rfl
theorem Tcall_49 : callable Try.prog 49 = true := by kernel_rfl
theorem Tfo_26_0 : fieldOff Try.prog 26 0 = some 0 := by kernel_rfl
theorem Tfo_26_2 : fieldOff Try.prog 26 2 = some 2 := by kernel_rfl
theorem Tfo_38_0 : fieldOff Try.prog 38 0 = some 0 := by kernel_rfl
theorem Tfo_38_1 : fieldOff Try.prog 38 1 = some 1 := by kernel_rfl
theorem Tone_24 : oneOf Try.prog 24 = true := by kernel_rfl
theorem Tone_3 : oneOf Try.prog 3 = true := by kernel_rfl
theorem Tsize_3 : (Try.prog.info? 3).map (·.size) = some 1 := by kernel_rfl
theorem Tsize_38 : (Try.prog.info? 38).map (·.size) = some 2 := by kernel_rfl
theorem Tsl_24 : sliceOf Try.prog 24 = some (3, 1, 8, [.int .i64 0]) := by kernel_rfl
theorem Tzero_38 : zeroOf Try.prog 38 = some [.slice none 0 0, .slice none 0 0] := by kernel_rfl
end FwgT
open FwgT
theorem DW.three {E : Env} {ops : Array Oper} {base : List Res} {k : List It} {fuel : Nat} {listed : Array Bool} {f : Fr} {H : List Res} {i j l : Nat} {o o' o2 : Oper} (hr : Region.ready .any ops listed = [i, j, l]) (hi : ops[i]? = some o) (hj : ops[j]? = some o') (hl : ops[l]? = some o2) (hw : wantedF ops f o = true) (hw' : wantedF ops f o' = true) (hw2 : wantedF ops f o2 = true)
    (h : OpStep E o f H fun f' H' => Weak H' base ∧ DW E ops base k fuel (listed.setIfInBounds i true) f' H')
    (h' : OpStep E o' f H fun f' H' => Weak H' base ∧ DW E ops base k fuel (listed.setIfInBounds j true) f' H')
    (h2 : OpStep E o2 f H fun f' H' => Weak H' base ∧ DW E ops base k fuel (listed.setIfInBounds l true) f' H') : DW E ops base k (fuel + 1) listed f H := by
  intro a w ha hst
  refine wpAnyH_all hr (by simp) fun q hq => ?_
  simp only [List.mem_cons, List.not_mem_nil, or_false] at hq
  rcases hq with rfl | rfl | rfl
  · unfold wpOp
    simp only [hi]
    rw [wantedF_eq ha, hw, if_pos rfl]
    exact .inl (h a w ha hst _ _ fun f' H' a' w' h1 h2 h3 => ⟨h3.1 _ _ _ h2, h3.2 a' w' h1 h2⟩)
  · unfold wpOp
    simp only [hj]
    rw [wantedF_eq ha, hw', if_pos rfl]
    exact .inl (h' a w ha hst _ _ fun f' H' a' w' h1 h2 h3 => ⟨h3.1 _ _ _ h2, h3.2 a' w' h1 h2⟩)
  · unfold wpOp
    simp only [hl]
    rw [wantedF_eq ha, hw2, if_pos rfl]
    exact .inl (h2 a w ha hst _ _ fun f' H' a' w' h1 h2 h3 => ⟨h3.1 _ _ _ h2, h3.2 a' w' h1 h2⟩)
theorem al_iff {is : List Int} {ni n lf s : Nat} (hs : s < 2 ^ n) : s &&& (lf ||| mskK is ni) = 0 ↔ s &&& allw is ni n lf = s := by
  have hbig : ∀ u, n ≤ u → s.testBit u = false := fun u hu => Nat.testBit_lt_two_pow (Nat.lt_of_lt_of_le hs (Nat.pow_le_pow_right (by omega) hu))
  have hb : ∀ u, (allw is ni n lf).testBit u = (decide (u < n) && !(lf ||| mskK is ni).testBit u) := by
    intro u
    rw [allw, Nat.testBit_xor, Nat.testBit_and, Nat.testBit_two_pow_sub_one]
    cases decide (u < n) <;> cases (lf ||| mskK is ni).testBit u <;> rfl
  constructor
  · intro h
    refine Nat.eq_of_testBit_eq fun u => ?_
    have := congrArg (fun x => x.testBit u) h
    simp only [Nat.testBit_and, Nat.zero_testBit] at this
    rw [Nat.testBit_and, hb]
    by_cases hu : u < n
    · rw [decide_eq_true hu]
      cases h1 : s.testBit u with
      | false => simp
      | true => rw [h1, Bool.true_and] at this; rw [this]; rfl
    · rw [hbig u (by omega)]; simp
  · intro h
    refine Nat.eq_of_testBit_eq fun u => ?_
    have := congrArg (fun x => x.testBit u) h
    simp only [Nat.testBit_and, hb] at this
    rw [Nat.testBit_and, Nat.zero_testBit]
    cases h1 : s.testBit u with
    | false => simp
    | true =>
      rw [h1] at this
      simp only [Bool.true_and, Bool.and_eq_true, Bool.not_eq_true'] at this
      rw [this.2]; rfl
theorem allw_eq {is : List Int} {ni n lf : Nat} : ((2 ^ n - 1) ^^^ ((2 ^ n - 1) &&& lf)) ^^^ (((2 ^ n - 1) ^^^ ((2 ^ n - 1) &&& lf)) &&& mskK is ni) = allw is ni n lf := by
  refine Nat.eq_of_testBit_eq fun u => ?_
  simp only [allw, Nat.testBit_xor, Nat.testBit_and, Nat.testBit_or, Nat.testBit_two_pow_sub_one]
  cases decide (u < n) <;> cases lf.testBit u <;> cases (mskK is ni).testBit u <;> rfl
theorem clr_sub {a b n : Nat} (h : a < 2 ^ n) : a ^^^ (a &&& b) < 2 ^ n := Nat.xor_lt_two_pow h (Nat.lt_of_le_of_lt Nat.and_le_left h)
theorem xor_sub {s a : Nat} : s ^^^ (s &&& a) = 0 ↔ s &&& a = s := by
  constructor
  · intro h
    refine Nat.eq_of_testBit_eq fun u => ?_
    have := congrArg (fun x => x.testBit u) h
    simp only [Nat.testBit_xor, Nat.testBit_and, Nat.zero_testBit] at this
    rw [Nat.testBit_and]
    cases h1 : s.testBit u <;> cases h2 : a.testBit u <;> simp_all
  · intro h; rw [h, Nat.xor_self]
/-- The least set that serves v; 0 if there is none. -/
def lsV (es : List Int) (m n al lf v : Nat) : Nat := (findI (svB es m n al lf v) (2 ^ n)).toNat
theorem sv_zero (es : List Int) (m n al lf v : Nat) : svB es m n al lf v 0 = false := by simp [svB]
theorem ls_pos {es : List Int} {m n al lf v : Nat} : 0 < lsV es m n al lf v ↔ 0 ≤ findI (svB es m n al lf v) (2 ^ n) := by
  unfold lsV
  constructor
  · intro h; omega
  · intro h
    obtain ⟨_, h2⟩ := findI_sat' h
    refine Decidable.byContradiction fun h0 => ?_
    rw [show (findI (svB es m n al lf v) (2 ^ n)).toNat = 0 by omega, sv_zero] at h2
    cases h2
/-- Nodes below t have new values. -/
structure MxI (F G : Nat → Int) (n t : Nat) (ss ly A L : List Int) : Prop where
  la : A.length = n
  ll : L.length = n
  at_ : ∀ v, v < n → ix A v = (if v < t then F v else ix ss v) ∧ ix L v = (if v < t then G v else ix ly v)
theorem MxI.start {F G : Nat → Int} {n : Nat} {ss ly : List Int} (h1 : ss.length = n) (h2 : ly.length = n) : MxI F G n 0 ss ly ss ly := ⟨h1, h2, fun v _ => ⟨rfl, rfl⟩⟩
theorem MxI.put {F G : Nat → Int} {n t : Nat} {ss ly A L : List Int} {x y : Int} (h : MxI F G n t ss ly A L) (ht : t < n) (hF : F t = x) (hG : G t = y) : MxI F G n (t + 1) ss ly (A.set t x) (L.set t y) := by
  refine ⟨by simpa using h.la, by simpa using h.ll, fun v hv => ?_⟩
  rw [ix_lset (by rw [h.la]; exact ht), ix_lset (by rw [h.ll]; exact ht)]
  by_cases e : v = t
  · subst e; rw [if_pos rfl, if_pos rfl, if_pos (by omega), if_pos (by omega)]; exact ⟨hF.symm, hG.symm⟩
  · have h2 := h.at_ v hv
    have : (v < t + 1) ↔ (v < t) := by omega
    rw [if_neg e, if_neg e]; simp only [this]; exact h2
theorem MxI.keep {F G : Nat → Int} {n t : Nat} {ss ly A L : List Int} (h : MxI F G n t ss ly A L) (hF : F t = ix ss t) (hG : G t = ix ly t) : MxI F G n (t + 1) ss ly A L := by
  refine ⟨h.la, h.ll, fun v hv => ?_⟩
  have h2 := h.at_ v hv
  by_cases e : v = t
  · subst e
    rw [if_neg (Nat.lt_irrefl _), if_neg (Nat.lt_irrefl _)] at h2
    rw [if_pos (by omega), if_pos (by omega), hF, hG]; exact h2
  · have : (v < t + 1) ↔ (v < t) := by omega
    simp only [this]; exact h2
theorem MxI.fin {F G : Nat → Int} {n : Nat} {ss ly A L : List Int} (h : MxI F G n n ss ly A L) : A = mapN F n ∧ L = mapN G n :=
  ⟨eq_mapN h.la fun v hv => by rw [(h.at_ v hv).1, if_pos hv], eq_mapN h.ll fun v hv => by rw [(h.at_ v hv).2, if_pos hv]⟩
theorem gf_fin {es : List Int} {m n : Nat} {is : List Int} {ni k : Nat} {ss ly A L : List Int} (hA : A.length = n) (hL : L.length = n)
    (h : UpI (fun s v => svB es m n (allw is ni n (unl ly n)) (unl ly n) v s) n (2 ^ n) k ss ly A L) : A = (gfS es m n is ni k (ss, ly)).1 ∧ L = (gfS es m n is ni k (ss, ly)).2 := by
  have key : ∀ v, v < n → ix A v = ssV es m n is ni ss ly v ∧ ix L v = lgV es m n is ni k ly v := by
    intro v hv
    rcases h.at_ v hv with ⟨u, h1, h2, h3, h4, h5⟩ | ⟨h1, h2, h3⟩
    · have hb : (unl ly n).testBit v = true := by
        simp only [svB, Bool.and_eq_true, decide_eq_true_eq] at h2
        have := congrArg (fun x => x.testBit v) h2.2
        simp only [Nat.testBit_and, Nat.testBit_two_pow, decide_true, Bool.and_eq_true] at this
        exact this.2
      have hfi : findI (svB es m n (allw is ni n (unl ly n)) (unl ly n) v) (2 ^ n) = (u : Int) := findI_hit h3 h2 h1
      rw [ssV, lgV, hfi, if_pos ⟨hb, by omega⟩, if_pos ⟨hb, by omega⟩]
      exact ⟨h4, h5⟩
    · have hfi : findI (svB es m n (allw is ni n (unl ly n)) (unl ly n) v) (2 ^ n) = -1 := findI_none h1
      rw [ssV, lgV, hfi, if_neg (by omega), if_neg (by omega)]
      exact ⟨h2, h3⟩
  exact ⟨eq_mapN hA fun v hv => (key v hv).1, eq_mapN hL fun v hv => (key v hv).2⟩
def gfO (es : List Int) (m n : Nat) (is : List Int) (ni : Nat) (os : List Int) (no : Nat) : Option (List Int × List Int) := if ogB n es m is ni os no = true then gfR es m n is ni (n + 1) 1 (List.replicate n 0, ly0 os no n) else none
def gfA (es : List Int) (m n : Nat) (is : List Int) (ni : Nat) (os : List Int) (no : Nat) : List Int := ((gfO es m n is ni os no).map (·.1)).getD []
def gfL (es : List Int) (m n : Nat) (is : List Int) (ni : Nat) (os : List Int) (no : Nat) : List Int := ((gfO es m n is ni os no).map (·.2)).getD []
structure GfI (es : List Int) (m n : Nat) (is : List Int) (ni : Nat) (os : List Int) (no f k : Nat) (ss ly : List Int) : Prop where
  run : gfR es m n is ni f k (ss, ly) = gfO es m n is ni os no
  fl : GlI es m n is ni os no k ss ly
  cnt : cntU ly n < f
  k1 : 1 ≤ k
  kf : k + f ≤ n + 2
theorem GfI.start {es : List Int} {m n : Nat} {is : List Int} {ni : Nat} {os : List Int} {no : Nat} (hg : ogB n es m is ni os no = true) : GfI es m n is ni os no (n + 1) 1 (List.replicate n 0) (ly0 os no n) := by
  refine ⟨by rw [gfO, if_pos hg], gf_start, ?_, Nat.le_refl _, by omega⟩
  have := cntU_le_n (ly0 os no n) n
  omega
theorem GfI.stop {es : List Int} {m n : Nat} {is : List Int} {ni : Nat} {os : List Int} {no f k : Nat} {ss ly : List Int} (h : GfI es m n is ni os no (f + 1) k ss ly) (h0 : unl ly n = 0) : gfO es m n is ni os no = some (ss, ly) := by
  rw [← h.run, gfR, if_pos h0]
theorem GfI.none {es : List Int} {m n : Nat} {is : List Int} {ni : Nat} {os : List Int} {no f k : Nat} {ss ly : List Int} (h : GfI es m n is ni os no (f + 1) k ss ly) (h0 : unl ly n ≠ 0) (h1 : unl (gfS es m n is ni k (ss, ly)).2 n = unl ly n) : gfO es m n is ni os no = .none := by
  rw [← h.run, gfR, if_neg h0, if_pos h1]
theorem GfI.next {es : List Int} {m n : Nat} {is : List Int} {ni : Nat} {os : List Int} {no f k : Nat} {ss ly : List Int} (hi : ∀ i, i < ni → 0 ≤ ix is i) (h : GfI es m n is ni os no (f + 1) k ss ly) (h0 : unl ly n ≠ 0) (h1 : unl (gfS es m n is ni k (ss, ly)).2 n ≠ unl ly n) : GfI es m n is ni os no f (k + 1) (gfS es m n is ni k (ss, ly)).1 (gfS es m n is ni k (ss, ly)).2 := by
  obtain ⟨h2, h3⟩ := h.fl.step hi h.k1
  have hlt : cntU (gfS es m n is ni k (ss, ly)).2 n < cntU ly n := by
    refine cntU_lt h3 ?_
    refine Decidable.byContradiction fun hn => h1 (unl_congr.2 fun v hv => ⟨h3 v hv, fun hv0 => ?_⟩)
    refine Decidable.byContradiction fun hp => hn ⟨v, hv, hv0, by omega⟩
  have h4 := h.cnt
  have h5 := h.kf
  refine ⟨?_, h2, by omega, by omega, by omega⟩
  rw [← h.run]
  conv => rhs; rw [gfR, if_neg h0, if_neg h1]
theorem gf_some {es : List Int} {m n : Nat} {is : List Int} {ni : Nat} {os : List Int} {no : Nat} {ss ly : List Int} (h : gfO es m n is ni os no = some (ss, ly)) : gfA es m n is ni os no = ss ∧ gfL es m n is ni os no = ly ∧ (gfO es m n is ni os no).isSome = true := by simp [gfA, gfL, h]
theorem gf_none {es : List Int} {m n : Nat} {is : List Int} {ni : Nat} {os : List Int} {no : Nat} (h : gfO es m n is ni os no = none) : gfA es m n is ni os no = [] ∧ gfL es m n is ni os no = [] ∧ (gfO es m n is ni os no).isSome = false := by simp [gfA, gfL, h]
theorem gf_bad {es : List Int} {m n : Nat} {is : List Int} {ni : Nat} {os : List Int} {no : Nat} (h : ogB n es m is ni os no = false) : gfO es m n is ni os no = none := by rw [gfO, if_neg (by rw [h]; decide)]
theorem ris_pos {l : List Int} {n k : Nat} (h : risB l n k = true) : ∀ i, i < k → 0 ≤ ix l i := fun i hi => (ris_at h hi).1

set_option maxHeartbeats 2000000 in
set_option maxRecDepth 20000 in
theorem leastSet_spec {ve vi vo : Value} {n m v al lf : Nat} {es : List Int} {w : World} (hn10 : n ≤ 10) (hv : v < n) (hal : al < 2 ^ n) (hlf : lf < 2 ^ n) (hes : edgesOk (n : Int) es m = true) (he : Sl w ve 2 m (ints es)) : Calls Try.prog 39 #[.agg #[.int .i64 (n : Int), ve, vi, vo], .int .i64 (v : Int), .int .i64 (al : Int), .int .i64 (lf : Int)] w (Post No w fun r _ => r = .int .i64 ((lsV es m n al lf v : Nat) : Int)) := by
 have hp10 := pow10 hn10
 obtain ⟨qn, hqn⟩ : ∃ q : Nat, q = 2 ^ n := ⟨_, rfl⟩
 have hqn1 : 1 ≤ qn := by rw [hqn]; exact Nat.two_pow_pos _
 obtain ⟨qv, hqv, hqv1, hqv2⟩ := pow_q (k := v) hn10 hv
 refine enter (n := 32) (args := [.agg #[.int .i64 (((n : Nat) : Int)), ve, vi, vo], .int .i64 (((v : Nat) : Int)), .int .i64 (((al : Nat) : Int)), .int .i64 (((lf : Nat) : Int))]) Try.func39 rfl rfl (St.empty _ _) ?_
 refine Run.sr ?_
 refine Run.step rfl (OpStep.box (us := [.int .i64 (((n : Nat) : Int)), ve, vi, vo]) rfl fun b1 => ?_)
 refine Run.p (.int .i64 0) rfl rfl ?_
 refine Run.done ?_
 refine Run.seq ?_
 refine Run.sr ?_
 refine Run.p (.int .i64 1) rfl rfl ?_
 refine Run.done ?_
 refine Run.block ?_
 refine Run.loop (ι := Nat) [8, 9, 10, 11, 12, 13, 14, 15, 16, 17, 18, 19, 20, 21, 22, 23, 24, 25, 26, 27, 28, 29, 30, 31] (fun s => [(9, .int .i64 (((s : Nat) : Int)))]) (fun s => [.blk b1 26 [.int .i64 (((n : Nat) : Int)), ve, vi, vo]]) (fun s => 1 ≤ s ∧ s ≤ qn ∧ ∀ i, i < s → svB es m n al lf v i = false) (fun s => qn - s) 1 ?_ ?_ ?_ ?_
 ·exact ⟨Nat.le_refl _, hqn1, fun i hi => by rw [show i = 0 by omega]; exact sv_zero _ _ _ _ _ _⟩
 ·exact ⟨rfl, trivial⟩
 ·exact (Some'.weak (.take (.nil _)))
 ·rintro s fr hinv
  show Run _ _ (over _ _ [(9, .int .i64 (((s : Nat) : Int)))] fr) [.blk b1 26 [.int .i64 (((n : Nat) : Int)), ve, vi, vo]]
  try dsimp only at hinv
  refine Run.seq ?_
  refine Run.sr ?_
  refine Run.p (.int .i64 (((s : Nat) : Int))) rfl rfl ?_
  refine Run.y (.pointer (some ⟨b1, 0, none⟩)) rfl (OpY.fieldAddr Tfo_26_0 rfl rfl) ?_
  refine Run.y (.int .i64 (((n : Nat) : Int))) rfl (OpY.load1 Tone_3 rfl (Cells.blk (.head _) ⟨rfl, trivial⟩)) ?_
  refine Run.y (.int .i64 (((qn : Nat) : Int))) rfl (OpY.shlOne rfl rfl rfl (by omega) hqn) ?_
  refine Run.p (.bool (decide ((((s : Nat) : Int)) < (((qn : Nat) : Int))))) rfl rfl ?_
  refine Run.done ?_
  refine Run.cond (b := decide ((((s : Nat) : Int)) < (((qn : Nat) : Int)))) rfl (fun h14 => ?_) (fun h14 => ?_)
  ·have p14 := h14; try simp only [bs] at p14
   have hsq : s < qn := by omega
   have hol := oddM_lt es m n s n
   obtain ⟨hs1, hsl, hno⟩ := hinv
   refine Run.skip ?_
   refine Run.seq ?_
   refine Run.block ?_
   refine Run.seq ?_
   refine Run.draws (by kernel_rfl) (by kernel_rfl) ?_
   refine Lex.q (v := .int .i64 (((s : Nat) : Int))) rfl (OpQ.y (OpY.pure rfl)) ?_
   refine Lex.q (v := .int .i64 (((al : Nat) : Int))) rfl (OpQ.y (OpY.pure rfl)) ?_
   refine Lex.q (v := .int .i64 (((s ^^^ (s &&& al) : Nat) : Int))) rfl (OpQ.y (OpY.andNotNat rfl rfl (by omega) (by omega) rfl)) ?_
   refine Lex.q (v := .bool ((((s ^^^ (s &&& al) : Nat) : Int)) == 0)) rfl (OpQ.y (OpY.pure rfl)) ?_
   rcases Bool.eq_false_or_eq_true ((((s ^^^ (s &&& al) : Nat) : Int)) == 0) with h21 | h21
   ·refine Lex.q (v := .bool true) rfl (OpQ.y (OpY.moveB rfl h21)) ?_
    have p21 := h21; try simp only [bs] at p21
    have hz1 : s &&& al = s := xor_sub.1 (by omega)
    refine Lex.q (v := .agg #[.int .i64 (((n : Nat) : Int)), ve, vi, vo]) rfl (OpQ.y (OpY.loadN (cs := [.int .i64 (((n : Nat) : Int)), ve, vi, vo]) Tagg_26 rfl (Cells.blk (.head _) ⟨rfl, rfl, rfl, rfl, trivial⟩))) ?_
    refine Lex.q (v := .int .i64 (((s : Nat) : Int))) rfl (OpQ.y (OpY.pure rfl)) ?_
    refine Lex.q (v := .int .i64 (((oddM es m n s n : Nat) : Int))) rfl (OpQ.call (vs := [.agg #[.int .i64 (((n : Nat) : Int)), ve, vi, vo], .int .i64 (((s : Nat) : Int))]) (caps := []) Tcall_49 rfl rfl (fun w hs => odd_spec (set := s) hn10 (by omega) hes (hs.sl he))) ?_
    refine Lex.q (v := .int .i64 (((lf : Nat) : Int))) rfl (OpQ.y (OpY.pure rfl)) ?_
    refine Lex.q (v := .int .i64 (((oddM es m n s n &&& lf : Nat) : Int))) rfl (OpQ.y (OpY.andNat2 rfl rfl (by omega) (by omega))) ?_
    refine Lex.q (v := .int .i64 (((v : Nat) : Int))) rfl (OpQ.y (OpY.pure rfl)) ?_
    refine Lex.q (v := .int .i64 (((qv : Nat) : Int))) rfl (OpQ.y (OpY.shlOne rfl rfl rfl (by omega) hqv)) ?_
    refine Lex.q (v := .bool ((((oddM es m n s n &&& lf : Nat) : Int)) == (((qv : Nat) : Int)))) rfl (OpQ.y (OpY.pure rfl)) ?_
    refine Lex.q (v := .bool ((((oddM es m n s n &&& lf : Nat) : Int)) == (((qv : Nat) : Int)))) rfl (OpQ.y (OpY.pure rfl)) ?_
    refine Lex.done ?_
    refine Run.cond (b := (((oddM es m n s n &&& lf : Nat) : Int)) == (((qv : Nat) : Int))) rfl (fun h30 => ?_) (fun h30 => ?_)
    ·have p30 := h30; try simp only [bs] at p30
     have hhit : svB es m n al lf v s = true := by unfold svB; rw [decide_eq_true (show 0 < s by omega), decide_eq_true hz1, decide_eq_true (by omega)]; rfl
     have hres : lsV es m n al lf v = s := by
      have h : findI (svB es m n al lf v) (2 ^ n) = (s : Int) := findI_hit hno hhit (by omega)
      rw [lsV, h, Int.toNat_natCast]
     refine Run.sr ?_
     refine Run.p (.int .i64 (((s : Nat) : Int))) rfl rfl ?_
     refine Run.p (.int .i64 (((s : Nat) : Int))) rfl rfl ?_
     refine Run.done ?_
     refine Run.ret ?_
     refine ⟨.int .i64 (((s : Nat) : Int)), [], Out.one rfl rfl, (Some'.weak (.nil _)), ?_⟩
     show _ = _; rw [hres]; try rfl
    ·have p30 := h30; try simp only [bs] at p30
     have hgood : svB es m n al lf v s = false := by unfold svB; rw [decide_eq_false (show ¬ oddM es m n s n &&& lf = 2 ^ v by omega)]; simp
     refine Run.skip ?_
     refine Run.blockEnd ?_
     refine Run.region ?_
     refine Run.p (.int .i64 (((s : Nat) : Int))) rfl rfl ?_
     refine Run.y (.int .i64 ((((s : Nat) : Int)) + 1)) rfl (OpY.add rfl rfl rfl (by omega) (by omega)) ?_
     refine Run.p (.int .i64 ((((s : Nat) : Int)) + 1)) rfl rfl ?_
     refine Run.done ?_
     refine Run.goal ⟨(by repeat (first | exact Same.refl _ _ | refine Same.put rfl ?_ | refine Same.over rfl rfl ?_)), s + 1, ?_, ?_, ?_, ?_⟩
     ·exact ⟨by omega, by omega, fun i hi => by
      rcases Nat.lt_succ_iff_lt_or_eq.1 hi with h | h
      ·exact hno i h
      ·rw [h]; exact hgood⟩
     ·omega
     ·exact ⟨(by first | rfl | (congr 1; omega) | simp), trivial⟩
     ·exact (Some'.weak (.take (.nil _)))
   ·refine Lex.q (v := .bool false) rfl (OpQ.y (OpY.moveB rfl h21)) ?_
    have p21 := h21; try simp only [bs] at p21
    have hgood : svB es m n al lf v s = false := by
     have hz : ¬ s &&& al = s := fun h => by have h2 := xor_sub.2 h; omega
     unfold svB; rw [decide_eq_false hz]; simp
    refine Lex.pass rfl ?_
    refine Lex.pass rfl ?_
    refine Lex.pass rfl ?_
    refine Lex.pass rfl ?_
    refine Lex.pass rfl ?_
    refine Lex.pass rfl ?_
    refine Lex.pass rfl ?_
    refine Lex.pass rfl ?_
    refine Lex.q (v := .bool false) rfl (OpQ.y (OpY.pure rfl)) ?_
    refine Lex.done ?_
    refine Run.cond (b := false) rfl (fun h => nomatch h) (fun _ => ?_)
    refine Run.skip ?_
    refine Run.blockEnd ?_
    refine Run.region ?_
    refine Run.p (.int .i64 (((s : Nat) : Int))) rfl rfl ?_
    refine Run.y (.int .i64 ((((s : Nat) : Int)) + 1)) rfl (OpY.add rfl rfl rfl (by omega) (by omega)) ?_
    refine Run.p (.int .i64 ((((s : Nat) : Int)) + 1)) rfl rfl ?_
    refine Run.done ?_
    refine Run.goal ⟨(by repeat (first | exact Same.refl _ _ | refine Same.put rfl ?_ | refine Same.over rfl rfl ?_)), s + 1, ?_, ?_, ?_, ?_⟩
    ·exact ⟨by omega, by omega, fun i hi => by
     rcases Nat.lt_succ_iff_lt_or_eq.1 hi with h | h
     ·exact hno i h
     ·rw [h]; exact hgood⟩
    ·omega
    ·exact ⟨(by first | rfl | (congr 1; omega) | simp), trivial⟩
    ·exact (Some'.weak (.take (.nil _)))
  ·have p14 := h14; try simp only [bs] at p14
   obtain ⟨hs1, hsl, hno⟩ := hinv
   have hres : lsV es m n al lf v = 0 := by
    have h : findI (svB es m n al lf v) (2 ^ n) = -1 := findI_none fun i hi => hno i (by omega)
    rw [lsV, h]; rfl
   refine Run.exit rfl ?_
   refine Run.sr ?_
   refine Run.p (.int .i64 0) rfl rfl ?_
   refine Run.done ?_
   refine Run.ret ?_
   refine ⟨.int .i64 0, [], Out.one rfl rfl, (Some'.weak (.nil _)), ?_⟩
   show _ = _; rw [hres]; try rfl

set_option maxHeartbeats 2000000 in
set_option maxRecDepth 20000 in
theorem GFlowOf_spec {ve vi vo : Value} {n m ni no : Nat} {es is os : List Int} {w : World} (hn11 : n ≤ 11) (he : Sl w ve 2 m (ints es)) (hi : Sl w vi 1 ni (ints is)) (ho : Sl w vo 1 no (ints os)) : Calls Try.prog 14 #[.agg #[.int .i64 (n : Int), ve, vi, vo]] w (Post No w fun v H => ∃ u1 u2, v = .tuple #[.agg #[u1, u2], .bool (gfO es m n is ni os no).isSome] ∧ H = [.own u1 3 1 (gfA es m n is ni os no).length (ints (gfA es m n is ni os no)), .own u2 3 1 (gfL es m n is ni os no).length (ints (gfL es m n is ni os no))]) := by
 refine enter (n := 72) (args := [.agg #[.int .i64 (((n : Nat) : Int)), ve, vi, vo]]) Try.func14 rfl rfl (St.empty _ _) ?_
 refine Run.sr ?_
 refine Run.step rfl (OpStep.box (us := [.int .i64 (((n : Nat) : Int)), ve, vi, vo]) rfl fun b1 => ?_)
 refine Run.step rfl (OpStep.alloc (zs := [.slice none 0 0, .slice none 0 0]) Tzero_38 fun b2 => ?_)
 refine Run.p (.bool false) rfl rfl ?_
 refine Run.done ?_
 refine Run.seq ?_
 refine Run.sr ?_
 refine Run.y (.agg #[.int .i64 (((n : Nat) : Int)), ve, vi, vo]) rfl (OpY.loadN (cs := [.int .i64 (((n : Nat) : Int)), ve, vi, vo]) Tagg_26 rfl (Cells.blk (.tail _ (List.Mem.head _)) ⟨rfl, rfl, rfl, rfl, trivial⟩)) ?_
 refine Run.q (v := .bool (ogB n es m is ni os no)) rfl (OpQ.call (vs := [.agg #[.int .i64 (((n : Nat) : Int)), ve, vi, vo]]) (caps := []) Tcall_24 rfl rfl (fun w hs => IsValidOpenGraph_spec hn11 (hs.sl he) (hs.sl hi) (hs.sl ho))) ?_
 refine Run.p (.bool (!(ogB n es m is ni os no))) rfl rfl ?_
 refine Run.done ?_
 refine Run.cond (b := !(ogB n es m is ni os no)) rfl (fun h12 => ?_) (fun h12 => ?_)
 ·have p12 := h12; try simp only [bs] at p12
  have hg : ogB n es m is ni os no = false := by simpa using p12
  have hres := gf_none (gf_bad hg)
  refine Run.sr ?_
  refine Run.y (.agg #[.slice none 0 0, .slice none 0 0]) rfl (OpY.build (cs := [.slice none 0 0, .slice none 0 0]) (by kernel_rfl)) ?_
  refine Run.step rfl (OpStep.storeAll (us := [.slice none 0 0, .slice none 0 0]) Tsize_38 rfl rfl rfl (.here _) rfl ?_)
  refine Run.p (.bool false) rfl rfl ?_
  refine Run.done ?_
  refine Run.ret ?_
  refine ⟨.tuple #[.agg #[.slice none 0 0, .slice none 0 0], .bool false], [.own (.slice none 0 0) 3 1 0 ([]), .own (.slice none 0 0) 3 1 0 ([])], Out.cell2 (cs := [.slice none 0 0, .slice none 0 0]) rfl Tagg_38 rfl (Cells.blk (.head _) ⟨rfl, rfl, trivial⟩) rfl, ((Weak.nilOwn 3 1).trans ((Weak.nilOwn 3 1).trans (Some'.weak (.take (.take (.nil _)))))), ?_⟩
  exact ⟨_, _, by rw [hres.2.2], by rw [hres.1, hres.2.1]; rfl⟩
 ·have p12 := h12; try simp only [bs] at p12
  have hg : ogB n es m is ni os no = true := by simpa using p12
  obtain ⟨hn1, hn10, hes, hri, hro⟩ := og_ok hg
  have hp10 := pow10 hn10
  obtain ⟨qn, hqn⟩ : ∃ q : Nat, q = 2 ^ n := ⟨_, rfl⟩
  have hqn1 : 1 ≤ qn := by rw [hqn]; exact Nat.two_pow_pos _
  have hmk := mskK_lt (n := n) (k := ni) (l := is) (ris_in hri)
  refine Run.skip ?_
  refine Run.seq ?_
  refine Run.cut (ι := Nat × Value × Value) [4, 14, 15, 16, 17, 18, 19] (fun ⟨b4, v1, v2⟩ => [(4, .pointer (some ⟨b4, 0, none⟩))]) (fun ⟨b4, v1, v2⟩ => [.blk b4 38 [v1, v2], .own v1 3 1 n (ints (List.replicate n 0)), .own v2 3 1 n (ints (ly0 os no n)), .blk b2 38 [.slice none 0 0, .slice none 0 0], .blk b1 26 [.int .i64 (((n : Nat) : Int)), ve, vi, vo]]) (fun ⟨b4, v1, v2⟩ => True) ?_ ?_
  ·refine Run.held (by kernel_rfl) ?_
   refine DW.take (i := 0) (v := .pointer (some ⟨b1, 0, none⟩)) rfl (by kernel_rfl) (by kernel_rfl) (by kernel_rfl) (fun _ _ _ h => h) (Weak.refl _) rfl (OpY.fieldAddr Tfo_26_0 rfl rfl) ?_
   refine DW.take (i := 1) (v := .int .i64 (((n : Nat) : Int))) rfl (by kernel_rfl) (by kernel_rfl) (by kernel_rfl) (fun _ _ _ h => h) (Weak.refl _) rfl (OpY.load1 Tone_3 rfl (Cells.blk (.tail _ (List.Mem.head _)) ⟨rfl, trivial⟩)) ?_
   refine DW.take (i := 3) (v := .agg #[.int .i64 (((n : Nat) : Int)), ve, vi, vo]) rfl (by kernel_rfl) (by kernel_rfl) (by kernel_rfl) (fun _ _ _ h => h) (Weak.refl _) rfl (OpY.loadN (cs := [.int .i64 (((n : Nat) : Int)), ve, vi, vo]) Tagg_26 rfl (Cells.blk (.tail _ (List.Mem.head _)) ⟨rfl, rfl, rfl, rfl, trivial⟩)) ?_
   refine DW.three (i := 2) (j := 4) (l := 6) (by kernel_rfl) rfl rfl rfl rfl rfl rfl ?_ ?_ ?_
   ·refine OpStep.makeSlice (n := n) Tsl_24 rfl (by decide) (by first | rfl | omega) (by first | rfl | omega) (by omega) (by simp only [maxLen]; omega) fun b3 => ?_
    refine ⟨(Some'.weak (.skip (.take (.take (.nil _))))), ?_⟩
    refine DW.two (i := 4) (j := 6) (by kernel_rfl) rfl rfl rfl rfl ?_ ?_
    ·refine OpStep.call (vs := [.agg #[.int .i64 (((n : Nat) : Int)), ve, vi, vo]]) (caps := []) Tcall_26 rfl rfl (fun w hs => firstLayer_spec (ve := ve) (vi := vi) hn1 hn10 hro (hs.sl ho)) ?_
     rintro uf _ rfl
     refine ⟨(Some'.weak (.skip (.skip (.take (.take (.nil _)))))), ?_⟩
     refine DW.formOwn (.head _) (fun A_uf1 c_uf1 hv hcapc_uf1 hmaxc_uf1 => ?_)
     subst hv
     refine DW.take (i := 5) (v := .agg #[.slice (some ⟨b3, 0, none⟩) n n, .slice A_uf1 n c_uf1]) rfl (by kernel_rfl) (by kernel_rfl) (by kernel_rfl) (fun _ _ _ h => h) (Some'.weak (.skip (.skip (.take (.take (.nil _)))))) rfl (OpY.build (cs := [.slice (some ⟨b3, 0, none⟩) n n, .slice A_uf1 n c_uf1]) (by kernel_rfl)) ?_
     refine DW.step (i := 6) (by kernel_rfl) rfl rfl (OpStep.alloc (zs := [.slice none 0 0, .slice none 0 0]) Tzero_38 fun b4 => ?_)
     refine ⟨(Some'.weak (.skip (.skip (.skip (.take (.take (.nil _))))))), ?_⟩
     refine DW.step (i := 7) (by kernel_rfl) rfl rfl (OpStep.storeAll (us := [.slice (some ⟨b3, 0, none⟩) n n, .slice A_uf1 n c_uf1]) Tsize_38 rfl rfl rfl (.here _) rfl ?_)
     refine ⟨(Some'.weak (.skip (.skip (.skip (.take (.take (.nil _))))))), ?_⟩
     refine DW.done (by kernel_rfl) ?_
     refine Run.goal ⟨(by repeat (first | exact Same.refl _ _ | refine Same.put rfl ?_ | refine Same.over rfl rfl ?_)), (b4, .slice (some ⟨b3, 0, none⟩) n n, .slice A_uf1 n c_uf1), ?_, ?_, ?_⟩
     ·trivial
     ·exact ⟨(by first | rfl | (congr 1; omega) | simp [*]), trivial⟩
     ·exact ((Weak.selF [0, 1, 0, 0, 0]).trans (Some'.weak (.takeEq (by first | rfl | (rw [rep0]) | simp) (.takeEq (by first | rfl | (rw [rep0]) | simp) (.takeEq (by first | rfl | (rw [rep0]) | simp) (.take (.take (.nil _))))))))
    ·refine OpStep.alloc (zs := [.slice none 0 0, .slice none 0 0]) Tzero_38 fun b5 => ?_
     refine ⟨(Some'.weak (.skip (.skip (.take (.take (.nil _)))))), ?_⟩
     refine DW.step (i := 4) (by kernel_rfl) rfl rfl (OpStep.call (vs := [.agg #[.int .i64 (((n : Nat) : Int)), ve, vi, vo]]) (caps := []) Tcall_26 rfl rfl (fun w hs => firstLayer_spec (ve := ve) (vi := vi) hn1 hn10 hro (hs.sl ho)) ?_)
     rintro uf _ rfl
     refine ⟨(Some'.weak (.skip (.skip (.skip (.take (.take (.nil _))))))), ?_⟩
     refine DW.formOwn (.head _) (fun A_uf2 c_uf2 hv hcapc_uf2 hmaxc_uf2 => ?_)
     subst hv
     refine DW.take (i := 5) (v := .agg #[.slice (some ⟨b3, 0, none⟩) n n, .slice A_uf2 n c_uf2]) rfl (by kernel_rfl) (by kernel_rfl) (by kernel_rfl) (fun _ _ _ h => h) (Some'.weak (.skip (.skip (.skip (.take (.take (.nil _))))))) rfl (OpY.build (cs := [.slice (some ⟨b3, 0, none⟩) n n, .slice A_uf2 n c_uf2]) (by kernel_rfl)) ?_
     refine DW.step (i := 7) (by kernel_rfl) rfl rfl (OpStep.storeAll (us := [.slice (some ⟨b3, 0, none⟩) n n, .slice A_uf2 n c_uf2]) Tsize_38 rfl rfl rfl (.there _ (.here _)) rfl ?_)
     refine ⟨(Some'.weak (.skip (.skip (.skip (.take (.take (.nil _))))))), ?_⟩
     refine DW.done (by kernel_rfl) ?_
     refine Run.goal ⟨(by repeat (first | exact Same.refl _ _ | refine Same.put rfl ?_ | refine Same.over rfl rfl ?_)), (b5, .slice (some ⟨b3, 0, none⟩) n n, .slice A_uf2 n c_uf2), ?_, ?_, ?_⟩
     ·trivial
     ·exact ⟨(by first | rfl | (congr 1; omega) | simp [*]), trivial⟩
     ·exact ((Weak.selF [1, 1, 0, 0, 0]).trans (Some'.weak (.takeEq (by first | rfl | (rw [rep0]) | simp) (.takeEq (by first | rfl | (rw [rep0]) | simp) (.takeEq (by first | rfl | (rw [rep0]) | simp) (.take (.take (.nil _))))))))
   ·refine OpStep.call (vs := [.agg #[.int .i64 (((n : Nat) : Int)), ve, vi, vo]]) (caps := []) Tcall_26 rfl rfl (fun w hs => firstLayer_spec (ve := ve) (vi := vi) hn1 hn10 hro (hs.sl ho)) ?_
    rintro uf _ rfl
    refine ⟨(Some'.weak (.skip (.take (.take (.nil _))))), ?_⟩
    refine DW.two (i := 2) (j := 6) (by kernel_rfl) rfl rfl rfl rfl ?_ ?_
    ·refine OpStep.makeSlice (n := n) Tsl_24 rfl (by decide) (by first | rfl | omega) (by first | rfl | omega) (by omega) (by simp only [maxLen]; omega) fun b6 => ?_
     refine ⟨(Some'.weak (.skip (.skip (.take (.take (.nil _)))))), ?_⟩
     refine DW.formOwn (.tail _ (List.Mem.head _)) (fun A_uf3 c_uf3 hv hcapc_uf3 hmaxc_uf3 => ?_)
     subst hv
     refine DW.take (i := 5) (v := .agg #[.slice (some ⟨b6, 0, none⟩) n n, .slice A_uf3 n c_uf3]) rfl (by kernel_rfl) (by kernel_rfl) (by kernel_rfl) (fun _ _ _ h => h) (Some'.weak (.skip (.skip (.take (.take (.nil _)))))) rfl (OpY.build (cs := [.slice (some ⟨b6, 0, none⟩) n n, .slice A_uf3 n c_uf3]) (by kernel_rfl)) ?_
     refine DW.step (i := 6) (by kernel_rfl) rfl rfl (OpStep.alloc (zs := [.slice none 0 0, .slice none 0 0]) Tzero_38 fun b7 => ?_)
     refine ⟨(Some'.weak (.skip (.skip (.skip (.take (.take (.nil _))))))), ?_⟩
     refine DW.step (i := 7) (by kernel_rfl) rfl rfl (OpStep.storeAll (us := [.slice (some ⟨b6, 0, none⟩) n n, .slice A_uf3 n c_uf3]) Tsize_38 rfl rfl rfl (.here _) rfl ?_)
     refine ⟨(Some'.weak (.skip (.skip (.skip (.take (.take (.nil _))))))), ?_⟩
     refine DW.done (by kernel_rfl) ?_
     refine Run.goal ⟨(by repeat (first | exact Same.refl _ _ | refine Same.put rfl ?_ | refine Same.over rfl rfl ?_)), (b7, .slice (some ⟨b6, 0, none⟩) n n, .slice A_uf3 n c_uf3), ?_, ?_, ?_⟩
     ·trivial
     ·exact ⟨(by first | rfl | (congr 1; omega) | simp [*]), trivial⟩
     ·exact ((Weak.refl _).trans (Some'.weak (.takeEq (by first | rfl | (rw [rep0]) | simp) (.takeEq (by first | rfl | (rw [rep0]) | simp) (.takeEq (by first | rfl | (rw [rep0]) | simp) (.take (.take (.nil _))))))))
    ·refine OpStep.alloc (zs := [.slice none 0 0, .slice none 0 0]) Tzero_38 fun b8 => ?_
     refine ⟨(Some'.weak (.skip (.skip (.take (.take (.nil _)))))), ?_⟩
     refine DW.step (i := 2) (by kernel_rfl) rfl rfl (OpStep.makeSlice (n := n) Tsl_24 rfl (by decide) (by first | rfl | omega) (by first | rfl | omega) (by omega) (by simp only [maxLen]; omega) fun b9 => ?_)
     refine ⟨(Some'.weak (.skip (.skip (.skip (.take (.take (.nil _))))))), ?_⟩
     refine DW.formOwn (.tail _ (.tail _ (List.Mem.head _))) (fun A_uf4 c_uf4 hv hcapc_uf4 hmaxc_uf4 => ?_)
     subst hv
     refine DW.take (i := 5) (v := .agg #[.slice (some ⟨b9, 0, none⟩) n n, .slice A_uf4 n c_uf4]) rfl (by kernel_rfl) (by kernel_rfl) (by kernel_rfl) (fun _ _ _ h => h) (Some'.weak (.skip (.skip (.skip (.take (.take (.nil _))))))) rfl (OpY.build (cs := [.slice (some ⟨b9, 0, none⟩) n n, .slice A_uf4 n c_uf4]) (by kernel_rfl)) ?_
     refine DW.step (i := 7) (by kernel_rfl) rfl rfl (OpStep.storeAll (us := [.slice (some ⟨b9, 0, none⟩) n n, .slice A_uf4 n c_uf4]) Tsize_38 rfl rfl rfl (.there _ (.here _)) rfl ?_)
     refine ⟨(Some'.weak (.skip (.skip (.skip (.take (.take (.nil _))))))), ?_⟩
     refine DW.done (by kernel_rfl) ?_
     refine Run.goal ⟨(by repeat (first | exact Same.refl _ _ | refine Same.put rfl ?_ | refine Same.over rfl rfl ?_)), (b8, .slice (some ⟨b9, 0, none⟩) n n, .slice A_uf4 n c_uf4), ?_, ?_, ?_⟩
     ·trivial
     ·exact ⟨(by first | rfl | (congr 1; omega) | simp [*]), trivial⟩
     ·exact ((Weak.selF [1, 0, 0, 0, 0]).trans (Some'.weak (.takeEq (by first | rfl | (rw [rep0]) | simp) (.takeEq (by first | rfl | (rw [rep0]) | simp) (.takeEq (by first | rfl | (rw [rep0]) | simp) (.take (.take (.nil _))))))))
   ·refine OpStep.alloc (zs := [.slice none 0 0, .slice none 0 0]) Tzero_38 fun b10 => ?_
    refine ⟨(Some'.weak (.skip (.take (.take (.nil _))))), ?_⟩
    refine DW.two (i := 2) (j := 4) (by kernel_rfl) rfl rfl rfl rfl ?_ ?_
    ·refine OpStep.makeSlice (n := n) Tsl_24 rfl (by decide) (by first | rfl | omega) (by first | rfl | omega) (by omega) (by simp only [maxLen]; omega) fun b11 => ?_
     refine ⟨(Some'.weak (.skip (.skip (.take (.take (.nil _)))))), ?_⟩
     refine DW.step (i := 4) (by kernel_rfl) rfl rfl (OpStep.call (vs := [.agg #[.int .i64 (((n : Nat) : Int)), ve, vi, vo]]) (caps := []) Tcall_26 rfl rfl (fun w hs => firstLayer_spec (ve := ve) (vi := vi) hn1 hn10 hro (hs.sl ho)) ?_)
     rintro uf _ rfl
     refine ⟨(Some'.weak (.skip (.skip (.skip (.take (.take (.nil _))))))), ?_⟩
     refine DW.formOwn (.head _) (fun A_uf5 c_uf5 hv hcapc_uf5 hmaxc_uf5 => ?_)
     subst hv
     refine DW.take (i := 5) (v := .agg #[.slice (some ⟨b11, 0, none⟩) n n, .slice A_uf5 n c_uf5]) rfl (by kernel_rfl) (by kernel_rfl) (by kernel_rfl) (fun _ _ _ h => h) (Some'.weak (.skip (.skip (.skip (.take (.take (.nil _))))))) rfl (OpY.build (cs := [.slice (some ⟨b11, 0, none⟩) n n, .slice A_uf5 n c_uf5]) (by kernel_rfl)) ?_
     refine DW.step (i := 7) (by kernel_rfl) rfl rfl (OpStep.storeAll (us := [.slice (some ⟨b11, 0, none⟩) n n, .slice A_uf5 n c_uf5]) Tsize_38 rfl rfl rfl (.there _ (.there _ (.here _))) rfl ?_)
     refine ⟨(Some'.weak (.skip (.skip (.skip (.take (.take (.nil _))))))), ?_⟩
     refine DW.done (by kernel_rfl) ?_
     refine Run.goal ⟨(by repeat (first | exact Same.refl _ _ | refine Same.put rfl ?_ | refine Same.over rfl rfl ?_)), (b10, .slice (some ⟨b11, 0, none⟩) n n, .slice A_uf5 n c_uf5), ?_, ?_, ?_⟩
     ·trivial
     ·exact ⟨(by first | rfl | (congr 1; omega) | simp [*]), trivial⟩
     ·exact ((Weak.selF [2, 1, 0, 0, 0]).trans (Some'.weak (.takeEq (by first | rfl | (rw [rep0]) | simp) (.takeEq (by first | rfl | (rw [rep0]) | simp) (.takeEq (by first | rfl | (rw [rep0]) | simp) (.take (.take (.nil _))))))))
    ·refine OpStep.call (vs := [.agg #[.int .i64 (((n : Nat) : Int)), ve, vi, vo]]) (caps := []) Tcall_26 rfl rfl (fun w hs => firstLayer_spec (ve := ve) (vi := vi) hn1 hn10 hro (hs.sl ho)) ?_
     rintro uf _ rfl
     refine ⟨(Some'.weak (.skip (.skip (.take (.take (.nil _)))))), ?_⟩
     refine DW.step (i := 2) (by kernel_rfl) rfl rfl (OpStep.makeSlice (n := n) Tsl_24 rfl (by decide) (by first | rfl | omega) (by first | rfl | omega) (by omega) (by simp only [maxLen]; omega) fun b12 => ?_)
     refine ⟨(Some'.weak (.skip (.skip (.skip (.take (.take (.nil _))))))), ?_⟩
     refine DW.formOwn (.tail _ (List.Mem.head _)) (fun A_uf6 c_uf6 hv hcapc_uf6 hmaxc_uf6 => ?_)
     subst hv
     refine DW.take (i := 5) (v := .agg #[.slice (some ⟨b12, 0, none⟩) n n, .slice A_uf6 n c_uf6]) rfl (by kernel_rfl) (by kernel_rfl) (by kernel_rfl) (fun _ _ _ h => h) (Some'.weak (.skip (.skip (.skip (.take (.take (.nil _))))))) rfl (OpY.build (cs := [.slice (some ⟨b12, 0, none⟩) n n, .slice A_uf6 n c_uf6]) (by kernel_rfl)) ?_
     refine DW.step (i := 7) (by kernel_rfl) rfl rfl (OpStep.storeAll (us := [.slice (some ⟨b12, 0, none⟩) n n, .slice A_uf6 n c_uf6]) Tsize_38 rfl rfl rfl (.there _ (.there _ (.here _))) rfl ?_)
     refine ⟨(Some'.weak (.skip (.skip (.skip (.take (.take (.nil _))))))), ?_⟩
     refine DW.done (by kernel_rfl) ?_
     refine Run.goal ⟨(by repeat (first | exact Same.refl _ _ | refine Same.put rfl ?_ | refine Same.over rfl rfl ?_)), (b10, .slice (some ⟨b12, 0, none⟩) n n, .slice A_uf6 n c_uf6), ?_, ?_, ?_⟩
     ·trivial
     ·exact ⟨(by first | rfl | (congr 1; omega) | simp [*]), trivial⟩
     ·exact ((Weak.selF [2, 0, 0, 0, 0]).trans (Some'.weak (.takeEq (by first | rfl | (rw [rep0]) | simp) (.takeEq (by first | rfl | (rw [rep0]) | simp) (.takeEq (by first | rfl | (rw [rep0]) | simp) (.take (.take (.nil _))))))))
  ·rintro ⟨b4, v1, v2⟩ fr hcut
   show Run _ _ (over _ _ [(4, .pointer (some ⟨b4, 0, none⟩))] fr) [.blk b4 38 [v1, v2], .own v1 3 1 n (ints (List.replicate n 0)), .own v2 3 1 n (ints (ly0 os no n)), .blk b2 38 [.slice none 0 0, .slice none 0 0], .blk b1 26 [.int .i64 (((n : Nat) : Int)), ve, vi, vo]]
   refine Run.sr ?_
   refine Run.p (.int .i64 1) rfl rfl ?_
   refine Run.done ?_
   refine Run.formOwn (.tail _ (List.Mem.head _)) (fun A_v11 c_v11 hv hcapc_v11 hmaxc_v11 => ?_) (fun _ _ _ => ⟨nofun, nofun, nofun⟩)
   subst hv
   refine Run.formOwn (.tail _ (.tail _ (List.Mem.head _))) (fun A_v21 c_v21 hv hcapc_v21 hmaxc_v21 => ?_) (fun _ _ _ => ⟨nofun, nofun, nofun⟩)
   subst hv
   refine Run.block ?_
   refine Run.loop (ι := Nat × Nat × List Int × List Int) ([3, 5, 6, 7, 8, 9, 20, 21, 22, 23, 24, 25, 26, 27, 28, 29, 30, 31, 32, 33, 34, 35, 36, 37, 38, 39, 40, 41, 42, 43, 44, 45, 46, 47, 48, 49, 50, 51, 52, 53, 54, 55, 56, 57, 58, 59, 60, 61, 62, 63] ++ [64, 65, 66, 67, 68, 69, 70, 71]) (fun ⟨f, k, ss, ly⟩ => [(5, .int .i64 (((k : Nat) : Int)))]) (fun ⟨f, k, ss, ly⟩ => [.blk b4 38 [.slice A_v11 n c_v11, .slice A_v21 n c_v21], .blk b2 38 [.slice none 0 0, .slice none 0 0], .blk b1 26 [.int .i64 (((n : Nat) : Int)), ve, vi, vo], .own (.slice A_v11 n c_v11) 3 1 n (ints ss), .own (.slice A_v21 n c_v21) 3 1 n (ints ly)]) (fun ⟨f, k, ss, ly⟩ => GfI es m n is ni os no f k ss ly) (fun ⟨f, k, ss, ly⟩ => f) (n + 1, 1, List.replicate n 0, ly0 os no n) ?_ ?_ ?_ ?_
   ·exact GfI.start hg
   ·exact ⟨rfl, trivial⟩
   ·exact ((Weak.selF [0, 2, 2, 0, 0]).trans (Some'.weak (.take (.take (.take (.takeEq (by first | rfl | simp) (.takeEq (by first | rfl | simp) (.nil _))))))))
   ·rintro ⟨f, k, ss, ly⟩ fr hinv
    show Run _ _ (over _ _ [(5, .int .i64 (((k : Nat) : Int)))] fr) [.blk b4 38 [.slice A_v11 n c_v11, .slice A_v21 n c_v21], .blk b2 38 [.slice none 0 0, .slice none 0 0], .blk b1 26 [.int .i64 (((n : Nat) : Int)), ve, vi, vo], .own (.slice A_v11 n c_v11) 3 1 n (ints ss), .own (.slice A_v21 n c_v21) 3 1 n (ints ly)]
    try dsimp only at hinv
    obtain ⟨f2, rfl⟩ : ∃ f2, f = f2 + 1 := ⟨f - 1, by have := hinv.cnt; omega⟩
    have hnl := hinv.fl.ln
    have hll := hinv.fl.ll
    have hkf := hinv.kf
    have hk1 := hinv.k1
    have hul := unl_lt ly n
    have hloop := hinv
    refine Run.seq ?_
    refine Run.block ?_
    refine Run.sr ?_
    refine Run.y (.pointer (some ⟨b4, 1, none⟩)) rfl (OpY.fieldAddr Tfo_38_1 rfl rfl) ?_
    refine Run.y (.slice A_v21 n c_v21) rfl (OpY.load1 Tone_24 rfl (Cells.blk (.head _) ⟨rfl, trivial⟩)) ?_
    refine Run.q (v := .int .i64 (((unl ly n : Nat) : Int))) rfl (OpQ.call (vs := [.slice A_v21 n c_v21]) (caps := []) Tcall_27 rfl rfl (fun w hs => unlayered_spec (ly := ly) hn10 (hs.slOwn (.tail _ (.tail _ (.tail _ (.tail _ (List.Mem.head _)))))))) ?_
    refine Run.p (.int .i64 (((unl ly n : Nat) : Int))) rfl rfl ?_
    refine Run.done ?_
    refine Run.seq ?_
    refine Run.sr ?_
    refine Run.p (.int .i64 (((unl ly n : Nat) : Int))) rfl rfl ?_
    refine Run.p (.bool ((((unl ly n : Nat) : Int)) == 0)) rfl rfl ?_
    refine Run.done ?_
    refine Run.cond (b := (((unl ly n : Nat) : Int)) == 0) rfl (fun h26 => ?_) (fun h26 => ?_)
    ·have p26 := h26; try simp only [bs] at p26
     have hres := gf_some (hinv.stop (by omega))
     refine Run.sr ?_
     refine Run.y (.agg #[.slice A_v11 n c_v11, .slice A_v21 n c_v21]) rfl (OpY.loadN (cs := [.slice A_v11 n c_v11, .slice A_v21 n c_v21]) Tagg_38 rfl (Cells.blk (.head _) ⟨rfl, rfl, trivial⟩)) ?_
     refine Run.step rfl (OpStep.storeAll (us := [.slice A_v11 n c_v11, .slice A_v21 n c_v21]) Tsize_38 rfl rfl rfl (.there _ (.here _)) rfl ?_)
     refine Run.p (.bool true) rfl rfl ?_
     refine Run.done ?_
     refine Run.ret ?_
     refine ⟨.tuple #[.agg #[.slice A_v11 n c_v11, .slice A_v21 n c_v21], .bool true], [.own (.slice A_v11 n c_v11) 3 1 n (ints ss), .own (.slice A_v21 n c_v21) 3 1 n (ints ly)], Out.cell2 (cs := [.slice A_v11 n c_v11, .slice A_v21 n c_v21]) rfl Tagg_38 rfl (Cells.blk (.tail _ (List.Mem.head _)) ⟨rfl, rfl, trivial⟩) rfl, (Some'.weak (.skip (.skip (.skip (.take (.take (.nil _))))))), ?_⟩
     exact ⟨_, _, by rw [hres.2.2], by rw [hres.1, hres.2.1, hnl, hll]⟩
    ·have p26 := h26; try simp only [bs] at p26
     have h0 : unl ly n ≠ 0 := by omega
     have hX0 : (qn - 1) ^^^ ((qn - 1) &&& unl ly n) < 2 ^ n := clr_sub (by omega)
     have hae : ((qn - 1) ^^^ ((qn - 1) &&& unl ly n)) ^^^ (((qn - 1) ^^^ ((qn - 1) &&& unl ly n)) &&& mskK is ni) = allw is ni n (unl ly n) := by rw [hqn]; exact allw_eq
     have hall : allw is ni n (unl ly n) < 2 ^ n := by rw [← hae]; exact clr_sub hX0
     refine Run.skip ?_
     refine Run.seq ?_
     refine Run.draws (by kernel_rfl) (by kernel_rfl) ?_
     refine Lex.q (v := .pointer (some ⟨b1, 0, none⟩)) rfl (OpQ.y (OpY.fieldAddr Tfo_26_0 rfl rfl)) ?_
     refine Lex.q (v := .int .i64 (((n : Nat) : Int))) rfl (OpQ.y (OpY.load1 Tone_3 rfl (Cells.blk (.tail _ (.tail _ (List.Mem.head _))) ⟨rfl, trivial⟩))) ?_
     refine Lex.q (v := .int .i64 (((qn : Nat) : Int))) rfl (OpQ.y (OpY.shlOne rfl rfl rfl (by omega) hqn)) ?_
     refine Lex.q (v := .int .i64 (((qn - 1 : Nat) : Int))) rfl (OpQ.y (OpY.sub rfl rfl (by omega) (by omega) (by omega))) ?_
     refine Lex.q (v := .int .i64 (((unl ly n : Nat) : Int))) rfl (OpQ.y (OpY.pure rfl)) ?_
     refine Lex.q (v := .int .i64 ((((qn - 1) ^^^ ((qn - 1) &&& unl ly n) : Nat) : Int))) rfl (OpQ.y (OpY.andNotNat rfl rfl (by omega) (by omega) rfl)) ?_
     refine Lex.q (v := .pointer (some ⟨b1, 2, none⟩)) rfl (OpQ.y (OpY.fieldAddr Tfo_26_2 rfl rfl)) ?_
     refine Lex.q (v := vi) rfl (OpQ.y (OpY.load1 Tone_24 rfl (Cells.blk (.tail _ (.tail _ (List.Mem.head _))) ⟨rfl, trivial⟩))) ?_
     refine Lex.q (v := .int .i64 (((mskK is ni : Nat) : Int))) rfl (OpQ.call (vs := [vi]) (caps := []) Tcall_38 rfl rfl (fun w hs => maskOf_spec hn10 (ris_in hri) (hs.sl hi))) ?_
     refine Lex.q (v := .int .i64 (((allw is ni n (unl ly n) : Nat) : Int))) rfl (OpQ.y (OpY.andNotNat rfl rfl (by omega) (by omega) hae)) ?_
     refine Lex.q (v := .int .i64 (((allw is ni n (unl ly n) : Nat) : Int))) rfl (OpQ.y (OpY.pure rfl)) ?_
     refine Lex.done ?_
     refine Run.seq ?_
     refine Run.sr ?_
     refine Run.y (.pointer (some ⟨b1, 0, none⟩)) rfl (OpY.fieldAddr Tfo_26_0 rfl rfl) ?_
     refine Run.y (.int .i64 (((n : Nat) : Int))) rfl (OpY.load1 Tone_3 rfl (Cells.blk (.tail _ (.tail _ (List.Mem.head _))) ⟨rfl, trivial⟩)) ?_
     refine Run.p (.int .i64 0) rfl rfl ?_
     refine Run.done ?_
     refine Run.block ?_
     refine Run.loop (ι := Nat × List Int × List Int) [8, 9, 40, 41, 42, 43, 44, 45, 46, 47, 48, 49, 50, 51, 52, 53, 54, 55, 56, 57, 58, 59, 60, 61, 62, 63, 64, 65] (fun ⟨t, A, L⟩ => [(40, .int .i64 (((t : Nat) : Int)))]) (fun ⟨t, A, L⟩ => [.blk b4 38 [.slice A_v11 n c_v11, .slice A_v21 n c_v21], .blk b2 38 [.slice none 0 0, .slice none 0 0], .blk b1 26 [.int .i64 (((n : Nat) : Int)), ve, vi, vo], .own (.slice A_v11 n c_v11) 3 1 n (ints A), .own (.slice A_v21 n c_v21) 3 1 n (ints L)]) (fun ⟨t, A, L⟩ => t ≤ n ∧ MxI (ssV es m n is ni ss ly) (lgV es m n is ni k ly) n t ss ly A L) (fun ⟨t, A, L⟩ => n - t) (0, ss, ly) ?_ ?_ ?_ ?_
     ·exact ⟨Nat.zero_le _, MxI.start hnl hll⟩
     ·exact ⟨rfl, trivial⟩
     ·exact ((Weak.refl _).trans (Some'.weak (.take (.take (.take (.takeEq (by first | rfl | simp) (.takeEq (by first | rfl | simp) (.nil _))))))))
     ·rintro ⟨t, A, L⟩ fr hinv
      show Run _ _ (over _ _ [(40, .int .i64 (((t : Nat) : Int)))] fr) [.blk b4 38 [.slice A_v11 n c_v11, .slice A_v21 n c_v21], .blk b2 38 [.slice none 0 0, .slice none 0 0], .blk b1 26 [.int .i64 (((n : Nat) : Int)), ve, vi, vo], .own (.slice A_v11 n c_v11) 3 1 n (ints A), .own (.slice A_v21 n c_v21) 3 1 n (ints L)]
      try dsimp only at hinv
      refine Run.sr ?_
      refine Run.p (.bool (decide ((((t : Nat) : Int)) < (((n : Nat) : Int))))) rfl rfl ?_
      refine Run.done ?_
      refine Run.seq ?_
      refine Run.cond (b := decide ((((t : Nat) : Int)) < (((n : Nat) : Int)))) rfl (fun h41 => ?_) (fun h41 => ?_)
      ·have p41 := h41; try simp only [bs] at p41
       obtain ⟨_, hmx⟩ := hinv
       have htn : t < n := by omega
       have hAl := hmx.la
       have hLl := hmx.ll
       refine Run.skip ?_
       refine Run.seq ?_
       refine Run.block ?_
       refine Run.sr ?_
       refine Run.p (.int .i64 (((t : Nat) : Int))) rfl rfl ?_
       refine Run.p (.int .i64 (((t : Nat) : Int))) rfl rfl ?_
       refine Run.dsr ?_
       refine Run.p (.int .i64 (((unl ly n : Nat) : Int))) rfl rfl ?_
       refine Run.p (.int .i64 (((t : Nat) : Int))) rfl rfl ?_
       refine Run.y (.int .i64 ((((unl ly n : Nat) : Int)) >>> t)) rfl (OpY.shr rfl rfl (by first | rfl | omega) (by omega)) ?_
       refine Run.y (.int .i64 (((((unl ly n : Nat) : Int)) >>> t) % 2)) rfl (OpY.and1 rfl rfl) ?_
       refine Run.p (.bool ((((((unl ly n : Nat) : Int)) >>> t) % 2) == 1)) rfl rfl ?_
       refine Run.done ?_
       refine Run.cond (b := (((((unl ly n : Nat) : Int)) >>> t) % 2) == 1) rfl (fun h47 => ?_) (fun h47 => ?_)
       ·have p47 := h47; try simp only [bs] at p47
        have hb : (unl ly n).testBit t = true := by rw [← bitN]; exact bitI_true p47
        have hlsv : lsV es m n (allw is ni n (unl ly n)) (unl ly n) t < 2 ^ n := by
         unfold lsV
         by_cases hf : 0 ≤ findI (svB es m n (allw is ni n (unl ly n)) (unl ly n) t) (2 ^ n)
         ·exact (findI_sat' hf).1
         ·have h2 : 0 < 2 ^ n := Nat.two_pow_pos n
          omega
        refine Run.sr ?_
        refine Run.y (.agg #[.int .i64 (((n : Nat) : Int)), ve, vi, vo]) rfl (OpY.loadN (cs := [.int .i64 (((n : Nat) : Int)), ve, vi, vo]) Tagg_26 rfl (Cells.blk (.tail _ (.tail _ (List.Mem.head _))) ⟨rfl, rfl, rfl, rfl, trivial⟩)) ?_
        refine Run.p (.int .i64 (((t : Nat) : Int))) rfl rfl ?_
        refine Run.p (.int .i64 (((allw is ni n (unl ly n) : Nat) : Int))) rfl rfl ?_
        refine Run.p (.int .i64 (((unl ly n : Nat) : Int))) rfl rfl ?_
        refine Run.q (v := .int .i64 (((lsV es m n (allw is ni n (unl ly n)) (unl ly n) t : Nat) : Int))) rfl (OpQ.call (vs := [.agg #[.int .i64 (((n : Nat) : Int)), ve, vi, vo], .int .i64 (((t : Nat) : Int)), .int .i64 (((allw is ni n (unl ly n) : Nat) : Int)), .int .i64 (((unl ly n : Nat) : Int))]) (caps := []) Tcall_39 rfl rfl (fun w hs => leastSet_spec (v := t) (al := allw is ni n (unl ly n)) (lf := unl ly n) hn10 htn hall hul hes (hs.sl he))) ?_
        refine Run.p (.int .i64 (((lsV es m n (allw is ni n (unl ly n)) (unl ly n) t : Nat) : Int))) rfl rfl ?_
        refine Run.dsr ?_
        refine Run.p (.int .i64 (((lsV es m n (allw is ni n (unl ly n)) (unl ly n) t : Nat) : Int))) rfl rfl ?_
        refine Run.p (.bool (decide ((((lsV es m n (allw is ni n (unl ly n)) (unl ly n) t : Nat) : Int)) > 0))) rfl rfl ?_
        refine Run.done ?_
        refine Run.cond (b := decide ((((lsV es m n (allw is ni n (unl ly n)) (unl ly n) t : Nat) : Int)) > 0)) rfl (fun h54 => ?_) (fun h54 => ?_)
        ·have p54 := h54; try simp only [bs] at p54
         have hpf := ls_pos.1 (show 0 < lsV es m n (allw is ni n (unl ly n)) (unl ly n) t by omega)
         have hput := hmx.put htn (x := ((lsV es m n (allw is ni n (unl ly n)) (unl ly n) t : Nat) : Int)) (y := (k : Int)) (by rw [ssV, if_pos ⟨hb, hpf⟩, lsV]; omega) (by rw [lgV, if_pos ⟨hb, hpf⟩])
         refine Run.openOwn (.tail _ (.tail _ (.tail _ (List.Mem.head _)))) (by omega) (fun g1 cg1 hvg1 hcapg1 _ => ?_) (fun _ _ _ => ⟨nofun, nofun, nofun⟩)
         injection hvg1 with hAg1 _ hcg1; subst hAg1; subst hcg1
         refine Run.openOwn (.tail _ (.tail _ (.tail _ (.tail _ (List.Mem.head _))))) (by omega) (fun g2 cg2 hvg2 hcapg2 _ => ?_) (fun _ _ _ => ⟨nofun, nofun, nofun⟩)
         injection hvg2 with hAg2 _ hcg2; subst hAg2; subst hcg2
         refine Run.heldB (base := [.blk b4 38 [.slice (some ⟨g1, 0, none⟩) n c_v11, .slice (some ⟨g2, 0, none⟩) n c_v21], .blk b2 38 [.slice none 0 0, .slice none 0 0], .blk b1 26 [.int .i64 (((n : Nat) : Int)), ve, vi, vo]]) (by kernel_rfl) ?_
         refine DW.take (i := 0) (v := .pointer (some ⟨b4, 0, none⟩)) rfl (by kernel_rfl) (by kernel_rfl) (by kernel_rfl) (fun _ _ _ h => h) (Some'.weak (.take (.take (.take (.nil _))))) rfl (OpY.fieldAddr Tfo_38_0 rfl rfl) ?_
         refine DW.take (i := 1) (v := .slice (some ⟨g1, 0, none⟩) n c_v11) rfl (by kernel_rfl) (by kernel_rfl) (by kernel_rfl) (fun _ _ _ h => h) (Some'.weak (.take (.take (.take (.nil _))))) rfl (OpY.load1 Tone_24 rfl (Cells.blk (.head _) ⟨rfl, trivial⟩)) ?_
         refine DW.take (i := 2) (v := .int .i64 (((t : Nat) : Int))) rfl (by kernel_rfl) (by kernel_rfl) (by kernel_rfl) (fun _ _ _ h => h) (Some'.weak (.take (.take (.take (.nil _))))) rfl (OpY.pure rfl) ?_
         refine DW.take (i := 3) (v := .pointer (some ⟨b4, 1, none⟩)) rfl (by kernel_rfl) (by kernel_rfl) (by kernel_rfl) (fun _ _ _ h => h) (Some'.weak (.take (.take (.take (.nil _))))) rfl (OpY.fieldAddr Tfo_38_1 rfl rfl) ?_
         refine DW.take (i := 4) (v := .slice (some ⟨g2, 0, none⟩) n c_v21) rfl (by kernel_rfl) (by kernel_rfl) (by kernel_rfl) (fun _ _ _ h => h) (Some'.weak (.take (.take (.take (.nil _))))) rfl (OpY.load1 Tone_24 rfl (Cells.blk (.head _) ⟨rfl, trivial⟩)) ?_
         refine DW.take (i := 5) (v := .int .i64 (((t : Nat) : Int))) rfl (by kernel_rfl) (by kernel_rfl) (by kernel_rfl) (fun _ _ _ h => h) (Some'.weak (.take (.take (.take (.nil _))))) rfl (OpY.pure rfl) ?_
         refine DW.take (i := 6) (v := .int .i64 (((lsV es m n (allw is ni n (unl ly n)) (unl ly n) t : Nat) : Int))) rfl (by kernel_rfl) (by kernel_rfl) (by kernel_rfl) (fun _ _ _ h => h) (Some'.weak (.take (.take (.take (.nil _))))) rfl (OpY.pure rfl) ?_
         refine DW.take (i := 7) (v := .int .i64 (((k : Nat) : Int))) rfl (by kernel_rfl) (by kernel_rfl) (by kernel_rfl) (fun _ _ _ h => h) (Some'.weak (.take (.take (.take (.nil _))))) rfl (OpY.pure rfl) ?_
         refine DW.take (i := 8) (v := .pointer (some ⟨g1, t, none⟩)) rfl (by kernel_rfl) (by kernel_rfl) (by kernel_rfl) (fun _ _ _ h => h) (Some'.weak (.take (.take (.take (.nil _))))) rfl (OpY.index (kk := t) Tsl_24 rfl rfl (by omega) (by omega) (by first | rfl | omega)) ?_
         refine DW.step (i := 9) (by kernel_rfl) rfl rfl (OpStep.storeOwnInt (o := t) (a := ((lsV es m n (allw is ni n (unl ly n)) (unl ly n) t : Nat) : Int)) Tsize_3 rfl rfl (.there _ (.there _ (.there _ (.here _)))) (by first | omega | (simp only [ints_length, List.length_set]; omega)) ?_)
         refine ⟨(Some'.weak (.take (.take (.take (.nil _))))), ?_⟩
         refine DW.take (i := 10) (v := .pointer (some ⟨g2, t, none⟩)) rfl (by kernel_rfl) (by kernel_rfl) (by kernel_rfl) (fun _ _ _ h => h) (Some'.weak (.take (.take (.take (.nil _))))) rfl (OpY.index (kk := t) Tsl_24 rfl rfl (by omega) (by omega) (by first | rfl | omega)) ?_
         refine DW.step (i := 11) (by kernel_rfl) rfl rfl (OpStep.storeOwnInt (o := t) (a := ((k : Nat) : Int)) Tsize_3 rfl rfl (.there _ (.there _ (.there _ (.there _ (.here _))))) (by first | omega | (simp only [ints_length, List.length_set]; omega)) ?_)
         refine ⟨(Some'.weak (.take (.take (.take (.nil _))))), ?_⟩
         refine DW.done (by kernel_rfl) ?_
         refine Run.blockEnd ?_
         refine Run.region ?_
         refine Run.y (.int .i64 ((((t : Nat) : Int)) + 1)) rfl (OpY.add rfl rfl rfl (by omega) (by omega)) ?_
         refine Run.p (.int .i64 ((((t : Nat) : Int)) + 1)) rfl rfl ?_
         refine Run.done ?_
         refine Run.goal ⟨(by repeat (first | exact Same.refl _ _ | refine Same.put rfl ?_ | refine Same.over rfl rfl ?_)), (t + 1, (A.set t (((lsV es m n (allw is ni n (unl ly n)) (unl ly n) t : Nat) : Int))), (L.set t (((k : Nat) : Int)))), ?_, ?_, ?_, ?_⟩
         ·first | exact ⟨by omega, hput⟩ | exact ⟨by omega, hkeep⟩
         ·show n - (t + 1) < n - t; omega
         ·exact ⟨(by first | rfl | (congr 1; omega) | simp), trivial⟩
         ·exact ((Weak.refl _).trans (Some'.weak (.takeEq (by first | rfl | simp) (.take (.take (.takeEq (by first | rfl | simp) (.takeEq (by first | rfl | simp) (.nil _))))))))
        ·have p54 := h54; try simp only [bs] at p54
         have hpf : ¬ 0 ≤ findI (svB es m n (allw is ni n (unl ly n)) (unl ly n) t) (2 ^ n) := fun h => by have h2 := ls_pos.2 h; omega
         have hkeep := hmx.keep (by rw [ssV, if_neg (fun h => hpf h.2)]) (by rw [lgV, if_neg (fun h => hpf h.2)])
         refine Run.skip ?_
         refine Run.blockEnd ?_
         refine Run.region ?_
         refine Run.y (.int .i64 ((((t : Nat) : Int)) + 1)) rfl (OpY.add rfl rfl rfl (by omega) (by omega)) ?_
         refine Run.p (.int .i64 ((((t : Nat) : Int)) + 1)) rfl rfl ?_
         refine Run.done ?_
         refine Run.goal ⟨(by repeat (first | exact Same.refl _ _ | refine Same.put rfl ?_ | refine Same.over rfl rfl ?_)), (t + 1, A, L), ?_, ?_, ?_, ?_⟩
         ·first | exact ⟨by omega, hput⟩ | exact ⟨by omega, hkeep⟩
         ·show n - (t + 1) < n - t; omega
         ·exact ⟨(by first | rfl | (congr 1; omega) | simp), trivial⟩
         ·exact ((Weak.refl _).trans (Some'.weak (.take (.take (.take (.takeEq (by first | rfl | simp) (.takeEq (by first | rfl | simp) (.nil _))))))))
       ·have p47 := h47; try simp only [bs] at p47
        have hb : (unl ly n).testBit t = false := by rw [← bitN]; exact bitI_ne1 p47
        have hkeep := hmx.keep (by rw [ssV, if_neg (by rw [hb]; simp)]) (by rw [lgV, if_neg (by rw [hb]; simp)])
        refine Run.skip ?_
        refine Run.blockEnd ?_
        refine Run.region ?_
        refine Run.y (.int .i64 ((((t : Nat) : Int)) + 1)) rfl (OpY.add rfl rfl rfl (by omega) (by omega)) ?_
        refine Run.p (.int .i64 ((((t : Nat) : Int)) + 1)) rfl rfl ?_
        refine Run.done ?_
        refine Run.goal ⟨(by repeat (first | exact Same.refl _ _ | refine Same.put rfl ?_ | refine Same.over rfl rfl ?_)), (t + 1, A, L), ?_, ?_, ?_, ?_⟩
        ·first | exact ⟨by omega, hput⟩ | exact ⟨by omega, hkeep⟩
        ·show n - (t + 1) < n - t; omega
        ·exact ⟨(by first | rfl | (congr 1; omega) | simp), trivial⟩
        ·exact ((Weak.refl _).trans (Some'.weak (.take (.take (.take (.takeEq (by first | rfl | simp) (.takeEq (by first | rfl | simp) (.nil _))))))))
      ·have p41 := h41; try simp only [bs] at p41
       obtain ⟨_, hmx⟩ := hinv
       rw [show t = n by omega] at hmx
       obtain ⟨hfA, hfL⟩ := hmx.fin
       have hfA : A = (gfS es m n is ni k (ss, ly)).1 := hfA
       have hfL : L = (gfS es m n is ni k (ss, ly)).2 := hfL
       refine Run.exit rfl ?_
       refine Run.sr ?_
       refine Run.y (.pointer (some ⟨b4, 1, none⟩)) rfl (OpY.fieldAddr Tfo_38_1 rfl rfl) ?_
       refine Run.y (.slice A_v21 n c_v21) rfl (OpY.load1 Tone_24 rfl (Cells.blk (.head _) ⟨rfl, trivial⟩)) ?_
       refine Run.q (v := .int .i64 (((unl L n : Nat) : Int))) rfl (OpQ.call (vs := [.slice A_v21 n c_v21]) (caps := []) Tcall_27 rfl rfl (fun w hs => unlayered_spec (ly := L) hn10 (hs.slOwn (.tail _ (.tail _ (.tail _ (.tail _ (List.Mem.head _)))))))) ?_
       refine Run.p (.int .i64 (((unl ly n : Nat) : Int))) rfl rfl ?_
       refine Run.p (.bool ((((unl L n : Nat) : Int)) == (((unl ly n : Nat) : Int)))) rfl rfl ?_
       refine Run.done ?_
       refine Run.cond (b := (((unl L n : Nat) : Int)) == (((unl ly n : Nat) : Int))) rfl (fun h70 => ?_) (fun h70 => ?_)
       ·have p70 := h70; try simp only [bs] at p70
        have hres := gf_none (hloop.none h0 (by rw [← hfL]; omega))
        refine Run.sr ?_
        refine Run.y (.agg #[.slice none 0 0, .slice none 0 0]) rfl (OpY.build (cs := [.slice none 0 0, .slice none 0 0]) (by kernel_rfl)) ?_
        refine Run.step rfl (OpStep.storeAll (us := [.slice none 0 0, .slice none 0 0]) Tsize_38 rfl rfl rfl (.there _ (.here _)) rfl ?_)
        refine Run.p (.bool false) rfl rfl ?_
        refine Run.done ?_
        refine Run.ret ?_
        refine ⟨.tuple #[.agg #[.slice none 0 0, .slice none 0 0], .bool false], [.own (.slice none 0 0) 3 1 0 ([]), .own (.slice none 0 0) 3 1 0 ([])], Out.cell2 (cs := [.slice none 0 0, .slice none 0 0]) rfl Tagg_38 rfl (Cells.blk (.tail _ (List.Mem.head _)) ⟨rfl, rfl, trivial⟩) rfl, ((Weak.nilOwn 3 1).trans ((Weak.nilOwn 3 1).trans (Some'.weak (.take (.take (.nil _)))))), ?_⟩
        exact ⟨_, _, by rw [hres.2.2], by rw [hres.1, hres.2.1]; rfl⟩
       ·have p70 := h70; try simp only [bs] at p70
        have hnext := hloop.next (ris_pos hri) h0 (by rw [← hfL]; omega)
        rw [← hfA, ← hfL] at hnext
        refine Run.skip ?_
        refine Run.blockEnd ?_
        refine Run.region ?_
        refine Run.p (.int .i64 (((k : Nat) : Int))) rfl rfl ?_
        refine Run.y (.int .i64 (((k + 1 : Nat) : Int))) rfl (OpY.add rfl rfl (by omega) (by omega) (by omega)) ?_
        refine Run.p (.int .i64 (((k + 1 : Nat) : Int))) rfl rfl ?_
        refine Run.done ?_
        refine Run.goal ⟨(by repeat (first | exact Same.refl _ _ | refine Same.put rfl ?_ | refine Same.over rfl rfl ?_)), (f2, k + 1, A, L), ?_, ?_, ?_, ?_⟩
        ·exact hnext
        ·show f2 < f2 + 1; omega
        ·exact ⟨(by show Value.int _ _ = Value.int _ _; congr 1), trivial⟩
        ·exact ((Weak.refl _).trans (Some'.weak (.take (.take (.take (.takeEq (by first | rfl | simp) (.takeEq (by first | rfl | simp) (.nil _))))))))

end Go.Proofs.Ytoiaibgcjfgbcaa
