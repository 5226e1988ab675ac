/- The members of a group are read where they lie. -/
import Derived.Test.YtoiaibgcjfgbcaaSs
set_option linter.unusedSimpArgs false
set_option linter.unusedVariables false
namespace Go.Proofs.Ytoiaibgcjfgbcaa
open Go Go.RowKit

theorem Run.formGrp {E : Env} {k : List It} {f : Fr} {H : List Res} {e : TypeId} {ps : List (Value × List Int)} (hm : Res.grp e 1 (gl ps) ∈ H) {i : Nat} (hi : i < ps.length) (h0 : 0 < (lx ps i).length)
    (h : ∀ g c, vx ps i = .slice (some ⟨g, 0, none⟩) (lx ps i).length c → (lx ps i).length ≤ c → c ≤ maxLen → Run E k f H) (hk : ∀ G i k', k ≠ .goal G :: k' ∧ k ≠ .block i :: k' ∧ k ≠ []) : Run E k f H := by
  have key : ∀ w, St E.M E.w0 w H → Run E k f H := by
    intro w hs
    have h1 : w.ownsRow 0 e 1 (vx ps i) (lx ps i).length (ints (lx ps i)) := (hs.holds (.grp e 1 (gl ps)) hm).1 (vx ps i, (lx ps i).length, ints (lx ps i)) (List.mem_map.2 ⟨_, px_eq hi, rfl⟩)
    rcases h1.2 with ⟨_, h0'⟩ | ⟨g, cap, cur, he, _, hg, h3, h4, _⟩
    · omega
    · exact h g cap he h3 h4
  match k, hk with
  | [], hk => exact absurd rfl (hk (fun _ _ => True) 0 []).2.2
  | .goal G :: k', hk => exact absurd rfl (hk G 0 k').1
  | .block i :: k', hk => exact absurd rfl (hk (fun _ _ => True) i k').2.1
  | .rounds c n :: k', _ => exact fun a w ha hs => key w hs a w ha hs
  | .ops ops l :: k', _ => exact fun a w ha hs => key w hs a w ha hs
  | .code c :: k', _ => exact fun a w ha hs => key w hs a w ha hs
theorem Cells.grp {E : Env} {H : List Res} {e : TypeId} {ps : List (Value × List Int)} (hm : Res.grp e 1 (gl ps) ∈ H) {i g m c o : Nat} (hi : i < ps.length) (h0 : 0 < (lx ps i).length) (hv : vx ps i = .slice (some ⟨g, 0, none⟩) m c) {ys : List Value} (hp : Pre (ints (lx ps i)) o ys) : Cells E H g o ys := by
  have h1 : Cells E H g 0 (ints (lx ps i)) := by
    intro w hs
    obtain ⟨_, A, c', he, _, _, h3⟩ := hs.grpSl hm i hi
    obtain ⟨b', o', rfl, _, hr⟩ := h3 h0
    rw [hv] at he
    simp only [Value.slice.injEq, Option.some.injEq, Addr.mk.injEq] at he
    obtain ⟨⟨rfl, rfl, _⟩, _⟩ := he
    exact hr
  have := Cells.sub h1 hp
  rwa [Nat.zero_add] at this

end Go.Proofs.Ytoiaibgcjfgbcaa
