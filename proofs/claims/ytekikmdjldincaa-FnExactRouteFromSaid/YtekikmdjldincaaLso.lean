/- Plain laws: what a search for a route answers. -/
import Derived.Test.YtekikmdjldincaaLsn
import Derived.Test.YtekikmdjldincaaProg
set_option linter.unusedSimpArgs false
set_option linter.unusedVariables false
namespace Go.Proofs.Ytekikmdjldincaa
open Go Go.RowKit

/-- The state at the start: what can be done is done. -/
def rS (es : List Int) (m : Nat) (xs : List Int) (n : Nat) (ps : List Int) : RK := (ps, (advS (goB es m xs ps) n (List.replicate n false) []).1)
def rL (es : List Int) (m : Nat) (xs : List Int) (n : Nat) (ps : List Int) : List T3 := (advS (goB es m xs ps) n (List.replicate n false) []).2
def rtO (N : Int) (es : List Int) (m : Nat) (Q : Int) (xs : List Int) (n : Nat) (ps : List Int) (pn : Nat) : Bool := smB N es m Q xs n && plOk N Q ps pn
def rtB (M : Nat) (N : Int) (es : List Int) (m : Nat) (Q : Int) (xs : List Int) (n : Nat) (ps : List Int) (pn : Nat) : Bool := rtO N es m Q xs n ps pn && (rtP M es m xs n (rS es m xs n ps)).isSome
def rtL (M : Nat) (N : Int) (es : List Int) (m : Nat) (Q : Int) (xs : List Int) (n : Nat) (ps : List Int) (pn : Nat) : List T3 :=
  if rtO N es m Q xs n ps pn then match rtP M es m xs n (rS es m xs n ps) with
    | some p => stp es m xs n (rS es m xs n ps) (rL es m xs n ps) p
    | none => []
  else []
structure RtF (N : Int) (es : List Int) (m : Nat) (Q : Int) (xs : List Int) (n : Nat) (ps : List Int) (pn : Nat) : Prop where
  hN : 1 ≤ N ∧ N ≤ 5
  hn : n ≤ 40
  hc : cnt2 xs n ≤ 12
  he : edgesOk N es m = true
  hci : circOk Q xs n = true
  hpl : plOk N Q ps pn = true
  hpn : 0 < pn ∧ pn ≤ 5
theorem rtF_of {N Q : Int} {es xs ps : List Int} {m n pn : Nat} (h : rtO N es m Q xs n ps pn = true) : RtF N es m Q xs n ps pn := by
  simp only [rtO, smB, Bool.and_eq_true, decide_eq_true_eq] at h
  obtain ⟨⟨⟨⟨hf, h5⟩, h40⟩, h12⟩, hp⟩ := h
  have hf2 := hf
  simp only [fitOk, Bool.and_eq_true, decide_eq_true_eq] at hf2
  have hN := cgOk_N hf2.1.1
  have hq := hp
  simp only [plOk, Bool.and_eq_true, decide_eq_true_eq] at hq
  have hQ : 1 ≤ Q := (circOk_N hf2.1.2).1
  exact ⟨⟨hN.1, h5⟩, by omega, by omega, cgOk_edges hf2.1.1, hf2.1.2, hp, by omega, by omega⟩
theorem rS_ok {N Q : Int} {es xs ps : List Int} {m n pn : Nat} (h : RtF N es m Q xs n ps pn) (hl : ps.length = pn) : KOk N Q pn n xs (rS es m xs n ps) := by
  obtain ⟨h2, h3, h4⟩ := adv_ok (es := es) (m := m) (ps := ps) (n := n) (ds := List.replicate n false) [] (by simp) (Dn.start xs n)
  exact ⟨hl, h.hpl, h2, h3, h4⟩

end Go.Proofs.Ytekikmdjldincaa
