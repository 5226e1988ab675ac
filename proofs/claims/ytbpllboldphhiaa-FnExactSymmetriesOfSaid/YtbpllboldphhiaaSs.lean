/- Walks: the laws' own functions on slices of slices of int. -/
import Derived.Test.YtbpllboldphhiaaGs
import Derived.Test.YtbpllboldphhiaaProg
set_option linter.unusedSimpArgs false
set_option linter.unusedVariables false
namespace Go.Proofs.Ytbpllboldphhiaa
open Go Go.RowKit
namespace SsT
theorem Tcall_19 : callable Try.prog 19 = true := by kernel_rfl
theorem Tcall_22 : callable Try.prog 22 = true := by kernel_rfl
theorem Tcall_23 : callable Try.prog 23 = true := by kernel_rfl
theorem Tone_26 : oneOf Try.prog 26 = true := by kernel_rfl
theorem Tsl_79 : sliceOf Try.prog 79 = some (26, 1, 24, [.slice none 0 0]) := by kernel_rfl
end SsT
open SsT

def vx (ps : List (Value × List Int)) (i : Nat) : Value := (ps.map (·.1)).getD i undef
def lx (ps : List (Value × List Int)) (i : Nat) : List Int := (ps.map (·.2)).getD i []
theorem preO {ps : List (Value × List Int)} {i : Nat} (h : i < ps.length) : Pre (oc ps) i [vx ps i] := ⟨by simp [oc, vx, List.getD, h], trivial⟩
/-- Each member can be read. -/
def GrpSl (w : World) (ps : List (Value × List Int)) : Prop := ∀ i, i < ps.length → Sl w (vx ps i) 1 (lx ps i).length (ints (lx ps i))
theorem px_eq {ps : List (Value × List Int)} {i : Nat} (h : i < ps.length) : (vx ps i, lx ps i) ∈ ps := by
  have : (vx ps i, lx ps i) = ps[i] := by simp [vx, lx, List.getD, h]
  rw [this]; exact List.getElem_mem h
theorem St.grpSl {M : Nat → Prop} {w0 w : World} {H : List Res} {e : TypeId} {ps : List (Value × List Int)} (hs : St M w0 w H) (hm : Res.grp e 1 (gl ps) ∈ H) : GrpSl w ps :=
  fun _ hi => hs.slGrp hm (px_eq hi)
theorem GrpSl.go {w0 w : World} {H : List Res} {ps : List (Value × List Int)} (h : GrpSl w0 ps) (hs : St No w0 w H) : GrpSl w ps := fun i hi => hs.sl (h i hi)
theorem lx_of {ps qs : List (Value × List Int)} (h : ps.map (·.2) = qs.map (·.2)) (i : Nat) : lx ps i = lx qs i := by simp only [lx, h]
theorem len_of {ps qs : List (Value × List Int)} (h : ps.map (·.2) = qs.map (·.2)) : ps.length = qs.length := by
  have := congrArg List.length h; simpa using this
/-- The number of all elements. -/
def tot (ps : List (Value × List Int)) : Nat := (ps.map (·.2.length)).sum
/-- The lists written over with k, k + 1, .. -/
def mkps : Int → List (Value × List Int) → List (Value × List Int)
  | _, [] => []
  | k, p :: ps => (p.1, mks k p.2.length) :: mkps (k + (p.2.length : Nat)) ps
@[simp] theorem mkps_length : ∀ (ps : List (Value × List Int)) (k : Int), (mkps k ps).length = ps.length
  | [], _ => rfl
  | p :: ps, k => by simp [mkps, mkps_length ps]
theorem mkps_fst : ∀ (ps : List (Value × List Int)) (k : Int), (mkps k ps).map (·.1) = ps.map (·.1)
  | [], _ => rfl
  | p :: ps, k => by simp [mkps, mkps_fst ps]
theorem oc_mkps (ps : List (Value × List Int)) (k : Int) : oc (mkps k ps) = oc ps := mkps_fst ps k
theorem tot_mkps : ∀ (ps : List (Value × List Int)) (k : Int), tot (mkps k ps) = tot ps
  | [], _ => rfl
  | p :: ps, k => by have := tot_mkps ps (k + (p.2.length : Nat)); simp only [tot, mkps, List.map_cons, List.sum_cons, mks_length] at this ⊢; omega
theorem tot_take_succ {ps : List (Value × List Int)} {i : Nat} (h : i < ps.length) : tot (ps.take (i + 1)) = tot (ps.take i) + (lx ps i).length := by
  have e : ps.take (i + 1) = ps.take i ++ [ps[i]] := (List.take_append_getElem h).symm
  have e2 : lx ps i = ps[i].2 := by simp [lx, List.getD, h]
  rw [e, e2]
  simp only [tot, List.map_append, List.sum_append, List.map_cons, List.map_nil, List.sum_cons, List.sum_nil]; omega
theorem tot_take_le {ps : List (Value × List Int)} : ∀ {i : Nat}, tot (ps.take i) ≤ tot ps := by
  intro i
  have : tot ps = tot (ps.take i) + tot (ps.drop i) := by
    conv => lhs; rw [← List.take_append_drop i ps]
    simp only [tot, List.map_append, List.sum_append]
  omega
theorem tot_all (ps : List (Value × List Int)) : tot (ps.take ps.length) = tot ps := by rw [List.take_length]
theorem lx_le {ps : List (Value × List Int)} {i : Nat} (h : i < ps.length) : tot (ps.take i) + (lx ps i).length ≤ tot ps := by
  rw [← tot_take_succ h]; exact tot_take_le
theorem lx_mkps : ∀ {ps : List (Value × List Int)} {k : Int} {i : Nat}, i < ps.length → lx (mkps k ps) i = mks (k + (tot (ps.take i) : Nat)) (lx ps i).length
  | [], _, _, h => by simp at h
  | p :: ps, k, 0, _ => by simp [lx, mkps, tot, List.getD]
  | p :: ps, k, i + 1, h => by
    have ih := lx_mkps (ps := ps) (k := k + (p.2.length : Nat)) (i := i) (by simpa using h)
    have e1 : lx (mkps k (p :: ps)) (i + 1) = lx (mkps (k + (p.2.length : Nat)) ps) i := by simp [lx, mkps, List.getD]
    have e2 : lx (p :: ps) (i + 1) = lx ps i := by simp [lx, List.getD]
    have e3 : tot ((p :: ps).take (i + 1)) = p.2.length + tot (ps.take i) := by simp [tot]
    rw [e1, e2, e3, ih]; congr 1; omega
/-- The lists hold k, k + 1, .. -/
def IsMk (k : Int) (ps : List (Value × List Int)) : Prop := ∀ i, i < ps.length → lx ps i = mks (k + (tot (ps.take i) : Nat)) (lx ps i).length
theorem mkps_take : ∀ (ps : List (Value × List Int)) (k : Int) (i : Nat), (mkps k ps).take i = mkps k (ps.take i)
  | [], _, i => by simp [mkps]
  | p :: ps, k, 0 => by simp [mkps]
  | p :: ps, k, i + 1 => by simp [mkps, mkps_take ps]
theorem isMk_mkps {ps : List (Value × List Int)} {k : Int} : IsMk k (mkps k ps) := by
  intro i hi
  rw [mkps_length] at hi
  rw [lx_mkps hi, mkps_take, tot_mkps, mks_length]
theorem vx_split {A B ps : List (Value × List Int)} {p : Value × List Int} (h : A.map (·.1) ++ (p :: B).map (·.1) = ps.map (·.1)) : vx ps A.length = p.1 := by
  simp only [vx, ← h, List.getD, List.map_cons]
  rw [List.getElem?_append_right (by simp)]
  simp
theorem Weak.putBack {e : TypeId} {v : Value} {l : List Int} {O : Res} {A B : List (Value × List Int)} : Weak [.own v e 1 l.length (ints l), .grp e 1 (gl (A ++ B)), O] [O, .grp e 1 (gl ((A ++ [(v, l)]) ++ B))] := by
  refine Weak.trans (Weak.grpPut (p := (v, l))) ?_
  refine Weak.trans (Weak.front [Res.grp e 1 (gl (A ++ (v, l) :: B))] O []) ?_
  exact Some'.weak (.take (.takeEq (by simp) (.nil _)))
theorem tot_snoc (A : List (Value × List Int)) (v : Value) (l : List Int) : tot (A ++ [(v, l)]) = tot A + l.length := by simp [tot]
theorem mk_round {A B ps : List (Value × List Int)} {p : Value × List Int} {k : Int} (h : mkps k ps = A ++ mkps (k + (tot A : Nat)) (p :: B)) :
    mkps k ps = (A ++ [(p.1, mks (k + (tot A : Nat)) p.2.length)]) ++ mkps (k + (tot (A ++ [(p.1, mks (k + (tot A : Nat)) p.2.length)]) : Nat)) B := by
  rw [h, mkps, tot_snoc, mks_length]
  simp only [List.append_assoc, List.singleton_append]
  congr 3; omega
theorem tot_bound {A B ps : List (Value × List Int)} {k : Int} (h : mkps k ps = A ++ mkps (k + (tot A : Nat)) B) : tot ps = tot A + tot B := by
  have := congrArg tot h
  rw [tot_mkps] at this
  rw [this]
  have e : tot (A ++ mkps (k + (tot A : Nat)) B) = tot A + tot (mkps (k + (tot A : Nat)) B) := by simp [tot]
  rw [e, tot_mkps]
theorem tot_cons (p : Value × List Int) (B : List (Value × List Int)) : tot (p :: B) = p.2.length + tot B := by simp [tot]
theorem mk_fst {A B ps : List (Value × List Int)} {k : Int} (h : mkps k ps = A ++ mkps (k + (tot A : Nat)) B) : A.map (·.1) ++ B.map (·.1) = ps.map (·.1) := by
  have := congrArg (List.map (·.1)) h
  rw [mkps_fst, List.map_append, mkps_fst] at this
  exact this.symm
theorem mk_len {A B ps : List (Value × List Int)} {k : Int} (h : mkps k ps = A ++ mkps (k + (tot A : Nat)) B) : ps.length = A.length + B.length := by
  have := congrArg List.length h
  simpa using this

set_option maxHeartbeats 1000000 in
set_option maxRecDepth 20000 in
theorem eqIntSS_true {va vb : Value} {ps qs : List (Value × List Int)} {w : World} (ha : Sl w va 1 ps.length (oc ps)) (hb : Sl w vb 1 qs.length (oc qs)) (hpa : GrpSl w ps) (hqb : GrpSl w qs) (he : ps.map (·.2) = qs.map (·.2)) : Calls Try.prog 46 #[va, vb] w (Post No w fun v _ => v = .bool true) := by
  have hn := ha.le
  have hm := hb.le
  have hln := len_of he
  obtain ⟨A, c, rfl, _, _⟩ := ha.form0
  obtain ⟨B, d, rfl, _, _⟩ := hb.form0
  refine enter (n := 27) (args := [.slice A (ps.length) c, .slice B (qs.length) d]) Try.func46 rfl rfl (St.empty _ _) ?_
  refine Run.seq ?_
  refine Run.region ?_
  refine Run.q (v := .bool false) rfl (OpQ.y (OpY.pure rfl)) ?_
  refine Run.done ?_
  refine Run.seq ?_
  refine Run.seq ?_
  refine Run.region ?_
  refine Run.q (v := .slice A (ps.length) c) rfl (OpQ.y (OpY.pure rfl)) ?_
  refine Run.q (v := .int .i64 (((ps.length : Nat) : Int))) rfl (OpQ.y (OpY.len Tsl_79 rfl)) ?_
  refine Run.q (v := .slice B (qs.length) d) rfl (OpQ.y (OpY.pure rfl)) ?_
  refine Run.q (v := .int .i64 (((qs.length : Nat) : Int))) rfl (OpQ.y (OpY.len Tsl_79 rfl)) ?_
  refine Run.q (v := .bool ((((ps.length : Nat) : Int)) != (((qs.length : Nat) : Int)))) rfl (OpQ.y (OpY.pure rfl)) ?_
  refine Run.done ?_
  refine Run.cond (b := (((ps.length : Nat) : Int)) != (((qs.length : Nat) : Int))) rfl (fun h10 => ?_) (fun h10 => ?_)
  · exact absurd h10 (by simp <;> omega) --DONE
  · have p10 := h10; try simp only [decide_eq_true_eq, decide_eq_false_iff_not, beq_iff_eq, bne_iff_ne, beq_eq_false_iff_ne, ne_eq, gt_iff_lt, ge_iff_le, Int.not_lt, Int.not_le, bne_eq_false_iff_eq, Bool.not_eq_true', Bool.not_eq_false', Bool.and_eq_true, Bool.and_eq_false_iff, Bool.or_eq_true, Bool.or_eq_false_iff, Decidable.not_not, List.cons.injEq, and_true] at p10
    refine Run.skip ?_
    refine Run.seq ?_
    refine Run.seq ?_
    refine Run.region ?_
    refine Run.q (v := .int .i64 0) rfl (OpQ.y (OpY.pure rfl)) ?_
    refine Run.done ?_
    refine Run.block ?_
    refine Run.loop (ι := Nat) [4, 5, 11, 12, 13, 14, 15, 16, 17, 18, 19, 20, 21, 22, 23, 24, 25, 26] (fun k => [(5, .int .i64 (((k : Nat) : Int)))]) (fun k => []) (fun k => k ≤ ps.length) (fun k => ps.length - k) 0 ?_ ?_ ?_ ?_
    · exact Nat.zero_le _
    · exact ⟨rfl, trivial⟩
    · exact (Some'.weak (.nil _))
    · rintro k fr hinv
      show Run _ _ (over _ _ [(5, .int .i64 (((k : Nat) : Int)))] fr) []
      try dsimp only at hinv
      refine Run.seq ?_
      refine Run.seq ?_
      refine Run.region ?_
      refine Run.q (v := .int .i64 (((k : Nat) : Int))) rfl (OpQ.y (OpY.pure rfl)) ?_
      refine Run.q (v := .slice A (ps.length) c) rfl (OpQ.y (OpY.pure rfl)) ?_
      refine Run.q (v := .int .i64 (((ps.length : Nat) : Int))) rfl (OpQ.y (OpY.len Tsl_79 rfl)) ?_
      refine Run.q (v := .bool (decide ((((k : Nat) : Int)) < (((ps.length : Nat) : Int))))) rfl (OpQ.y (OpY.pure rfl)) ?_
      refine Run.done ?_
      refine Run.cond (b := decide ((((k : Nat) : Int)) < (((ps.length : Nat) : Int)))) rfl (fun h14 => ?_) (fun h14 => ?_)
      · have p14 := h14; try simp only [decide_eq_true_eq, decide_eq_false_iff_not, beq_iff_eq, bne_iff_ne, beq_eq_false_iff_ne, ne_eq, gt_iff_lt, ge_iff_le, Int.not_lt, Int.not_le, bne_eq_false_iff_eq, Bool.not_eq_true', Bool.not_eq_false', Bool.and_eq_true, Bool.and_eq_false_iff, Bool.or_eq_true, Bool.or_eq_false_iff, Decidable.not_not, List.cons.injEq, and_true] at p14
        have hlt : k < ps.length := by omega
        obtain ⟨b, o, rfl⟩ := ha.opn (by omega)
        obtain ⟨b2, o2, rfl⟩ := hb.opn (by omega)
        refine Run.skip ?_
        refine Run.seq ?_
        refine Run.block ?_
        refine Run.seq ?_
        refine Run.draws (by kernel_rfl) (by kernel_rfl) ?_
        refine Lex.q (v := .slice (some ⟨b, o, none⟩) (ps.length) c) rfl (OpQ.y (OpY.pure rfl)) ?_
        refine Lex.q (v := .int .i64 (((k : Nat) : Int))) rfl (OpQ.y (OpY.pure rfl)) ?_
        refine Lex.q (v := .pointer (some ⟨b, o + k, none⟩)) rfl (OpQ.y (OpY.index (kk := k) Tsl_79 rfl rfl (by omega) (by omega) (by first | rfl | omega))) ?_
        refine Lex.q (v := (vx ps (k))) rfl (OpQ.y (OpY.load1 Tone_26 rfl (Cells.arg (k := k) ha rfl (by omega) (preO (by omega))))) ?_
        refine Lex.q (v := .slice (some ⟨b2, o2, none⟩) (qs.length) d) rfl (OpQ.y (OpY.pure rfl)) ?_
        refine Lex.q (v := .int .i64 (((k : Nat) : Int))) rfl (OpQ.y (OpY.pure rfl)) ?_
        refine Lex.q (v := .pointer (some ⟨b2, o2 + k, none⟩)) rfl (OpQ.y (OpY.index (kk := k) Tsl_79 rfl rfl (by omega) (by omega) (by first | rfl | omega))) ?_
        refine Lex.q (v := (vx qs (k))) rfl (OpQ.y (OpY.load1 Tone_26 rfl (Cells.arg (k := k) hb rfl (by omega) (preO (by omega))))) ?_
        refine Lex.q (v := .bool true) rfl (OpQ.call (vs := [(vx ps (k)), (vx qs (k))]) (caps := []) Tcall_19 rfl rfl (fun w hs => eqIntS_true (hs.sl (hpa k hlt)) (hs.sl (hqb k (by omega))) (lx_of he k))) ?_
        refine Lex.q (v := .bool false) rfl (OpQ.y (OpY.pure rfl)) ?_
        refine Lex.done ?_
        refine Run.cond (b := false) rfl (fun h => nomatch h) (fun _ => ?_)
        refine Run.skip ?_
        refine Run.blockEnd ?_
        refine Run.region ?_
        refine Run.q (v := .int .i64 (((k : Nat) : Int))) rfl (OpQ.y (OpY.pure rfl)) ?_
        refine Run.q (v := .int .i64 ((((k : Nat) : Int)) + 1)) rfl (OpQ.y (OpY.add rfl rfl rfl (by omega) (by omega))) ?_
        refine Run.q (v := .int .i64 ((((k : Nat) : Int)) + 1)) rfl (OpQ.y (OpY.pure rfl)) ?_
        refine Run.done ?_
        refine Run.goal ⟨(by repeat (first | exact Same.refl _ _ | refine Same.put rfl ?_ | refine Same.over rfl rfl ?_)), k + 1, ?_, ?_, ?_, ?_⟩
        · omega
        · omega
        · exact ⟨(by first | rfl | (congr 1; omega) | simp), trivial⟩
        · exact (Some'.weak (.nil _))
      · have p14 := h14; try simp only [decide_eq_true_eq, decide_eq_false_iff_not, beq_iff_eq, bne_iff_ne, beq_eq_false_iff_ne, ne_eq, gt_iff_lt, ge_iff_le, Int.not_lt, Int.not_le, bne_eq_false_iff_eq, Bool.not_eq_true', Bool.not_eq_false', Bool.and_eq_true, Bool.and_eq_false_iff, Bool.or_eq_true, Bool.or_eq_false_iff, Decidable.not_not, List.cons.injEq, and_true] at p14
        refine Run.exit rfl ?_
        refine Run.seq ?_
        refine Run.region ?_
        refine Run.q (v := .bool true) rfl (OpQ.y (OpY.pure rfl)) ?_
        refine Run.done ?_
        refine Run.ret ?_
        refine ⟨.bool true, [], Out.one rfl rfl, (Some'.weak (.nil _)), ?_⟩
        rfl

set_option maxHeartbeats 1000000 in
set_option maxRecDepth 20000 in
theorem markIntSS_spec {va : Value} {ps : List (Value × List Int)} {k : Int} {w : World} (hst : St (Of [.own va 26 1 (ps.length) (oc ps), .grp 3 1 (gl ps)]) w w [.own va 26 1 (ps.length) (oc ps), .grp 3 1 (gl ps)]) (h0 : 0 ≤ k) (hk : k + (tot ps : Nat) < 4611686018427387904) : Calls Try.prog 47 #[va, .int .i64 k] w (Post (Of [.own va 26 1 (ps.length) (oc ps), .grp 3 1 (gl ps)]) w fun v H => v = .int .i64 (k + (tot ps : Nat)) ∧ H = [.own va 26 1 (ps.length) (oc ps), .grp 3 1 (gl (mkps k ps))]) := by
  have hsl := hst.slOwn (.head _)
  have hn := hsl.le
  obtain ⟨A0, c0, rfl, _, _⟩ := hsl.form0
  refine enter (n := 19) (args := [.slice A0 (ps.length) c0, .int .i64 k]) Try.func47 rfl rfl (hst) ?_
  refine Run.seq ?_
  refine Run.region ?_
  refine Run.q (v := .int .i64 0) rfl (OpQ.y (OpY.pure rfl)) ?_
  refine Run.done ?_
  refine Run.seq ?_
  refine Run.seq ?_
  refine Run.region ?_
  refine Run.q (v := .int .i64 0) rfl (OpQ.y (OpY.pure rfl)) ?_
  refine Run.done ?_
  refine Run.block ?_
  refine Run.loop (ι := List (Value × List Int) × List (Value × List Int)) [1, 5, 6, 7, 8, 9, 10, 11, 12, 13, 14, 15, 16, 17] (fun ⟨A, B⟩ => [(1, .int .i64 (k + ((tot A : Nat) : Int))), (5, .int .i64 (((A.length : Nat) : Int)))]) (fun ⟨A, B⟩ => [.own (.slice A0 (ps.length) c0) 26 1 (ps.length) (oc ps), .grp 3 1 (gl (A ++ B))]) (fun ⟨A, B⟩ => mkps k ps = A ++ mkps (k + (tot A : Nat)) B) (fun ⟨A, B⟩ => B.length) ([], ps) ?_ ?_ ?_ ?_
  · show mkps k ps = [] ++ mkps (k + ((0 : Nat) : Int)) ps; simp
  · exact ⟨(by show Value.int .i64 k = Value.int .i64 (k + ((0 : Nat) : Int)); simp), rfl, trivial⟩
  · exact (Weak.refl _)
  · rintro ⟨A, B⟩ fr hinv
    show Run _ _ (over _ _ [(1, .int .i64 (k + ((tot A : Nat) : Int))), (5, .int .i64 (((A.length : Nat) : Int)))] fr) [.own (.slice A0 (ps.length) c0) 26 1 (ps.length) (oc ps), .grp 3 1 (gl (A ++ B))]
    try dsimp only at hinv
    have hln := mk_len hinv
    have htb := tot_bound hinv
    refine Run.seq ?_
    refine Run.seq ?_
    refine Run.region ?_
    refine Run.q (v := .int .i64 (((A.length : Nat) : Int))) rfl (OpQ.y (OpY.pure rfl)) ?_
    refine Run.q (v := .slice A0 (ps.length) c0) rfl (OpQ.y (OpY.pure rfl)) ?_
    refine Run.q (v := .int .i64 (((ps.length : Nat) : Int))) rfl (OpQ.y (OpY.len Tsl_79 rfl)) ?_
    refine Run.q (v := .bool (decide ((((A.length : Nat) : Int)) < (((ps.length : Nat) : Int))))) rfl (OpQ.y (OpY.pure rfl)) ?_
    refine Run.done ?_
    refine Run.cond (b := decide ((((A.length : Nat) : Int)) < (((ps.length : Nat) : Int)))) rfl (fun h9 => ?_) (fun h9 => ?_)
    · have p9 := h9; try simp only [decide_eq_true_eq, decide_eq_false_iff_not, beq_iff_eq, bne_iff_ne, beq_eq_false_iff_ne, ne_eq, gt_iff_lt, ge_iff_le, Int.not_lt, Int.not_le, bne_eq_false_iff_eq, Bool.not_eq_true', Bool.not_eq_false', Bool.and_eq_true, Bool.and_eq_false_iff, Bool.or_eq_true, Bool.or_eq_false_iff, Decidable.not_not, List.cons.injEq, and_true] at p9
      obtain ⟨p, B, rfl⟩ : ∃ p B', B = p :: B' := by
        cases B with
        | nil => simp at hln; omega
        | cons p B => exact ⟨p, B, rfl⟩
      rw [tot_cons] at htb
      refine Run.openOwn (.head _) (by omega) (fun ga ca hvga hcapga _ => ?_) (fun _ _ _ => ⟨nofun, nofun, nofun⟩)
      injection hvga with hAga _ hcga; subst hAga; subst hcga
      refine Run.weak (H' := [.own (p.1) 3 1 (p.2.length) (ints p.2), .grp 3 1 (gl (A ++ B)), .own (.slice (some ⟨ga, 0, none⟩) (ps.length) c0) 26 1 (ps.length) (oc ps)]) ((Weak.front [.own (.slice (some ⟨ga, 0, none⟩) (ps.length) c0) 26 1 (ps.length) (oc ps)] (.grp 3 1 (gl (A ++ p :: B))) []).trans Weak.grpTake) ?_ ⟨_, _, rfl, fun _ => nofun, fun _ => nofun⟩
      refine Run.skip ?_
      refine Run.seq ?_
      refine Run.block ?_
      refine Run.region ?_
      refine Run.q (v := .slice (some ⟨ga, 0, none⟩) (ps.length) c0) rfl (OpQ.y (OpY.pure rfl)) ?_
      refine Run.q (v := .int .i64 (((A.length : Nat) : Int))) rfl (OpQ.y (OpY.pure rfl)) ?_
      refine Run.q (v := .pointer (some ⟨ga, A.length, none⟩)) rfl (OpQ.y (OpY.index (kk := A.length) Tsl_79 rfl rfl (by omega) (by omega) (by first | rfl | omega))) ?_
      refine Run.q (v := p.1) rfl (OpQ.y (OpY.load1 Tone_26 rfl (vx_split (mk_fst hinv) ▸ Cells.own0 (.tail _ (.tail _ (List.Mem.head _))) (preO (by omega))))) ?_
      refine Run.q (v := .int .i64 (k + ((tot A : Nat) : Int))) rfl (OpQ.y (OpY.pure rfl)) ?_
      refine Run.step rfl (OpStep.callM (H1 := [.own (p.1) 3 1 (p.2.length) (ints p.2)]) (H2 := [.grp 3 1 (gl (A ++ B)), .own (.slice (some ⟨ga, 0, none⟩) (ps.length) c0) 26 1 (ps.length) (oc ps)]) (vs := [p.1, .int .i64 (k + ((tot A : Nat) : Int))]) (caps := []) Tcall_22 rfl rfl (Weak.refl _) (fun w hs => markIntS_spec (hs.holds _ (.head _)) (by omega) (by omega)) ?_)
      rintro _ _ ⟨rfl, rfl⟩
      show Run _ _ (putF _ _ _ (.int .i64 (k + ((tot A : Nat) : Int) + ((p.2.length : Nat) : Int) * 1))) [.own (p.1) 3 1 (p.2.length) (ints (mks (k + ((tot A : Nat) : Int)) (p.2.length * 1))), .grp 3 1 (gl (A ++ B)), .own (.slice (some ⟨ga, 0, none⟩) (ps.length) c0) 26 1 (ps.length) (oc ps)]
      refine Run.q (v := .int .i64 (k + ((tot A : Nat) : Int) + ((p.2.length : Nat) : Int) * 1)) rfl (OpQ.y (OpY.pure rfl)) ?_
      refine Run.done ?_
      refine Run.blockEnd ?_
      refine Run.region ?_
      refine Run.q (v := .int .i64 (((A.length : Nat) : Int))) rfl (OpQ.y (OpY.pure rfl)) ?_
      refine Run.q (v := .int .i64 ((((A.length : Nat) : Int)) + 1)) rfl (OpQ.y (OpY.add rfl rfl rfl (by omega) (by omega))) ?_
      refine Run.q (v := .int .i64 ((((A.length : Nat) : Int)) + 1)) rfl (OpQ.y (OpY.pure rfl)) ?_
      refine Run.done ?_
      refine Run.goal ⟨(by repeat (first | exact Same.refl _ _ | refine Same.put rfl ?_ | refine Same.over rfl rfl ?_)), (A ++ [(p.1, mks (k + (tot A : Nat)) p.2.length)], B), ?_, ?_, ?_, ?_⟩
      · exact mk_round hinv
      · show B.length < (p :: B).length; simp
      · exact ⟨(by show Value.int _ _ = Value.int _ _; rw [tot_snoc, mks_length]; congr 1; omega), (by show Value.int _ _ = Value.int _ _; simp), trivial⟩
      · exact (Weak.trans (b := [.own p.1 3 1 (mks (k + (tot A : Nat)) p.2.length).length (ints (mks (k + (tot A : Nat)) p.2.length)), .grp 3 1 (gl (A ++ B)), .own (.slice (some ⟨ga, 0, none⟩) ps.length c0) 26 1 ps.length (oc ps)]) (Some'.weak (.takeEq (by simp) (.take (.take (.nil _))))) Weak.putBack)
    · have p9 := h9; try simp only [decide_eq_true_eq, decide_eq_false_iff_not, beq_iff_eq, bne_iff_ne, beq_eq_false_iff_ne, ne_eq, gt_iff_lt, ge_iff_le, Int.not_lt, Int.not_le, bne_eq_false_iff_eq, Bool.not_eq_true', Bool.not_eq_false', Bool.and_eq_true, Bool.and_eq_false_iff, Bool.or_eq_true, Bool.or_eq_false_iff, Decidable.not_not, List.cons.injEq, and_true] at p9
      obtain rfl : B = [] := by
        cases B with
        | nil => rfl
        | cons p B => simp at hln; omega
      have hfin : mkps k ps = A := by rw [hinv]; simp [mkps]
      have htA : tot ps = tot A := by rw [htb]; simp [tot]
      refine Run.exit rfl ?_
      refine Run.seq ?_
      refine Run.region ?_
      refine Run.q (v := .int .i64 (k + ((tot A : Nat) : Int))) rfl (OpQ.y (OpY.pure rfl)) ?_
      refine Run.q (v := .int .i64 (k + ((tot A : Nat) : Int))) rfl (OpQ.y (OpY.pure rfl)) ?_
      refine Run.done ?_
      refine Run.ret ?_
      refine ⟨.int .i64 (k + ((tot A : Nat) : Int)), [.own (.slice A0 (ps.length) c0) 26 1 (ps.length) (oc ps), .grp 3 1 (gl (mkps k ps))], Out.one rfl rfl, (Some'.weak (.take (.takeEq (by first | rfl | (rw [hfin]; simp)) (.nil _)))), ?_⟩
      exact ⟨by rw [htA], rfl⟩

set_option maxHeartbeats 1000000 in
set_option maxRecDepth 20000 in
theorem heldIntSS_true {va : Value} {ps : List (Value × List Int)} {k : Int} {w : World} (ha : Sl w va 1 ps.length (oc ps)) (hpa : GrpSl w ps) (h0 : 0 ≤ k) (hk : k + (tot ps : Nat) < 4611686018427387904) (he : IsMk k ps) : Calls Try.prog 48 #[va, .int .i64 k] w (Post No w fun v _ => v = .int .i64 (k + (tot ps : Nat))) := by
  have hn := ha.le
  obtain ⟨A, c, rfl, _, _⟩ := ha.form0
  refine enter (n := 21) (args := [.slice A (ps.length) c, .int .i64 k]) Try.func48 rfl rfl (St.empty _ _) ?_
  refine Run.seq ?_
  refine Run.region ?_
  refine Run.q (v := .int .i64 0) rfl (OpQ.y (OpY.pure rfl)) ?_
  refine Run.done ?_
  refine Run.seq ?_
  refine Run.seq ?_
  refine Run.region ?_
  refine Run.q (v := .int .i64 0) rfl (OpQ.y (OpY.pure rfl)) ?_
  refine Run.done ?_
  refine Run.block ?_
  refine Run.loop (ι := Nat) [1, 4, 5, 6, 7, 8, 9, 10, 11, 12, 13, 14, 15, 16, 17, 18, 19] (fun i => [(1, .int .i64 (k + ((tot (ps.take i) : Nat) : Int))), (5, .int .i64 (((i : Nat) : Int)))]) (fun i => []) (fun i => i ≤ ps.length) (fun i => ps.length - i) 0 ?_ ?_ ?_ ?_
  · exact Nat.zero_le _
  · exact ⟨(by show Value.int .i64 k = Value.int .i64 (k + ((0 : Nat) : Int)); simp), rfl, trivial⟩
  · exact (Some'.weak (.nil _))
  · rintro i fr hinv
    show Run _ _ (over _ _ [(1, .int .i64 (k + ((tot (ps.take i) : Nat) : Int))), (5, .int .i64 (((i : Nat) : Int)))] fr) []
    try dsimp only at hinv
    refine Run.seq ?_
    refine Run.seq ?_
    refine Run.region ?_
    refine Run.q (v := .int .i64 (((i : Nat) : Int))) rfl (OpQ.y (OpY.pure rfl)) ?_
    refine Run.q (v := .slice A (ps.length) c) rfl (OpQ.y (OpY.pure rfl)) ?_
    refine Run.q (v := .int .i64 (((ps.length : Nat) : Int))) rfl (OpQ.y (OpY.len Tsl_79 rfl)) ?_
    refine Run.q (v := .bool (decide ((((i : Nat) : Int)) < (((ps.length : Nat) : Int))))) rfl (OpQ.y (OpY.pure rfl)) ?_
    refine Run.done ?_
    refine Run.cond (b := decide ((((i : Nat) : Int)) < (((ps.length : Nat) : Int)))) rfl (fun h9 => ?_) (fun h9 => ?_)
    · have p9 := h9; try simp only [decide_eq_true_eq, decide_eq_false_iff_not, beq_iff_eq, bne_iff_ne, beq_eq_false_iff_ne, ne_eq, gt_iff_lt, ge_iff_le, Int.not_lt, Int.not_le, bne_eq_false_iff_eq, Bool.not_eq_true', Bool.not_eq_false', Bool.and_eq_true, Bool.and_eq_false_iff, Bool.or_eq_true, Bool.or_eq_false_iff, Decidable.not_not, List.cons.injEq, and_true] at p9
      have hlt : i < ps.length := by omega
      have hle := lx_le hlt
      obtain ⟨b, o, rfl⟩ := ha.opn (by omega)
      refine Run.skip ?_
      refine Run.seq ?_
      refine Run.block ?_
      refine Run.seq ?_
      refine Run.region ?_
      refine Run.q (v := .slice (some ⟨b, o, none⟩) (ps.length) c) rfl (OpQ.y (OpY.pure rfl)) ?_
      refine Run.q (v := .int .i64 (((i : Nat) : Int))) rfl (OpQ.y (OpY.pure rfl)) ?_
      refine Run.q (v := .pointer (some ⟨b, o + i, none⟩)) rfl (OpQ.y (OpY.index (kk := i) Tsl_79 rfl rfl (by omega) (by omega) (by first | rfl | omega))) ?_
      refine Run.q (v := (vx ps (i))) rfl (OpQ.y (OpY.load1 Tone_26 rfl (Cells.arg (k := i) ha rfl (by omega) (preO (by omega))))) ?_
      refine Run.q (v := .int .i64 (k + ((tot (ps.take i) : Nat) : Int))) rfl (OpQ.y (OpY.pure rfl)) ?_
      refine Run.q (v := .int .i64 (k + ((tot (ps.take i) : Nat) : Int) + (((lx ps i).length : Nat) : Int) * 1)) rfl (OpQ.call (vs := [(vx ps (i)), .int .i64 (k + ((tot (ps.take i) : Nat) : Int))]) (caps := []) Tcall_23 rfl rfl (fun w hs => heldIntS_true (hs.sl (hpa i hlt)) (by omega) (by omega) (by rw [Nat.mul_one]; exact he i hlt))) ?_
      refine Run.q (v := .int .i64 (k + ((tot (ps.take i) : Nat) : Int) + (((lx ps i).length : Nat) : Int) * 1)) rfl (OpQ.y (OpY.pure rfl)) ?_
      refine Run.done ?_
      refine Run.seq ?_
      refine Run.region ?_
      refine Run.q (v := .int .i64 (k + ((tot (ps.take i) : Nat) : Int) + (((lx ps i).length : Nat) : Int) * 1)) rfl (OpQ.y (OpY.pure rfl)) ?_
      refine Run.q (v := .bool (decide ((k + ((tot (ps.take i) : Nat) : Int) + (((lx ps i).length : Nat) : Int) * 1) < 0))) rfl (OpQ.y (OpY.pure rfl)) ?_
      refine Run.done ?_
      refine Run.cond (b := decide ((k + ((tot (ps.take i) : Nat) : Int) + (((lx ps i).length : Nat) : Int) * 1) < 0)) rfl (fun h19 => ?_) (fun h19 => ?_)
      · exact absurd h19 (by simp <;> omega) --DONE
      · have p19 := h19; try simp only [decide_eq_true_eq, decide_eq_false_iff_not, beq_iff_eq, bne_iff_ne, beq_eq_false_iff_ne, ne_eq, gt_iff_lt, ge_iff_le, Int.not_lt, Int.not_le, bne_eq_false_iff_eq, Bool.not_eq_true', Bool.not_eq_false', Bool.and_eq_true, Bool.and_eq_false_iff, Bool.or_eq_true, Bool.or_eq_false_iff, Decidable.not_not, List.cons.injEq, and_true] at p19
        refine Run.skip ?_
        refine Run.blockEnd ?_
        refine Run.region ?_
        refine Run.q (v := .int .i64 (((i : Nat) : Int))) rfl (OpQ.y (OpY.pure rfl)) ?_
        refine Run.q (v := .int .i64 ((((i : Nat) : Int)) + 1)) rfl (OpQ.y (OpY.add rfl rfl rfl (by omega) (by omega))) ?_
        refine Run.q (v := .int .i64 ((((i : Nat) : Int)) + 1)) rfl (OpQ.y (OpY.pure rfl)) ?_
        refine Run.done ?_
        refine Run.goal ⟨(by repeat (first | exact Same.refl _ _ | refine Same.put rfl ?_ | refine Same.over rfl rfl ?_)), i + 1, ?_, ?_, ?_, ?_⟩
        · omega
        · omega
        · exact ⟨(by show Value.int _ _ = Value.int _ _; rw [tot_take_succ hlt]; congr 1; omega), (by first | rfl | (congr 1; omega) | simp), trivial⟩
        · exact (Some'.weak (.nil _))
    · have p9 := h9; try simp only [decide_eq_true_eq, decide_eq_false_iff_not, beq_iff_eq, bne_iff_ne, beq_eq_false_iff_ne, ne_eq, gt_iff_lt, ge_iff_le, Int.not_lt, Int.not_le, bne_eq_false_iff_eq, Bool.not_eq_true', Bool.not_eq_false', Bool.and_eq_true, Bool.and_eq_false_iff, Bool.or_eq_true, Bool.or_eq_false_iff, Decidable.not_not, List.cons.injEq, and_true] at p9
      have hi : i = ps.length := by omega
      have hta : tot (ps.take i) = tot ps := by rw [hi, tot_all]
      refine Run.exit rfl ?_
      refine Run.seq ?_
      refine Run.region ?_
      refine Run.q (v := .int .i64 (k + ((tot (ps.take i) : Nat) : Int))) rfl (OpQ.y (OpY.pure rfl)) ?_
      refine Run.q (v := .int .i64 (k + ((tot (ps.take i) : Nat) : Int))) rfl (OpQ.y (OpY.pure rfl)) ?_
      refine Run.done ?_
      refine Run.ret ?_
      refine ⟨.int .i64 (k + ((tot (ps.take i) : Nat) : Int)), [], Out.one rfl rfl, (Some'.weak (.nil _)), ?_⟩
      show _ = _; rw [hta]


theorem heldIntSS_mk {va : Value} {ps : List (Value × List Int)} {k : Int} {w : World} (ha : Sl w va 1 ps.length (oc ps)) (hpa : GrpSl w (mkps k ps)) (h0 : 0 ≤ k) (hk : k + (tot ps : Nat) < 4611686018427387904) : Calls Try.prog 48 #[va, .int .i64 k] w (Post No w fun v _ => v = .int .i64 (k + (tot ps : Nat))) := by
  have h := heldIntSS_true (ps := mkps k ps) (by rw [mkps_length, oc_mkps]; exact ha) hpa h0 (by rw [tot_mkps]; exact hk) isMk_mkps
  rwa [tot_mkps] at h
theorem tot_flat : ∀ ps : List (Value × List Int), tot ps = (ps.map (·.2)).flatten.length
  | [] => rfl
  | p :: ps => by have := tot_flat ps; simp only [tot, List.map_cons, List.sum_cons, List.flatten_cons, List.length_append] at this ⊢; omega

end Go.Proofs.Ytbpllboldphhiaa
