/- Walks: wires are searched, counted, compared (the program and the reference). -/
import Derived.Test.YtnnkoeknejeieaaCi
import Derived.Test.YtnnkoeknejeieaaZda
import Derived.Test.YtnnkoeknejeieaaStr
import Derived.Test.YtnnkoeknejeieaaProg
set_option linter.unusedSimpArgs false
set_option linter.unusedVariables false
namespace Go.Proofs.Ytnnkoeknejeieaa
open Go Go.RowKit
namespace ZdcT
theorem Tagg_71 : aggOf Try.prog 71 = some 3 := by kernel_rfl
theorem Tcall_34 : callable Try.prog 34 = true := by kernel_rfl
theorem Tcall_71 : callable Try.prog 71 = true := by kernel_rfl
theorem Tcall_72 : callable Try.prog 72 = true := by kernel_rfl
theorem Tcall_73 : callable Try.prog 73 = true := by kernel_rfl
theorem Tcall_74 : callable Try.prog 74 = true := by kernel_rfl
theorem Tfo_29_2 : fieldOff Try.prog 29 2 = some 2 := by kernel_rfl
theorem Tfo_71_0 : fieldOff Try.prog 71 0 = some 0 := by kernel_rfl
theorem Tfo_71_1 : fieldOff Try.prog 71 1 = some 1 := by kernel_rfl
theorem Tone_27 : oneOf Try.prog 27 = true := by kernel_rfl
theorem Tone_3 : oneOf Try.prog 3 = true := by kernel_rfl
theorem Tsize_71 : (Try.prog.info? 71).map (·.size) = some 3 := by kernel_rfl
theorem Tsl_27 : sliceOf Try.prog 27 = some (71, 3, 24, [.int .i64 0, .int .i64 0, .bool false]) := by kernel_rfl
theorem Tzero_71 : zeroOf Try.prog 71 = some [.int .i64 0, .int .i64 0, .bool false] := by kernel_rfl
end ZdcT
open ZdcT

theorem Sl.takeW {w : World} {A : Option Addr} {n c m : Nat} {L : List W3} (h : Sl w (.slice A n c) 3 n (wls L)) (hm : m ≤ n) : Sl w (.slice A m c) 3 m (wls (L.take m)) := by
  have hl := h.wlen
  obtain ⟨h0, A1, c', hv, h1, h2, h3⟩ := h
  injection hv with hA2 _ hc
  subst hA2; subst hc
  refine ⟨by rw [wls_length, List.length_take]; omega, _, _, rfl, by omega, by omega, fun hn2 => ?_⟩
  obtain ⟨b, o, rfl, hb, hrg⟩ := h3 (by omega)
  refine ⟨b, o, rfl, hb, fun j v hv => hrg j v ?_⟩
  rw [← wls_take] at hv
  rw [List.getElem?_take] at hv
  split at hv
  · exact hv
  · cases hv
theorem Sl.dropW {w : World} {A : Option Addr} {n c l : Nat} {L : List W3} (h : Sl w (.slice A n c) 3 n (wls L)) (hl : l ≤ n) : ∃ A2 c2, sliced A l n c 3 = .slice A2 (n - l) c2 ∧ n - l ≤ c2 ∧ Sl w (.slice A2 (n - l) c2) 3 (n - l) (wls (L.drop l)) := by
  have h1 := h.slicedL hl
  rw [wls_drop] at h1
  obtain ⟨A2, c2, h2, h3, _⟩ := h1.form0
  exact ⟨A2, c2, h2, h3, by rw [← h2]; exact h1⟩
theorem OpY.sliceLV {E : Env} {f : Fr} {H : List Res} {d : Option Tmp} {ty : TypeId} {pos : String} {after : Array Edge} {gd : Option (Nat × Bool)} {t : TypeId} {x y : Operand} {A : Option Addr} {n c l : Nat} {k : IntKind} {i : Int} {e : TypeId} {size : Nat} {z : Nat × List Value} {v : Value} (ht : sliceOf E.P t = some (e, size, z)) (hx : f.eval x = .slice A n c) (hy : f.eval y = .int k i) (hi : i = (l : Int)) (h1 : l ≤ n) (hv : sliced A l n c size = v) :
    OpY E ⟨d, .slice t x (some y) none none, ty, pos, after, gd⟩ f H v := by
  subst hv; subst hi
  exact OpY.sliceL ht hx hy (by omega) (by omega)

set_option maxHeartbeats 1000000 in
set_option maxRecDepth 20000 in
theorem wireClo_spec {a b : Int} {p q : Nat} {x1 x2 : Int} {x3 : Bool} {w : World} (hp : Sl w (.slice (some ⟨p, 0, none⟩) 1 1) 1 1 [.int .i64 a]) (hq : Sl w (.slice (some ⟨q, 0, none⟩) 1 1) 1 1 [.int .i64 b]) : Calls Try.prog 74 #[.agg #[.int .i64 x1, .int .i64 x2, .bool x3], .pointer (some ⟨p, 0, none⟩), .pointer (some ⟨q, 0, none⟩)] w (Post No w fun v _ => v = .bool (isW a b (x1, x2, x3))) := by
 refine enter (n := 19) (args := [.agg #[.int .i64 x1, .int .i64 x2, .bool x3], .pointer (some ⟨p, 0, none⟩), .pointer (some ⟨q, 0, none⟩)]) Try.func74 rfl rfl (St.empty _ _) ?_
 refine .sr ?_
 refine .step rfl (.box (us := [.int .i64 x1, .int .i64 x2, .bool x3]) rfl fun b1 => ?_)
 refine .m ?_
 refine .dsr ?_
 refine .fa Tfo_71_0 ?_
 refine .u (.int .i64 x1) (.load1 Tone_3 rfl (.b (.head _))) ?_
 refine .u (.int .i64 a) (.load1 Tone_3 rfl (Cells.env (k := 0) hp rfl (by decide) ⟨rfl, trivial⟩)) ?_
 refine .u (.int .i64 b) (.load1 Tone_3 rfl (Cells.env (k := 0) hq rfl (by decide) ⟨rfl, trivial⟩)) ?_
 refine .u (.int .i64 (min a b)) (.min rfl rfl) ?_
 refine .w (.bool (x1 == (min a b))) ?_
 rcases Bool.eq_false_or_eq_true (x1 == (min a b)) with h11 | h11
 ·refine .mb h11 ?_
  have p11 := h11; try simp only [bs] at p11
  refine .fa Tfo_71_1 ?_
  refine .u (.int .i64 x2) (.load1 Tone_3 rfl (.b (.head _))) ?_
  refine .u (.int .i64 a) (.load1 Tone_3 rfl (Cells.env (k := 0) hp rfl (by decide) ⟨rfl, trivial⟩)) ?_
  refine .u (.int .i64 b) (.load1 Tone_3 rfl (Cells.env (k := 0) hq rfl (by decide) ⟨rfl, trivial⟩)) ?_
  refine .u (.int .i64 (max a b)) (.max rfl rfl) ?_
  refine .w (.bool (x2 == (max a b))) ?_
  refine .w (.bool (x2 == (max a b))) ?_
  refine .m ?_
  refine .done ?_
  refine .ret ?_
  refine ⟨.bool (x2 == (max a b)), [], Out.one rfl rfl, (Some'.weak (.nil _)), ?_⟩
  show Value.bool _ = Value.bool _; congr 1; rw [Bool.eq_iff_iff]; simp_all [isW]
 refine .mb h11 ?_
 have p11 := h11; try simp only [bs] at p11
 iterate 6 refine .pass rfl ?_
 refine .w (.bool false) ?_
 refine .m ?_
 refine .done ?_
 refine .ret ?_
 refine ⟨.bool false, [], Out.one rfl rfl, (Some'.weak (.nil _)), ?_⟩
 show Value.bool _ = Value.bool _; congr 1; rw [Bool.eq_iff_iff]; simp_all [isW]

set_option maxHeartbeats 1000000 in
set_option maxRecDepth 20000 in
theorem IndexFuncWire_spec {a b : Int} {p q : Nat} {va : Value} {n : Nat} {L : List W3} {w : World} (ha : Sl w va 3 n (wls L)) (hp : Sl w (.slice (some ⟨p, 0, none⟩) 1 1) 1 1 [.int .i64 a]) (hq : Sl w (.slice (some ⟨q, 0, none⟩) 1 1) 1 1 [.int .i64 b]) : Calls Try.prog 73 #[va, .func (.func 74) #[] #[.pointer (some ⟨p, 0, none⟩), .pointer (some ⟨q, 0, none⟩)]] w (Post No w fun v _ => v = .int .i64 (fdW L a b)) := by
 have hLn : L.length = n := ha.wlen
 have hn := ha.le
 obtain ⟨A, c, rfl, _, _⟩ := ha.form0
 refine enter (n := 19) (args := [.slice A n c, .func (.func 74) #[] #[.pointer (some ⟨p, 0, none⟩), .pointer (some ⟨q, 0, none⟩)]]) Try.func73 rfl rfl (St.empty _ _) ?_
 refine .sr ?_
 refine .m ?_
 refine .done ?_
 refine .seq ?_
 refine .sr ?_
 refine .m ?_
 refine .u (.int .i64 (((n : Nat) : Int))) (.len Tsl_27 rfl) ?_
 refine .m ?_
 refine .done ?_
 refine .block ?_
 refine Run.loop (ι := Nat) [4, 5, 8, 9, 10, 11, 12, 13, 14, 15, 16, 17, 18] (fun k => [(8, .int .i64 (((k : Nat) : Int)))]) (fun k => []) (fun k => k ≤ n ∧ (∀ i, i < k → isW a b (wx L i) = false)) (fun k => n - k) 0 ?_ ?_ ?_ ?_
 ·exact ⟨Nat.zero_le _, by first | trivial | (intro i hi; omega)⟩
 ·exact ⟨rfl, trivial⟩
 ·exact (Some'.weak (.nil _))
 rintro k fr hinv
 show Run _ _ (over _ _ [(8, .int .i64 (((k : Nat) : Int)))] fr) []
 try dsimp only at hinv
 refine .sr ?_
 refine .w (.bool (decide ((((k : Nat) : Int)) < (((n : Nat) : Int))))) ?_
 refine .done ?_
 refine .seq ?_
 refine .cond (b := decide ((((k : Nat) : Int)) < (((n : Nat) : Int)))) rfl (fun h9 => ?_) (fun h9 => ?_)
 ·have p9 := h9; try simp only [bs] at p9
  have hltk : k < n := by omega
  obtain ⟨ba, oa, rfl⟩ := ha.opn (by omega)
  refine .skip ?_
  refine .seq ?_
  refine .block ?_
  refine .sr ?_
  iterate 2 refine .m ?_
  refine .dsr ?_
  refine .w (.func (.func 74) #[] #[.pointer (some ⟨p, 0, none⟩), .pointer (some ⟨q, 0, none⟩)]) ?_
  iterate 2 refine .m ?_
  refine .u (.pointer (some ⟨ba, oa + k * 3, none⟩)) (.ix k Tsl_27) ?_
  refine .u (.agg #[.int .i64 ((wx L k).1), .int .i64 ((wx L k).2.1), .bool ((wx L k).2.2)]) (.loadN (cs := [.int .i64 ((wx L k).1), .int .i64 ((wx L k).2.1), .bool ((wx L k).2.2)]) Tagg_71 rfl (Cells.arg (k := k * 3) ha rfl (by omega) (preW (k := k) (by omega)))) ?_
  refine Run.q (v := .bool (isW a b (wx L k))) rfl (OpQ.call (vs := [.agg #[.int .i64 ((wx L k).1), .int .i64 ((wx L k).2.1), .bool ((wx L k).2.2)], .pointer (some ⟨p, 0, none⟩), .pointer (some ⟨q, 0, none⟩)]) (caps := [.pointer (some ⟨p, 0, none⟩), .pointer (some ⟨q, 0, none⟩)]) Tcall_74 rfl rfl (fun w hs => wireClo_spec (hs.sl hp) (hs.sl hq))) ?_
  refine .done ?_
  refine .cond (b := isW a b (wx L k)) rfl (fun h16 => ?_) (fun h16 => ?_)
  ·have p16 := h16; try simp only [bs] at p16
   refine .seq ?_
   have hres : fdW L a b = k := by rw [fdW, hLn]; exact findI_hit hinv.2 h16 hltk
   refine .region ?_
   iterate 2 refine .m ?_
   refine .done ?_
   refine .ret ?_
   refine ⟨.int .i64 (((k : Nat) : Int)), [], Out.one rfl rfl, (Some'.weak (.nil _)), ?_⟩
   show _ = _; rw [hres]
  have p16 := h16; try simp only [bs] at p16
  refine .skip ?_
  refine .blockEnd ?_
  have hgood : isW a b (wx L k) = false := h16
  refine .region ?_
  refine .u (.int .i64 ((((k : Nat) : Int)) + 1)) (.add rfl rfl rfl (by omega) (by omega)) ?_
  refine .m ?_
  refine .done ?_
  refine .goal ⟨(by repeat (first | exact Same.refl _ _ | refine Same.put rfl ?_ | refine Same.over rfl rfl ?_)), k + 1, ?_, ?_, ?_, ?_⟩
  ·refine ⟨by omega, ?_⟩
   intro i hi
   rcases Nat.lt_succ_iff_lt_or_eq.1 hi with h | h
   ·exact hinv.2 i h
   ·rw [h]; exact hgood
  ·omega
  ·exact ⟨(by first | rfl | (congr 1; omega) | simp), trivial⟩
  ·exact (Some'.weak (.nil _))
 have p9 := h9; try simp only [bs] at p9
 have hknk : k = n := by omega
 have hres : fdW L a b = -1 := by rw [fdW, hLn, ← hknk]; exact findI_none hinv.2
 refine .exit rfl ?_
 refine .sr ?_
 refine .m ?_
 refine .done ?_
 refine .ret ?_
 refine ⟨.int .i64 (-1), [], Out.one rfl rfl, (Some'.weak (.nil _)), ?_⟩
 show _ = _; rw [hres]

set_option maxHeartbeats 1000000 in
set_option maxRecDepth 20000 in
theorem wireAt_spec {Q t r a b : Int} {vn va : Value} {n : Nat} {L : List W3} {w : World} (ha : Sl w va 3 n (wls L)) : Calls Try.prog 59 #[.agg #[.int .i64 Q, vn, va, .int .i64 t, .int .i64 r], .int .i64 a, .int .i64 b] w (Post No w fun v _ => v = .int .i64 (fdW L a b)) := by
 refine enter (n := 11) (args := [.agg #[.int .i64 Q, vn, va, .int .i64 t, .int .i64 r], .int .i64 a, .int .i64 b]) Try.func59 rfl rfl (St.empty _ _) ?_
 refine .sr ?_
 refine .step rfl (.box (us := [.int .i64 Q, vn, va, .int .i64 t, .int .i64 r]) rfl fun b1 => ?_)
 refine .step rfl (.box (us := [.int .i64 a]) rfl fun b2 => ?_)
 refine .step rfl (.box (us := [.int .i64 b]) rfl fun b3 => ?_)
 refine .m ?_
 refine .dsr ?_
 refine .fa Tfo_29_2 ?_
 refine .u va (.load1 Tone_27 rfl (.b (.tail _ (.tail _ (.head _))))) ?_
 refine .u (.func (.func 74) #[] #[.pointer (some ⟨b2, 0, none⟩), .pointer (some ⟨b3, 0, none⟩)]) (.makeFunc (caps := [.pointer (some ⟨b2, 0, none⟩), .pointer (some ⟨b3, 0, none⟩)]) rfl) ?_
 refine .c (.int .i64 (fdW L a b)) [va, .func (.func 74) #[] #[.pointer (some ⟨b2, 0, none⟩), .pointer (some ⟨b3, 0, none⟩)]] Tcall_73 (fun w hs => IndexFuncWire_spec (hs.sl ha) (hs.slBlk (.tail _ (.head _))) (hs.slBlk (.head _))) ?_
 refine .m ?_
 refine .done ?_
 refine .ret ?_
 refine ⟨.int .i64 (fdW L a b), [], Out.one rfl rfl, (Some'.weak (.nil _)), ?_⟩
 rfl

set_option maxHeartbeats 1000000 in
set_option maxRecDepth 20000 in
theorem l1LeastZ_spec (a b : Int) (w : World) : Calls Try.prog 71 #[.int .i64 a, .int .i64 b] w (Post No w fun v _ => v = .int .i64 (min a b)) := by
 refine enter (n := 10) (args := [.int .i64 a, .int .i64 b]) Try.func71 rfl rfl (St.empty _ _) ?_
 refine .sr ?_
 refine .m ?_
 refine .done ?_
 refine .seq ?_
 refine .sr ?_
 iterate 2 refine .m ?_
 refine .w (.bool (decide (a < b))) ?_
 refine .done ?_
 refine .cond (b := decide (a < b)) rfl (fun h7 => ?_) (fun h7 => ?_)
 ·have p7 := h7; try simp only [bs] at p7
  refine .sr ?_
  iterate 2 refine .m ?_
  refine .done ?_
  refine .ret ?_
  refine ⟨.int .i64 a, [], Out.one rfl rfl, (Some'.weak (.nil _)), ?_⟩
  show _ = _; congr 1; omega
 have p7 := h7; try simp only [bs] at p7
 refine .skip ?_
 refine .sr ?_
 iterate 2 refine .m ?_
 refine .done ?_
 refine .ret ?_
 refine ⟨.int .i64 b, [], Out.one rfl rfl, (Some'.weak (.nil _)), ?_⟩
 show _ = _; congr 1; omega

set_option maxHeartbeats 1000000 in
set_option maxRecDepth 20000 in
theorem l16Less_spec (x1 x2 : Int) (x3 : Bool) (y1 y2 : Int) (y3 : Bool) (w : World) : Calls Try.prog 34 #[.agg #[.int .i64 x1, .int .i64 x2, .bool x3], .agg #[.int .i64 y1, .int .i64 y2, .bool y3]] w (Post No w fun v _ => v = .bool (wlt (x1, x2, x3) (y1, y2, y3))) := by
 refine enter (n := 24) (args := [.agg #[.int .i64 x1, .int .i64 x2, .bool x3], .agg #[.int .i64 y1, .int .i64 y2, .bool y3]]) Try.func34 rfl rfl (St.empty _ _) ?_
 refine .sr ?_
 refine .step rfl (.box (us := [.int .i64 x1, .int .i64 x2, .bool x3]) rfl fun b1 => ?_)
 refine .step rfl (.box (us := [.int .i64 y1, .int .i64 y2, .bool y3]) rfl fun b2 => ?_)
 refine .m ?_
 refine .dsr ?_
 refine .fa Tfo_71_0 ?_
 refine .u (.int .i64 x1) (.load1 Tone_3 rfl (.b (.tail _ (.head _)))) ?_
 refine .fa Tfo_71_0 ?_
 refine .u (.int .i64 y1) (.load1 Tone_3 rfl (.b (.head _))) ?_
 refine .w (.bool (decide (x1 < y1))) ?_
 rcases Bool.eq_false_or_eq_true (decide (x1 < y1)) with h10 | h10
 ·refine .mb h10 ?_
  have p10 := h10; try simp only [bs] at p10
  iterate 12 refine .pass rfl ?_
  refine .w (.bool true) ?_
  refine .m ?_
  refine .done ?_
  refine .ret ?_
  refine ⟨.bool true, [], Out.one rfl rfl, (Some'.weak (.nil _)), ?_⟩
  show _ = _; simp_all [wlt] <;> omega
 refine .mb h10 ?_
 have p10 := h10; try simp only [bs] at p10
 refine .fa Tfo_71_0 ?_
 refine .u (.int .i64 x1) (.load1 Tone_3 rfl (.b (.tail _ (.head _)))) ?_
 refine .fa Tfo_71_0 ?_
 refine .u (.int .i64 y1) (.load1 Tone_3 rfl (.b (.head _))) ?_
 refine .w (.bool (x1 == y1)) ?_
 rcases Bool.eq_false_or_eq_true (x1 == y1) with h16 | h16
 ·refine .mb h16 ?_
  have p16 := h16; try simp only [bs] at p16
  refine .fa Tfo_71_1 ?_
  refine .u (.int .i64 x2) (.load1 Tone_3 rfl (.b (.tail _ (.head _)))) ?_
  refine .fa Tfo_71_1 ?_
  refine .u (.int .i64 y2) (.load1 Tone_3 rfl (.b (.head _))) ?_
  refine .w (.bool (decide (x2 < y2))) ?_
  refine .w (.bool (decide (x2 < y2))) ?_
  refine .w (.bool (decide (x2 < y2))) ?_
  refine .m ?_
  refine .done ?_
  refine .ret ?_
  refine ⟨.bool (decide (x2 < y2)), [], Out.one rfl rfl, (Some'.weak (.nil _)), ?_⟩
  show _ = _; simp_all [wlt] <;> omega
 refine .mb h16 ?_
 have p16 := h16; try simp only [bs] at p16
 iterate 5 refine .pass rfl ?_
 refine .w (.bool false) ?_
 refine .w (.bool false) ?_
 refine .m ?_
 refine .done ?_
 refine .ret ?_
 refine ⟨.bool false, [], Out.one rfl rfl, (Some'.weak (.nil _)), ?_⟩
 show _ = _; simp_all [wlt] <;> omega

set_option maxHeartbeats 1000000 in
set_option maxRecDepth 20000 in
theorem l16Find_spec {a b : Int} {va : Value} {n : Nat} {L : List W3} {w : World} (ha : Sl w va 3 n (wls L)) : Calls Try.prog 69 #[va, .int .i64 a, .int .i64 b] w (Post No w fun v _ => v = .int .i64 (fdW L a b)) := by
 have hLn : L.length = n := ha.wlen
 have hn := ha.le
 obtain ⟨A, c, rfl, _, _⟩ := ha.form0
 refine enter (n := 32) (args := [.slice A n c, .int .i64 a, .int .i64 b]) Try.func69 rfl rfl (St.empty _ _) ?_
 refine .sr ?_
 refine .m ?_
 refine .done ?_
 refine .seq ?_
 refine .sr ?_
 refine .m ?_
 refine .u (.int .i64 (((n : Nat) : Int))) (.len Tsl_27 rfl) ?_
 refine .m ?_
 refine .done ?_
 refine .block ?_
 refine Run.loop (ι := Nat) [6, 7, 8, 11, 12, 13, 14, 15, 16, 17, 18, 19, 20, 21, 22, 23, 24, 25, 26, 27, 28, 29, 30, 31] (fun k => [(11, .int .i64 (((k : Nat) : Int)))]) (fun k => []) (fun k => k ≤ n ∧ (∀ i, i < k → isW a b (wx L i) = false)) (fun k => n - k) 0 ?_ ?_ ?_ ?_
 ·exact ⟨Nat.zero_le _, by first | trivial | (intro i hi; omega)⟩
 ·exact ⟨rfl, trivial⟩
 ·exact (Some'.weak (.nil _))
 rintro k fr hinv
 show Run _ _ (over _ _ [(11, .int .i64 (((k : Nat) : Int)))] fr) []
 try dsimp only at hinv
 refine .sr ?_
 refine .w (.bool (decide ((((k : Nat) : Int)) < (((n : Nat) : Int))))) ?_
 refine .done ?_
 refine .seq ?_
 refine .cond (b := decide ((((k : Nat) : Int)) < (((n : Nat) : Int)))) rfl (fun h12 => ?_) (fun h12 => ?_)
 ·have p12 := h12; try simp only [bs] at p12
  have hltk : k < n := by omega
  obtain ⟨ba, oa, rfl⟩ := ha.opn (by omega)
  refine .skip ?_
  refine .seq ?_
  refine .block ?_
  refine .sr ?_
  refine .m ?_
  refine .u (.pointer (some ⟨ba, oa + k * 3, none⟩)) (.ix k Tsl_27) ?_
  refine .u (.agg #[.int .i64 ((wx L k).1), .int .i64 ((wx L k).2.1), .bool ((wx L k).2.2)]) (.loadN (cs := [.int .i64 ((wx L k).1), .int .i64 ((wx L k).2.1), .bool ((wx L k).2.2)]) Tagg_71 rfl (Cells.arg (k := k * 3) ha rfl (by omega) (preW (k := k) (by omega)))) ?_
  refine .step rfl (.alloc (zs := [.int .i64 0, .int .i64 0, .bool false]) Tzero_71 fun b1 => ?_)
  refine .m ?_
  refine .step rfl (.storeAll (us := [.int .i64 ((wx L k).1), .int .i64 ((wx L k).2.1), .bool ((wx L k).2.2)]) Tsize_71 rfl rfl rfl (.here _) rfl ?_)
  refine .done ?_
  refine .seq ?_
  refine .draws (by kernel_rfl) (by kernel_rfl) ?_
  refine .u (.pointer (some ⟨b1, 0, none⟩)) (.fieldAddr Tfo_71_0 rfl rfl) ?_
  refine .u (.int .i64 ((wx L k).1)) (.load1 Tone_3 rfl (.b (.head _))) ?_
  iterate 2 refine .m ?_
  refine Lex.q (v := .int .i64 (min a b)) rfl (OpQ.call (vs := [.int .i64 a, .int .i64 b]) (caps := []) Tcall_71 rfl rfl (fun w hs => l1LeastZ_spec _ _ w)) ?_
  refine .w (.bool (((wx L k).1) == (min a b))) ?_
  rcases Bool.eq_false_or_eq_true (((wx L k).1) == (min a b)) with h22 | h22
  ·refine .u (.bool true) (.moveB rfl h22) ?_
   have p22 := h22; try simp only [bs] at p22
   refine .u (.pointer (some ⟨b1, 1, none⟩)) (.fieldAddr Tfo_71_1 rfl rfl) ?_
   refine .u (.int .i64 ((wx L k).2.1)) (.load1 Tone_3 rfl (.b (.head _))) ?_
   iterate 2 refine .m ?_
   refine Lex.q (v := .int .i64 (max a b)) rfl (OpQ.call (vs := [.int .i64 a, .int .i64 b]) (caps := []) Tcall_72 rfl rfl (fun w hs => l1Most_spec _ _ w)) ?_
   refine .w (.bool (((wx L k).2.1) == (max a b))) ?_
   refine .w (.bool (((wx L k).2.1) == (max a b))) ?_
   refine .done ?_
   refine .cond (b := ((wx L k).2.1) == (max a b)) rfl (fun h29 => ?_) (fun h29 => ?_)
   ·have p29 := h29; try simp only [bs] at p29
    refine .seq ?_
    have hres : fdW L a b = k := by rw [fdW, hLn]; exact findI_hit hinv.2 (by simp_all [isW]) hltk
    refine .region ?_
    iterate 2 refine .m ?_
    refine .done ?_
    refine .ret ?_
    refine ⟨.int .i64 (((k : Nat) : Int)), [], Out.one rfl rfl, (Some'.weak (.nil _)), ?_⟩
    show _ = _; rw [hres]
   have p29 := h29; try simp only [bs] at p29
   refine .skip ?_
   refine .blockEnd ?_
   have hgood : isW a b (wx L k) = false := by simp_all [isW]
   refine .region ?_
   refine .u (.int .i64 ((((k : Nat) : Int)) + 1)) (.add rfl rfl rfl (by omega) (by omega)) ?_
   refine .m ?_
   refine .done ?_
   refine .goal ⟨(by repeat (first | exact Same.refl _ _ | refine Same.put rfl ?_ | refine Same.over rfl rfl ?_)), k + 1, ?_, ?_, ?_, ?_⟩
   ·refine ⟨by omega, ?_⟩
    intro i hi
    rcases Nat.lt_succ_iff_lt_or_eq.1 hi with h | h
    ·exact hinv.2 i h
    ·rw [h]; exact hgood
   ·omega
   ·exact ⟨(by first | rfl | (congr 1; omega) | simp), trivial⟩
   ·exact (Some'.weak (.nil _))
  refine .u (.bool false) (.moveB rfl h22) ?_
  have p22 := h22; try simp only [bs] at p22
  iterate 6 refine .pass rfl ?_
  refine .w (.bool false) ?_
  refine .done ?_
  refine .cond (b := false) rfl (fun h => nomatch h) (fun _ => ?_)
  refine .skip ?_
  refine .blockEnd ?_
  have hgood : isW a b (wx L k) = false := by simp_all [isW]
  refine .region ?_
  refine .u (.int .i64 ((((k : Nat) : Int)) + 1)) (.add rfl rfl rfl (by omega) (by omega)) ?_
  refine .m ?_
  refine .done ?_
  refine .goal ⟨(by repeat (first | exact Same.refl _ _ | refine Same.put rfl ?_ | refine Same.over rfl rfl ?_)), k + 1, ?_, ?_, ?_, ?_⟩
  ·refine ⟨by omega, ?_⟩
   intro i hi
   rcases Nat.lt_succ_iff_lt_or_eq.1 hi with h | h
   ·exact hinv.2 i h
   ·rw [h]; exact hgood
  ·omega
  ·exact ⟨(by first | rfl | (congr 1; omega) | simp), trivial⟩
  ·exact (Some'.weak (.nil _))
 have p12 := h12; try simp only [bs] at p12
 have hknk : k = n := by omega
 have hres : fdW L a b = -1 := by rw [fdW, hLn, ← hknk]; exact findI_none hinv.2
 refine .exit rfl ?_
 refine .sr ?_
 refine .m ?_
 refine .done ?_
 refine .ret ?_
 refine ⟨.int .i64 (-1), [], Out.one rfl rfl, (Some'.weak (.nil _)), ?_⟩
 show _ = _; rw [hres]

set_option maxHeartbeats 1000000 in
set_option maxRecDepth 20000 in
theorem degree_spec {Q t r k : Int} {vn va : Value} {n : Nat} {L : List W3} {w : World} (ha : Sl w va 3 n (wls L)) : Calls Try.prog 67 #[.agg #[.int .i64 Q, vn, va, .int .i64 t, .int .i64 r], .int .i64 k] w (Post No w fun v _ => v = .int .i64 ((degW L k : Nat) : Int)) := by
 have hLn : L.length = n := ha.wlen
 have hn := ha.le
 obtain ⟨A, c, rfl, _, _⟩ := ha.form0
 refine enter (n := 29) (args := [.agg #[.int .i64 Q, vn, .slice A n c, .int .i64 t, .int .i64 r], .int .i64 k]) Try.func67 rfl rfl (St.empty _ _) ?_
 refine .sr ?_
 refine .step rfl (.box (us := [.int .i64 Q, vn, .slice A n c, .int .i64 t, .int .i64 r]) rfl fun b1 => ?_)
 refine .m ?_
 refine .dsr ?_
 refine .m ?_
 refine .done ?_
 refine .seq ?_
 refine .sr ?_
 refine .fa Tfo_29_2 ?_
 refine .u (.slice A n c) (.load1 Tone_27 rfl (.b (.head _))) ?_
 refine .u (.int .i64 (((n : Nat) : Int))) (.len Tsl_27 rfl) ?_
 refine .m ?_
 refine .done ?_
 refine .block ?_
 refine Run.loop (ι := Nat) [5, 7, 11, 12, 13, 14, 15, 16, 17, 18, 19, 20, 21, 22, 23, 24, 25, 26, 27] (fun i => [(5, .int .i64 (((cntN (fun j => atW k (wx L j)) i : Nat) : Int))), (11, .int .i64 (((i : Nat) : Int)))]) (fun i => [.blk b1 29 [.int .i64 Q, vn, .slice A n c, .int .i64 t, .int .i64 r]]) (fun i => i ≤ n ∧ (cntN (fun j => atW k (wx L j)) i ≤ i)) (fun i => n - i) 0 ?_ ?_ ?_ ?_
 ·exact ⟨Nat.zero_le _, Nat.le_refl _⟩
 ·exact ⟨rfl, rfl, trivial⟩
 ·exact (Some'.weak (.take (.nil _)))
 rintro i fr hinv
 show Run _ _ (over _ _ [(5, .int .i64 (((cntN (fun j => atW k (wx L j)) i : Nat) : Int))), (11, .int .i64 (((i : Nat) : Int)))] fr) [.blk b1 29 [.int .i64 Q, vn, .slice A n c, .int .i64 t, .int .i64 r]]
 try dsimp only at hinv
 refine .sr ?_
 refine .w (.bool (decide ((((i : Nat) : Int)) < (((n : Nat) : Int))))) ?_
 refine .done ?_
 refine .seq ?_
 refine .cond (b := decide ((((i : Nat) : Int)) < (((n : Nat) : Int)))) rfl (fun h12 => ?_) (fun h12 => ?_)
 ·have p12 := h12; try simp only [bs] at p12
  have hlti : i < n := by omega
  obtain ⟨ba, oa, rfl⟩ := ha.opn (by omega)
  refine .skip ?_
  refine .seq ?_
  refine .block ?_
  refine .sr ?_
  refine .u (.pointer (some ⟨ba, oa + i * 3, none⟩)) (.ix i Tsl_27) ?_
  refine .u (.agg #[.int .i64 ((wx L i).1), .int .i64 ((wx L i).2.1), .bool ((wx L i).2.2)]) (.loadN (cs := [.int .i64 ((wx L i).1), .int .i64 ((wx L i).2.1), .bool ((wx L i).2.2)]) Tagg_71 rfl (Cells.arg (k := i * 3) ha rfl (by omega) (preW (k := i) (by omega)))) ?_
  refine .step rfl (.alloc (zs := [.int .i64 0, .int .i64 0, .bool false]) Tzero_71 fun b2 => ?_)
  refine .step rfl (.storeAll (us := [.int .i64 ((wx L i).1), .int .i64 ((wx L i).2.1), .bool ((wx L i).2.2)]) Tsize_71 rfl rfl rfl (.here _) rfl ?_)
  refine .dsr ?_
  refine .fa Tfo_71_0 ?_
  refine .u (.int .i64 ((wx L i).1)) (.load1 Tone_3 rfl (.b (.head _))) ?_
  refine .m ?_
  refine .w (.bool (((wx L i).1) == k)) ?_
  rcases Bool.eq_false_or_eq_true (((wx L i).1) == k) with h19 | h19
  ·refine .mb h19 ?_
   have p19 := h19; try simp only [bs] at p19
   iterate 4 refine .pass rfl ?_
   refine .w (.bool true) ?_
   refine .done ?_
   refine .cond (b := true) rfl (fun _ => ?_) (fun h => nomatch h)
   refine .region ?_
   refine .m ?_
   refine .u (.int .i64 ((((cntN (fun j => atW k (wx L j)) i : Nat) : Int)) + 1)) (.add rfl rfl rfl (by omega) (by omega)) ?_
   refine .m ?_
   refine .done ?_
   refine .blockEnd ?_
   refine .region ?_
   refine .u (.int .i64 ((((i : Nat) : Int)) + 1)) (.add rfl rfl rfl (by omega) (by omega)) ?_
   refine .m ?_
   refine .done ?_
   refine .goal ⟨(by repeat (first | exact Same.refl _ _ | refine Same.put rfl ?_ | refine Same.over rfl rfl ?_)), i + 1, ?_, ?_, ?_, ?_⟩
   ·refine ⟨by omega, ?_⟩
    exact cntN_le _ _
   ·omega
   ·exact ⟨(by show Value.int _ _ = Value.int _ _; congr 1; first | (rw [cntN_yes (p := fun j => atW k (wx L j)) (by simp_all [atW])]; omega) | rw [cntN_no (p := fun j => atW k (wx L j)) (by simp_all [atW])]), (by first | rfl | (congr 1; omega) | simp), trivial⟩
   ·exact (Some'.weak (.skip (.takeEq (by first | rfl | simp) (.nil _))))
  refine .mb h19 ?_
  have p19 := h19; try simp only [bs] at p19
  refine .fa Tfo_71_1 ?_
  refine .u (.int .i64 ((wx L i).2.1)) (.load1 Tone_3 rfl (.b (.head _))) ?_
  refine .m ?_
  refine .w (.bool (((wx L i).2.1) == k)) ?_
  refine .w (.bool (((wx L i).2.1) == k)) ?_
  refine .done ?_
  refine .cond (b := ((wx L i).2.1) == k) rfl (fun h24 => ?_) (fun h24 => ?_)
  ·have p24 := h24; try simp only [bs] at p24
   refine .region ?_
   refine .m ?_
   refine .u (.int .i64 ((((cntN (fun j => atW k (wx L j)) i : Nat) : Int)) + 1)) (.add rfl rfl rfl (by omega) (by omega)) ?_
   refine .m ?_
   refine .done ?_
   refine .blockEnd ?_
   refine .region ?_
   refine .u (.int .i64 ((((i : Nat) : Int)) + 1)) (.add rfl rfl rfl (by omega) (by omega)) ?_
   refine .m ?_
   refine .done ?_
   refine .goal ⟨(by repeat (first | exact Same.refl _ _ | refine Same.put rfl ?_ | refine Same.over rfl rfl ?_)), i + 1, ?_, ?_, ?_, ?_⟩
   ·refine ⟨by omega, ?_⟩
    exact cntN_le _ _
   ·omega
   ·exact ⟨(by show Value.int _ _ = Value.int _ _; congr 1; first | (rw [cntN_yes (p := fun j => atW k (wx L j)) (by simp_all [atW])]; omega) | rw [cntN_no (p := fun j => atW k (wx L j)) (by simp_all [atW])]), (by first | rfl | (congr 1; omega) | simp), trivial⟩
   ·exact (Some'.weak (.skip (.takeEq (by first | rfl | simp) (.nil _))))
  have p24 := h24; try simp only [bs] at p24
  refine .skip ?_
  refine .blockEnd ?_
  refine .region ?_
  refine .u (.int .i64 ((((i : Nat) : Int)) + 1)) (.add rfl rfl rfl (by omega) (by omega)) ?_
  refine .m ?_
  refine .done ?_
  refine .goal ⟨(by repeat (first | exact Same.refl _ _ | refine Same.put rfl ?_ | refine Same.over rfl rfl ?_)), i + 1, ?_, ?_, ?_, ?_⟩
  ·refine ⟨by omega, ?_⟩
   exact cntN_le _ _
  ·omega
  ·exact ⟨(by show Value.int _ _ = Value.int _ _; congr 1; first | (rw [cntN_yes (p := fun j => atW k (wx L j)) (by simp_all [atW])]; omega) | rw [cntN_no (p := fun j => atW k (wx L j)) (by simp_all [atW])]), (by first | rfl | (congr 1; omega) | simp), trivial⟩
  ·exact (Some'.weak (.skip (.takeEq (by first | rfl | simp) (.nil _))))
 have p12 := h12; try simp only [bs] at p12
 have hkni : i = n := by omega
 refine .exit rfl ?_
 refine .sr ?_
 iterate 2 refine .m ?_
 refine .done ?_
 refine .ret ?_
 refine ⟨.int .i64 (((cntN (fun j => atW k (wx L j)) i : Nat) : Int)), [], Out.one rfl rfl, (Some'.weak (.nil _)), ?_⟩
 show _ = _; rw [degW, hLn, ← hkni]

set_option maxHeartbeats 1000000 in
set_option maxRecDepth 20000 in
theorem l16Wires_spec {Q t r k : Int} {vn va : Value} {n : Nat} {L : List W3} {w : World} (ha : Sl w va 3 n (wls L)) : Calls Try.prog 55 #[.agg #[.int .i64 Q, vn, va, .int .i64 t, .int .i64 r], .int .i64 k] w (Post No w fun v _ => v = .int .i64 ((degW L k : Nat) : Int)) := by
 have hLn : L.length = n := ha.wlen
 have hn := ha.le
 obtain ⟨A, c, rfl, _, _⟩ := ha.form0
 refine enter (n := 29) (args := [.agg #[.int .i64 Q, vn, .slice A n c, .int .i64 t, .int .i64 r], .int .i64 k]) Try.func55 rfl rfl (St.empty _ _) ?_
 refine .sr ?_
 refine .step rfl (.box (us := [.int .i64 Q, vn, .slice A n c, .int .i64 t, .int .i64 r]) rfl fun b1 => ?_)
 refine .m ?_
 refine .dsr ?_
 refine .m ?_
 refine .done ?_
 refine .seq ?_
 refine .sr ?_
 refine .fa Tfo_29_2 ?_
 refine .u (.slice A n c) (.load1 Tone_27 rfl (.b (.head _))) ?_
 refine .u (.int .i64 (((n : Nat) : Int))) (.len Tsl_27 rfl) ?_
 refine .m ?_
 refine .done ?_
 refine .block ?_
 refine Run.loop (ι := Nat) [5, 7, 11, 12, 13, 14, 15, 16, 17, 18, 19, 20, 21, 22, 23, 24, 25, 26, 27] (fun i => [(5, .int .i64 (((cntN (fun j => atW k (wx L j)) i : Nat) : Int))), (11, .int .i64 (((i : Nat) : Int)))]) (fun i => [.blk b1 29 [.int .i64 Q, vn, .slice A n c, .int .i64 t, .int .i64 r]]) (fun i => i ≤ n ∧ (cntN (fun j => atW k (wx L j)) i ≤ i)) (fun i => n - i) 0 ?_ ?_ ?_ ?_
 ·exact ⟨Nat.zero_le _, Nat.le_refl _⟩
 ·exact ⟨rfl, rfl, trivial⟩
 ·exact (Some'.weak (.take (.nil _)))
 rintro i fr hinv
 show Run _ _ (over _ _ [(5, .int .i64 (((cntN (fun j => atW k (wx L j)) i : Nat) : Int))), (11, .int .i64 (((i : Nat) : Int)))] fr) [.blk b1 29 [.int .i64 Q, vn, .slice A n c, .int .i64 t, .int .i64 r]]
 try dsimp only at hinv
 refine .sr ?_
 refine .w (.bool (decide ((((i : Nat) : Int)) < (((n : Nat) : Int))))) ?_
 refine .done ?_
 refine .seq ?_
 refine .cond (b := decide ((((i : Nat) : Int)) < (((n : Nat) : Int)))) rfl (fun h12 => ?_) (fun h12 => ?_)
 ·have p12 := h12; try simp only [bs] at p12
  have hlti : i < n := by omega
  obtain ⟨ba, oa, rfl⟩ := ha.opn (by omega)
  refine .skip ?_
  refine .seq ?_
  refine .block ?_
  refine .sr ?_
  refine .u (.pointer (some ⟨ba, oa + i * 3, none⟩)) (.ix i Tsl_27) ?_
  refine .u (.agg #[.int .i64 ((wx L i).1), .int .i64 ((wx L i).2.1), .bool ((wx L i).2.2)]) (.loadN (cs := [.int .i64 ((wx L i).1), .int .i64 ((wx L i).2.1), .bool ((wx L i).2.2)]) Tagg_71 rfl (Cells.arg (k := i * 3) ha rfl (by omega) (preW (k := i) (by omega)))) ?_
  refine .step rfl (.alloc (zs := [.int .i64 0, .int .i64 0, .bool false]) Tzero_71 fun b2 => ?_)
  refine .step rfl (.storeAll (us := [.int .i64 ((wx L i).1), .int .i64 ((wx L i).2.1), .bool ((wx L i).2.2)]) Tsize_71 rfl rfl rfl (.here _) rfl ?_)
  refine .dsr ?_
  refine .fa Tfo_71_0 ?_
  refine .u (.int .i64 ((wx L i).1)) (.load1 Tone_3 rfl (.b (.head _))) ?_
  refine .m ?_
  refine .w (.bool (((wx L i).1) == k)) ?_
  rcases Bool.eq_false_or_eq_true (((wx L i).1) == k) with h19 | h19
  ·refine .mb h19 ?_
   have p19 := h19; try simp only [bs] at p19
   iterate 4 refine .pass rfl ?_
   refine .w (.bool true) ?_
   refine .done ?_
   refine .cond (b := true) rfl (fun _ => ?_) (fun h => nomatch h)
   refine .region ?_
   refine .m ?_
   refine .u (.int .i64 ((((cntN (fun j => atW k (wx L j)) i : Nat) : Int)) + 1)) (.add rfl rfl rfl (by omega) (by omega)) ?_
   refine .m ?_
   refine .done ?_
   refine .blockEnd ?_
   refine .region ?_
   refine .u (.int .i64 ((((i : Nat) : Int)) + 1)) (.add rfl rfl rfl (by omega) (by omega)) ?_
   refine .m ?_
   refine .done ?_
   refine .goal ⟨(by repeat (first | exact Same.refl _ _ | refine Same.put rfl ?_ | refine Same.over rfl rfl ?_)), i + 1, ?_, ?_, ?_, ?_⟩
   ·refine ⟨by omega, ?_⟩
    exact cntN_le _ _
   ·omega
   ·exact ⟨(by show Value.int _ _ = Value.int _ _; congr 1; first | (rw [cntN_yes (p := fun j => atW k (wx L j)) (by simp_all [atW])]; omega) | rw [cntN_no (p := fun j => atW k (wx L j)) (by simp_all [atW])]), (by first | rfl | (congr 1; omega) | simp), trivial⟩
   ·exact (Some'.weak (.skip (.takeEq (by first | rfl | simp) (.nil _))))
  refine .mb h19 ?_
  have p19 := h19; try simp only [bs] at p19
  refine .fa Tfo_71_1 ?_
  refine .u (.int .i64 ((wx L i).2.1)) (.load1 Tone_3 rfl (.b (.head _))) ?_
  refine .m ?_
  refine .w (.bool (((wx L i).2.1) == k)) ?_
  refine .w (.bool (((wx L i).2.1) == k)) ?_
  refine .done ?_
  refine .cond (b := ((wx L i).2.1) == k) rfl (fun h24 => ?_) (fun h24 => ?_)
  ·have p24 := h24; try simp only [bs] at p24
   refine .region ?_
   refine .m ?_
   refine .u (.int .i64 ((((cntN (fun j => atW k (wx L j)) i : Nat) : Int)) + 1)) (.add rfl rfl rfl (by omega) (by omega)) ?_
   refine .m ?_
   refine .done ?_
   refine .blockEnd ?_
   refine .region ?_
   refine .u (.int .i64 ((((i : Nat) : Int)) + 1)) (.add rfl rfl rfl (by omega) (by omega)) ?_
   refine .m ?_
   refine .done ?_
   refine .goal ⟨(by repeat (first | exact Same.refl _ _ | refine Same.put rfl ?_ | refine Same.over rfl rfl ?_)), i + 1, ?_, ?_, ?_, ?_⟩
   ·refine ⟨by omega, ?_⟩
    exact cntN_le _ _
   ·omega
   ·exact ⟨(by show Value.int _ _ = Value.int _ _; congr 1; first | (rw [cntN_yes (p := fun j => atW k (wx L j)) (by simp_all [atW])]; omega) | rw [cntN_no (p := fun j => atW k (wx L j)) (by simp_all [atW])]), (by first | rfl | (congr 1; omega) | simp), trivial⟩
   ·exact (Some'.weak (.skip (.takeEq (by first | rfl | simp) (.nil _))))
  have p24 := h24; try simp only [bs] at p24
  refine .skip ?_
  refine .blockEnd ?_
  refine .region ?_
  refine .u (.int .i64 ((((i : Nat) : Int)) + 1)) (.add rfl rfl rfl (by omega) (by omega)) ?_
  refine .m ?_
  refine .done ?_
  refine .goal ⟨(by repeat (first | exact Same.refl _ _ | refine Same.put rfl ?_ | refine Same.over rfl rfl ?_)), i + 1, ?_, ?_, ?_, ?_⟩
  ·refine ⟨by omega, ?_⟩
   exact cntN_le _ _
  ·omega
  ·exact ⟨(by show Value.int _ _ = Value.int _ _; congr 1; first | (rw [cntN_yes (p := fun j => atW k (wx L j)) (by simp_all [atW])]; omega) | rw [cntN_no (p := fun j => atW k (wx L j)) (by simp_all [atW])]), (by first | rfl | (congr 1; omega) | simp), trivial⟩
  ·exact (Some'.weak (.skip (.takeEq (by first | rfl | simp) (.nil _))))
 have p12 := h12; try simp only [bs] at p12
 have hkni : i = n := by omega
 refine .exit rfl ?_
 refine .sr ?_
 iterate 2 refine .m ?_
 refine .done ?_
 refine .ret ?_
 refine ⟨.int .i64 (((cntN (fun j => atW k (wx L j)) i : Nat) : Int)), [], Out.one rfl rfl, (Some'.weak (.nil _)), ?_⟩
 show _ = _; rw [degW, hLn, ← hkni]

set_option maxHeartbeats 1000000 in
set_option maxRecDepth 20000 in
theorem l16Join_spec {a b : Int} {hd : Bool} {va : Value} {n : Nat} {L : List W3} {w : World} (ha : Sl w va 3 n (wls L)) (hn4 : n ≤ 1000000) : Calls Try.prog 54 #[va, .int .i64 a, .int .i64 b, .bool hd] w (Post No w fun v H => H = [.own v 71 3 (n + 1) (wls (insW L ((min a b, max a b, hd) : W3)))]) := by
 have hLn : L.length = n := ha.wlen
 have hn := ha.le
 obtain ⟨A, c, rfl, _, _⟩ := ha.form0
 refine enter (n := 48) (args := [.slice A n c, .int .i64 a, .int .i64 b, .bool hd]) Try.func54 rfl rfl (St.empty _ _) ?_
 refine .sr ?_
 refine .m ?_
 refine .dsr ?_
 iterate 2 refine .m ?_
 refine .c (.int .i64 (min a b)) [.int .i64 a, .int .i64 b] Tcall_71 (fun w hs => l1LeastZ_spec _ _ w) ?_
 iterate 2 refine .m ?_
 refine .c (.int .i64 (max a b)) [.int .i64 a, .int .i64 b] Tcall_72 (fun w hs => l1Most_spec _ _ w) ?_
 refine .m ?_
 refine .u (.agg #[.int .i64 (min a b), .int .i64 (max a b), .bool hd]) (.build (cs := [.int .i64 (min a b), .int .i64 (max a b), .bool hd]) (by kernel_rfl)) ?_
 refine .step rfl (.alloc (zs := [.int .i64 0, .int .i64 0, .bool false]) Tzero_71 fun b1 => ?_)
 refine .step rfl (.storeAll (us := [.int .i64 (min a b), .int .i64 (max a b), .bool hd]) Tsize_71 rfl rfl rfl (.here _) rfl ?_)
 refine .dsr ?_
 refine .m ?_
 refine .done ?_
 refine .seq ?_
 refine Run.cut (ι := Nat) [10, 20, 21, 22, 23, 24, 25, 26, 27, 28, 29, 30, 31, 32, 33] (fun kk => [(10, .int .i64 (((kk : Nat) : Int)))]) (fun kk => [.blk b1 71 [.int .i64 (min a b), .int .i64 (max a b), .bool hd]]) (fun kk => kk ≤ n ∧ wpos L ((min a b, max a b, hd) : W3) = kk) ?_ ?_
 ·refine .block ?_
  refine Run.loop (ι := Nat) [10, 20, 21, 22, 23, 24, 25, 26, 27, 28, 29, 30, 31, 32, 33] (fun k => [(10, .int .i64 (((k : Nat) : Int)))]) (fun k => [.blk b1 71 [.int .i64 (min a b), .int .i64 (max a b), .bool hd]]) (fun k => k ≤ n ∧ ∀ i, i < k → wlt (wx L i) ((min a b, max a b, hd) : W3) = true) (fun k => n - k) 0 ?_ ?_ ?_ ?_
  ·exact ⟨Nat.zero_le _, fun i hi => by omega⟩
  ·exact ⟨rfl, trivial⟩
  ·exact (Some'.weak (.take (.nil _)))
  rintro k fr hinv
  show Run _ _ (over _ _ [(10, .int .i64 (((k : Nat) : Int)))] fr) [.blk b1 71 [.int .i64 (min a b), .int .i64 (max a b), .bool hd]]
  try dsimp only at hinv
  refine .seq ?_
  refine .seq ?_
  refine .draws (by kernel_rfl) (by kernel_rfl) ?_
  iterate 2 refine .m ?_
  refine .u (.int .i64 (((n : Nat) : Int))) (.len Tsl_27 rfl) ?_
  refine .w (.bool (decide ((((k : Nat) : Int)) < (((n : Nat) : Int))))) ?_
  rcases Bool.eq_false_or_eq_true (decide ((((k : Nat) : Int)) < (((n : Nat) : Int)))) with h24 | h24
  ·refine .u (.bool true) (.moveB rfl h24) ?_
   have p24 := h24; try simp only [bs] at p24
   have hltk : k < n := by omega
   obtain ⟨ba, oa, rfl⟩ := ha.opn (by omega)
   iterate 2 refine .m ?_
   refine .u (.pointer (some ⟨ba, oa + k * 3, none⟩)) (.ix k Tsl_27) ?_
   refine .u (.agg #[.int .i64 ((wx L k).1), .int .i64 ((wx L k).2.1), .bool ((wx L k).2.2)]) (.loadN (cs := [.int .i64 ((wx L k).1), .int .i64 ((wx L k).2.1), .bool ((wx L k).2.2)]) Tagg_71 rfl (Cells.arg (k := k * 3) ha rfl (by omega) (preW (k := k) (by omega)))) ?_
   refine .u (.agg #[.int .i64 (min a b), .int .i64 (max a b), .bool hd]) (.loadN (cs := [.int .i64 (min a b), .int .i64 (max a b), .bool hd]) Tagg_71 rfl (Cells.blk (.head _) ⟨rfl, rfl, rfl, trivial⟩)) ?_
   refine Lex.q (v := .bool (wlt (wx L k) ((min a b, max a b, hd) : W3))) rfl (OpQ.call (vs := [.agg #[.int .i64 ((wx L k).1), .int .i64 ((wx L k).2.1), .bool ((wx L k).2.2)], .agg #[.int .i64 (min a b), .int .i64 (max a b), .bool hd]]) (caps := []) Tcall_34 rfl rfl (fun w hs => l16Less_spec _ _ _ _ _ _ w)) ?_
   refine .w (.bool (wlt (wx L k) ((min a b, max a b, hd) : W3))) ?_
   refine .done ?_
   refine .cond (b := wlt (wx L k) ((min a b, max a b, hd) : W3)) rfl (fun h31 => ?_) (fun h31 => ?_)
   ·have p31 := h31; try simp only [bs] at p31
    refine .skip ?_
    refine .block ?_
    refine .region ?_
    refine .m ?_
    refine .u (.int .i64 ((((k : Nat) : Int)) + 1)) (.add rfl rfl rfl (by omega) (by omega)) ?_
    refine .m ?_
    refine .done ?_
    refine .blockEnd ?_
    refine .goal ⟨(by repeat (first | exact Same.refl _ _ | refine Same.put rfl ?_ | refine Same.over rfl rfl ?_)), k + 1, ?_, ?_, ?_, ?_⟩
    ·refine ⟨by omega, ?_⟩
     intro i hi
     rcases Nat.lt_succ_iff_lt_or_eq.1 hi with h | h
     ·exact hinv.2 i h
     ·rw [h]; exact h31
    ·omega
    ·exact ⟨(by first | rfl | (congr 1; omega) | simp), trivial⟩
    ·exact (Some'.weak (.take (.nil _)))
   have p31 := h31; try simp only [bs] at p31
   have hpos : wpos L ((min a b, max a b, hd) : W3) = k := wpos_eq (by omega) hinv.2 (fun _ => h31)
   refine .exit rfl ?_
   refine .goal ⟨(by repeat (first | exact Same.refl _ _ | refine Same.put rfl ?_ | refine Same.over rfl rfl ?_)), k, ?_, ?_, ?_⟩
   ·exact ⟨hinv.1, hpos⟩
   ·exact ⟨(by first | rfl | (congr 1; omega) | simp [*]), trivial⟩
   ·exact ((Weak.refl _).trans (Some'.weak (.take (.nil _))))
  refine .u (.bool false) (.moveB rfl h24) ?_
  have p24 := h24; try simp only [bs] at p24
  have hpos : wpos L ((min a b, max a b, hd) : W3) = k := wpos_eq (by omega) hinv.2 (fun h => by omega)
  iterate 6 refine .pass rfl ?_
  refine .w (.bool false) ?_
  refine .done ?_
  refine .cond (b := false) rfl (fun h => nomatch h) (fun _ => ?_)
  refine .exit rfl ?_
  refine .goal ⟨(by repeat (first | exact Same.refl _ _ | refine Same.put rfl ?_ | refine Same.over rfl rfl ?_)), k, ?_, ?_, ?_⟩
  ·exact ⟨hinv.1, hpos⟩
  ·exact ⟨(by first | rfl | (congr 1; omega) | simp [*]), trivial⟩
  ·exact ((Weak.refl _).trans (Some'.weak (.take (.nil _))))
 rintro kk fr hcut
 show Run _ _ (over _ _ [(10, .int .i64 (((kk : Nat) : Int)))] fr) [.blk b1 71 [.int .i64 (min a b), .int .i64 (max a b), .bool hd]]
 refine .seq ?_
 obtain ⟨hkn, hpos⟩ := hcut
 refine .region ?_
 refine .step rfl (.buildSlice (us := []) Tsl_27 (by decide) (by decide) rfl rfl fun b2 => ?_)
 iterate 2 refine .m ?_
 refine .u (.slice A kk c) (.sliceHN (h := kk) Tsl_27 rfl rfl (by omega) (by omega)) ?_
 refine .step rfl (.append (H1 := []) (H2 := [.blk b1 71 [.int .i64 (min a b), .int .i64 (max a b), .bool hd]]) (v := .slice (some ⟨b2, 0, none⟩) 0 0) (u := .slice A kk c) (n := 0) (m := kk) (xs := []) (ys := wls (L.take kk)) Tsl_27 (by decide) rfl rfl rfl rfl (fun w hs => hs.sl (ha.takeW (m := kk) (by omega))) (by exact wls_allb _) (by omega) (by simp only [maxLen]; omega) fun av1 hnav1 => ?_)
 refine Run.weak (H' := [.own av1 71 3 kk (wls (L.take kk)), .blk b1 71 [.int .i64 (min a b), .int .i64 (max a b), .bool hd]]) (Some'.weak (.takeEq (by simp) (.take (.nil _)))) ?_ ⟨_, _, rfl, fun _ => nofun, fun _ => nofun⟩
 refine .w av1 ?_
 refine .dsr ?_
 refine .w av1 ?_
 refine .u (.agg #[.int .i64 (min a b), .int .i64 (max a b), .bool hd]) (.loadN (cs := [.int .i64 (min a b), .int .i64 (max a b), .bool hd]) Tagg_71 rfl (Cells.blk (.tail _ (.head _)) ⟨rfl, rfl, rfl, trivial⟩)) ?_
 refine .step rfl (.buildSlice (us := [.int .i64 (min a b), .int .i64 (max a b), .bool hd]) Tsl_27 (by decide) (by decide) ⟨rfl, [.int .i64 (min a b), .int .i64 (max a b), .bool hd], _, rfl, rfl, rfl, rfl⟩ rfl fun b3 => ?_)
 refine .step rfl (.append (H1 := [.own (.slice (some ⟨b3, 0, none⟩) 1 1) 71 3 1 ([.int .i64 (min a b), .int .i64 (max a b), .bool hd])]) (H2 := [.blk b1 71 [.int .i64 (min a b), .int .i64 (max a b), .bool hd]]) (v := av1) (u := .slice (some ⟨b3, 0, none⟩) 1 1) (n := kk) (m := 1) (xs := wls (L.take kk)) (ys := [.int .i64 (min a b), .int .i64 (max a b), .bool hd]) Tsl_27 (by decide) rfl rfl rfl rfl (fun w hs => hs.slOwn (.head _)) (by simp [Value.oneCell']) (by omega) (by simp only [maxLen]; omega) fun av2 hnav2 => ?_)
 refine Run.weak (H' := [.own (.slice (some ⟨b3, 0, none⟩) 1 1) 71 3 1 ([.int .i64 (min a b), .int .i64 (max a b), .bool hd]), .own av2 71 3 (kk + 1) (wls (L.take kk ++ [((min a b, max a b, hd) : W3)])), .blk b1 71 [.int .i64 (min a b), .int .i64 (max a b), .bool hd]]) (Some'.weak (.take (.takeEq (by rw [wls_append, wls_one]) (.take (.nil _))))) ?_ ⟨_, _, rfl, fun _ => nofun, fun _ => nofun⟩
 refine .w av2 ?_
 refine .done ?_
 refine .seq ?_
 obtain ⟨A2, c2, hA2, hc2, ha2⟩ := ha.dropW (l := kk) (by omega)
 refine .region ?_
 refine .w av2 ?_
 iterate 2 refine .m ?_
 refine .u (.slice A2 (n - kk) c2) (.sliceLV (l := kk) Tsl_27 rfl rfl (by first | rfl | omega) (by omega) hA2) ?_
 refine .step rfl (.append (H1 := [.own (.slice (some ⟨b3, 0, none⟩) 1 1) 71 3 1 ([.int .i64 (min a b), .int .i64 (max a b), .bool hd])]) (H2 := [.blk b1 71 [.int .i64 (min a b), .int .i64 (max a b), .bool hd]]) (v := av2) (u := .slice A2 (n - kk) c2) (n := kk + 1) (m := n - kk) (xs := wls (L.take kk ++ [((min a b, max a b, hd) : W3)])) (ys := wls (L.drop kk)) Tsl_27 (by decide) rfl rfl rfl rfl (fun w hs => hs.sl ha2) (by exact wls_allb _) (by omega) (by simp only [maxLen]; omega) fun av3 hnav3 => ?_)
 refine Run.weak (H' := [.own (.slice (some ⟨b3, 0, none⟩) 1 1) 71 3 1 ([.int .i64 (min a b), .int .i64 (max a b), .bool hd]), .own av3 71 3 (n + 1) (wls (insW L ((min a b, max a b, hd) : W3))), .blk b1 71 [.int .i64 (min a b), .int .i64 (max a b), .bool hd]]) (Some'.weak (.take (.takeEq (by rw [show kk + 1 + (n - kk) = n + 1 by omega, ← wls_append, insW, hpos, List.append_assoc]; rfl) (.take (.nil _))))) ?_ ⟨_, _, rfl, fun _ => nofun, fun _ => nofun⟩
 refine .w av3 ?_
 refine .done ?_
 refine .ret ?_
 refine ⟨av3, [.own av3 71 3 (n + 1) (wls (insW L ((min a b, max a b, hd) : W3)))], Out.one rfl rfl, (Some'.weak (.skip (.take (.nil _)))), ?_⟩
 rfl

set_option maxHeartbeats 1000000 in
set_option maxRecDepth 20000 in
theorem l16Cut_spec {va : Value} {n i : Nat} {L : List W3} {w : World} (ha : Sl w va 3 n (wls L)) (hn4 : n ≤ 1000000) (hi : i < n) : Calls Try.prog 70 #[va, .int .i64 (i : Nat)] w (Post No w fun v H => H = [.own v 71 3 (n - 1) (wls (L.eraseIdx i))]) := by
 have hLn : L.length = n := ha.wlen
 have hn := ha.le
 obtain ⟨A, c, rfl, _, _⟩ := ha.form0
 obtain ⟨A2, c2, hA2, hc2, ha2⟩ := ha.dropW (l := i + 1) (by omega)
 refine enter (n := 17) (args := [.slice A n c, .int .i64 (((i : Nat) : Int))]) Try.func70 rfl rfl (St.empty _ _) ?_
 refine .sr ?_
 refine .m ?_
 refine .dsr ?_
 refine .step rfl (.buildSlice (us := []) Tsl_27 (by decide) (by decide) rfl rfl fun b1 => ?_)
 iterate 2 refine .m ?_
 refine .u (.slice A i c) (.sliceHN (h := i) Tsl_27 rfl rfl (by omega) (by omega)) ?_
 refine .step rfl (.append (H1 := []) (H2 := []) (v := .slice (some ⟨b1, 0, none⟩) 0 0) (u := .slice A i c) (n := 0) (m := i) (xs := []) (ys := wls (L.take i)) Tsl_27 (by decide) rfl rfl rfl rfl (fun w hs => hs.sl (ha.takeW (m := i) (by omega))) (by exact wls_allb _) (by omega) (by simp only [maxLen]; omega) fun av1 hnav1 => ?_)
 refine Run.weak (H' := [.own av1 71 3 i (wls (L.take i))]) (Some'.weak (.takeEq (by simp) (.nil _))) ?_ ⟨_, _, rfl, fun _ => nofun, fun _ => nofun⟩
 refine .w av1 ?_
 refine .dsr ?_
 refine .w av1 ?_
 iterate 2 refine .m ?_
 refine .u (.int .i64 (((i + 1 : Nat) : Int))) (.add rfl rfl (by omega) (by omega) (by omega)) ?_
 refine .u (.slice A2 (n - (i + 1)) c2) (.sliceLV (l := i + 1) Tsl_27 rfl rfl (by first | rfl | omega) (by omega) hA2) ?_
 refine .step rfl (.append (H1 := []) (H2 := []) (v := av1) (u := .slice A2 (n - (i + 1)) c2) (n := i) (m := n - (i + 1)) (xs := wls (L.take i)) (ys := wls (L.drop (i + 1))) Tsl_27 (by decide) rfl rfl rfl rfl (fun w hs => hs.sl ha2) (by exact wls_allb _) (by omega) (by simp only [maxLen]; omega) fun av2 hnav2 => ?_)
 refine Run.weak (H' := [.own av2 71 3 (n - 1) (wls (L.eraseIdx i))]) (Some'.weak (.takeEq (by rw [show i + (n - (i + 1)) = n - 1 by omega, ← wls_append, List.eraseIdx_eq_take_drop_succ]) (.nil _))) ?_ ⟨_, _, rfl, fun _ => nofun, fun _ => nofun⟩
 refine .w av2 ?_
 refine .done ?_
 refine .ret ?_
 refine ⟨av2, [.own av2 71 3 (n - 1) (wls (L.eraseIdx i))], Out.one rfl rfl, (Some'.weak (.take (.nil _))), ?_⟩
 rfl

end Go.Proofs.Ytnnkoeknejeieaa
