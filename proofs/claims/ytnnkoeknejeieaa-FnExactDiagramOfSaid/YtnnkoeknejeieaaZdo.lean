/- Walks: the laws compare, mark and hold diagrams. -/
import Derived.Test.YtnnkoeknejeieaaZdn
import Derived.Test.YtnnkoeknejeieaaProg
set_option linter.unusedSimpArgs false
set_option linter.unusedVariables false
namespace Go.Proofs.Ytnnkoeknejeieaa
open Go Go.RowKit
namespace ZdoT
theorem Tagg_52 : aggOf Try.prog 52 = some 2 := by kernel_rfl
theorem Tagg_71 : aggOf Try.prog 71 = some 3 := by kernel_rfl
theorem Tbool_4 : Try.prog.underlying 4 = some .bool := by kernel_rfl
theorem Tcall_48 : callable Try.prog 48 = true := by kernel_rfl
theorem Tcall_49 : callable Try.prog 49 = true := by kernel_rfl
theorem Tfo_52_0 : fieldOff Try.prog 52 0 = some 0 := by kernel_rfl
theorem Tfo_52_1 : fieldOff Try.prog 52 1 = some 1 := by kernel_rfl
theorem Tfo_71_0 : fieldOff Try.prog 71 0 = some 0 := by kernel_rfl
theorem Tfo_71_1 : fieldOff Try.prog 71 1 = some 1 := by kernel_rfl
theorem Tfo_71_2 : fieldOff Try.prog 71 2 = some 2 := by kernel_rfl
theorem Tone_3 : oneOf Try.prog 3 = true := by kernel_rfl
theorem Tone_4 : oneOf Try.prog 4 = true := by kernel_rfl
theorem Tsize_3 : (Try.prog.info? 3).map (·.size) = some 1 := by kernel_rfl
theorem Tsize_4 : (Try.prog.info? 4).map (·.size) = some 1 := by kernel_rfl
theorem Tsl_26 : sliceOf Try.prog 26 = some (52, 2, 16, [.int .i64 0, .int .i64 0]) := by kernel_rfl
theorem Tsl_27 : sliceOf Try.prog 27 = some (71, 3, 24, [.int .i64 0, .int .i64 0, .bool false]) := by kernel_rfl
end ZdoT
open ZdoT

theorem wls_setX : ∀ {X : List W3} {i j : Nat} {v : Value} {y : W3}, i < X.length → j < 3 → (wle (wx X i)).set j v = wle y → (wls X).set (i * 3 + j) v = wls (X.set i y)
  | x :: X, 0, j, v, y, _, hj, h => by
    have e1 : wls (x :: X) = wle x ++ wls X := rfl
    rw [e1, Nat.zero_mul, Nat.zero_add, List.set_append_left _ _ (by show j < 3; exact hj)]
    have e2 : wx (x :: X) 0 = x := rfl
    rw [e2] at h
    rw [h]; rfl
  | x :: X, i + 1, j, v, y, hi, hj, h => by
    have e1 : wls (x :: X) = wle x ++ wls X := rfl
    have e2 : wx (x :: X) (i + 1) = wx X i := by simp [wx, List.getD]
    rw [e2] at h
    have ih := wls_setX (X := X) (i := i) (by simpa using hi) hj h
    have e3 : (wle x).length = 3 := rfl
    rw [e1, show (i + 1) * 3 + j = 3 + (i * 3 + j) by omega, List.set_append_right _ _ (by rw [e3]; omega), e3, Nat.add_sub_cancel_left, ih]; rfl
theorem wls_setWa {X : List W3} {i : Nat} {a : Int} (h : i < X.length) : spl (wls X) (i * 3) [.int .i64 a] = wls (X.set i (a, (wx X i).2.1, (wx X i).2.2)) := wls_setX (j := 0) h (by omega) rfl
theorem wls_setWb {X : List W3} {i : Nat} {a : Int} (h : i < X.length) : spl (wls X) (i * 3 + 1) [.int .i64 a] = wls (X.set i ((wx X i).1, a, (wx X i).2.2)) := wls_setX (j := 1) h (by omega) rfl
theorem wls_setWh {X : List W3} {i : Nat} {a : Bool} (h : i < X.length) : spl (wls X) (i * 3 + 2) [.bool a] = wls (X.set i ((wx X i).1, (wx X i).2.1, a)) := wls_setX (j := 2) h (by omega) rfl
theorem wx_setS {X : List W3} {i : Nat} {y : W3} (h : i < X.length) : wx (X.set i y) i = y := by simp [wx, List.getD, h]
theorem set3W {X : List W3} {i : Nat} {a b : Int} {c : Bool} (h : i < X.length) : (((((X.set i (a, (wx X i).2.1, (wx X i).2.2))).set i ((wx ((X.set i (a, (wx X i).2.1, (wx X i).2.2))) i).1, b, (wx ((X.set i (a, (wx X i).2.1, (wx X i).2.2))) i).2.2))).set i ((wx ((((X.set i (a, (wx X i).2.1, (wx X i).2.2))).set i ((wx ((X.set i (a, (wx X i).2.1, (wx X i).2.2))) i).1, b, (wx ((X.set i (a, (wx X i).2.1, (wx X i).2.2))) i).2.2))) i).1, (wx ((((X.set i (a, (wx X i).2.1, (wx X i).2.2))).set i ((wx ((X.set i (a, (wx X i).2.1, (wx X i).2.2))) i).1, b, (wx ((X.set i (a, (wx X i).2.1, (wx X i).2.2))) i).2.2))) i).2.1, c)) = X.set i (a, b, c) := by
  simp only [wx_setS (by simpa using h : i < (List.length X)), List.set_set, wx_setS h, wx_setS (show i < (X.set i _).length by simpa using h)]
/-- The mark of wire number j. -/
def mk1 (k : Int) (j : Nat) : W3 := (k + ((j * 3 : Nat) : Int), k + ((j * 3 : Nat) : Int) + 1, (k + ((j * 3 : Nat) : Int) + 1 + 1) % 3 == 0)
def mkW (k : Int) (n : Nat) : List W3 := (List.range n).map (mk1 k)
@[simp] theorem mkW_length (k : Int) (n : Nat) : (mkW k n).length = n := by simp [mkW]
def markedW (k : Int) (i : Nat) (X : List W3) : List W3 := mkW k i ++ X.drop i
theorem markedW_zero (k : Int) (X : List W3) : markedW k 0 X = X := by simp [markedW, mkW]
theorem markedW_len {k : Int} {i : Nat} {X : List W3} (h : i ≤ X.length) : (markedW k i X).length = X.length := by simp [markedW]; omega
theorem markedW_all {k : Int} {n : Nat} {X : List W3} (h : X.length = n) : markedW k n X = mkW k n := by rw [markedW, List.drop_of_length_le (by omega), List.append_nil]
theorem markedW_set {k : Int} {i : Nat} {X : List W3} (h : i < X.length) : (markedW k i X).set i (mk1 k i) = markedW k (i + 1) X := by
  rw [markedW, List.set_append_right _ _ (by simp), mkW_length, Nat.sub_self, List.drop_eq_getElem_cons h, List.set_cons_zero, markedW, mkW, mkW, List.range_succ, List.map_append, List.append_assoc]; rfl
theorem eq_mkW {k : Int} {n : Nat} {X : List W3} (h : X.length = n) (hx : ∀ j, j < n → wx X j = mk1 k j) : X = mkW k n := by
  apply List.ext_getElem (by simp [h])
  intro i h1 h2
  have h3 := hx i (by omega)
  have e : wx X i = X[i] := by simp [wx, List.getD, h1]
  rw [← e, h3]; simp [mkW]
theorem wx_mkW {k : Int} {n j : Nat} (h : j < n) : wx (mkW k n) j = mk1 k j := by simp [wx, mkW, List.getD, h]
theorem list_ext_wx {X Y : List W3} (hl : X.length = Y.length) (h : ∀ j, j < X.length → wx X j = wx Y j) : X = Y := by
  apply List.ext_getElem hl
  intro i h1 h2
  have := h i h1
  simpa [wx, List.getD, h1, h2] using this


theorem OpStep.storeOwnWa {E : Env} {f : Fr} {H : List Res} {d : Option Tmp} {ty : TypeId} {pos : String} {after : Array Edge} {gd : Option (Nat × Bool)} {K : Fr → List Res → Prop} {t : TypeId} {x y : Operand} {g cap n m : Nat} {e : TypeId} {size : Nat} {H' : List Res} {X : List W3} {i : Nat} {a : Int} (ht : (E.P.info? t).map (·.size) = some 1) (hx : f.eval x = .pointer (some ⟨g, i * 3, none⟩)) (hy : f.eval y = .int .i64 a)
    (hH : Turn (.own (.slice (some ⟨g, 0, none⟩) m cap) e size n (wls X)) (.own (.slice (some ⟨g, 0, none⟩) m cap) e size n (wls (X.set i (a, (wx X i).2.1, (wx X i).2.2)))) H H') (hi : i < X.length) (hfit : i * 3 < n * size) (hk : K (putF E.n f d undef) H') :
    OpStep E ⟨d, .store t x y, ty, pos, after, gd⟩ f H K := by
  refine OpStep.storeOwn (us := [.int .i64 a]) (cs := wls X) ht hx rfl (by rw [hy]; rfl) rfl (by rw [wls_setWa hi]; exact hH) (by simp only [List.length_cons, List.length_nil]; omega) hk

theorem OpStep.storeOwnWb {E : Env} {f : Fr} {H : List Res} {d : Option Tmp} {ty : TypeId} {pos : String} {after : Array Edge} {gd : Option (Nat × Bool)} {K : Fr → List Res → Prop} {t : TypeId} {x y : Operand} {g cap n m : Nat} {e : TypeId} {size : Nat} {H' : List Res} {X : List W3} {i : Nat} {a : Int} (ht : (E.P.info? t).map (·.size) = some 1) (hx : f.eval x = .pointer (some ⟨g, i * 3 + 1, none⟩)) (hy : f.eval y = .int .i64 a)
    (hH : Turn (.own (.slice (some ⟨g, 0, none⟩) m cap) e size n (wls X)) (.own (.slice (some ⟨g, 0, none⟩) m cap) e size n (wls (X.set i ((wx X i).1, a, (wx X i).2.2)))) H H') (hi : i < X.length) (hfit : i * 3 + 1 < n * size) (hk : K (putF E.n f d undef) H') :
    OpStep E ⟨d, .store t x y, ty, pos, after, gd⟩ f H K := by
  refine OpStep.storeOwn (us := [.int .i64 a]) (cs := wls X) ht hx rfl (by rw [hy]; rfl) rfl (by rw [wls_setWb hi]; exact hH) (by simp only [List.length_cons, List.length_nil]; omega) hk

theorem OpStep.storeOwnWh {E : Env} {f : Fr} {H : List Res} {d : Option Tmp} {ty : TypeId} {pos : String} {after : Array Edge} {gd : Option (Nat × Bool)} {K : Fr → List Res → Prop} {t : TypeId} {x y : Operand} {g cap n m : Nat} {e : TypeId} {size : Nat} {H' : List Res} {X : List W3} {i : Nat} {a : Bool} (ht : (E.P.info? t).map (·.size) = some 1) (hx : f.eval x = .pointer (some ⟨g, i * 3 + 2, none⟩)) (hy : f.eval y = .bool a)
    (hH : Turn (.own (.slice (some ⟨g, 0, none⟩) m cap) e size n (wls X)) (.own (.slice (some ⟨g, 0, none⟩) m cap) e size n (wls (X.set i ((wx X i).1, (wx X i).2.1, a)))) H H') (hi : i < X.length) (hfit : i * 3 + 2 < n * size) (hk : K (putF E.n f d undef) H') :
    OpStep E ⟨d, .store t x y, ty, pos, after, gd⟩ f H K := by
  refine OpStep.storeOwn (us := [.bool a]) (cs := wls X) ht hx rfl (by rw [hy]; rfl) rfl (by rw [wls_setWh hi]; exact hH) (by simp only [List.length_cons, List.length_nil]; omega) hk

set_option maxHeartbeats 1000000 in
set_option maxRecDepth 20000 in
theorem eqWire_spec (x1 x2 : Int) (x3 : Bool) (y1 y2 : Int) (y3 : Bool) (w : World) : Calls Try.prog 49 #[.agg #[.int .i64 x1, .int .i64 x2, .bool x3], .agg #[.int .i64 y1, .int .i64 y2, .bool y3]] w (Post No w fun v _ => v = .bool (decide (((x1, x2, x3) : W3) = (y1, y2, y3)))) := by
 refine enter (n := 20) (args := [.agg #[.int .i64 x1, .int .i64 x2, .bool x3], .agg #[.int .i64 y1, .int .i64 y2, .bool y3]]) Try.func49 rfl rfl (St.empty _ _) ?_
 refine .sr ?_
 refine .step rfl (.box (us := [.int .i64 x1, .int .i64 x2, .bool x3]) rfl fun b1 => ?_)
 refine .step rfl (.box (us := [.int .i64 y1, .int .i64 y2, .bool y3]) rfl fun b2 => ?_)
 refine .m ?_
 refine .done ?_
 refine .seq ?_
 refine .sr ?_
 refine .fa Tfo_71_0 ?_
 refine .u (.int .i64 x1) (.load1 Tone_3 rfl (.b (.tail _ (.head _)))) ?_
 refine .fa Tfo_71_0 ?_
 refine .u (.int .i64 y1) (.load1 Tone_3 rfl (.b (.head _))) ?_
 refine .w (.bool (x1 != y1)) ?_
 refine .done ?_
 refine .cond (b := x1 != y1) rfl (fun h9 => ?_) (fun h9 => ?_)
 ·have p9 := h9; try simp only [bs] at p9
  refine .sr ?_
  refine .m ?_
  refine .done ?_
  refine .ret ?_
  refine ⟨.bool false, [], Out.one rfl rfl, (Some'.weak (.nil _)), ?_⟩
  show _ = _; simp_all
 have p9 := h9; try simp only [bs] at p9
 refine .skip ?_
 refine .seq ?_
 refine .sr ?_
 refine .fa Tfo_71_1 ?_
 refine .u (.int .i64 x2) (.load1 Tone_3 rfl (.b (.tail _ (.head _)))) ?_
 refine .fa Tfo_71_1 ?_
 refine .u (.int .i64 y2) (.load1 Tone_3 rfl (.b (.head _))) ?_
 refine .w (.bool (x2 != y2)) ?_
 refine .done ?_
 refine .cond (b := x2 != y2) rfl (fun h14 => ?_) (fun h14 => ?_)
 ·have p14 := h14; try simp only [bs] at p14
  refine .sr ?_
  refine .m ?_
  refine .done ?_
  refine .ret ?_
  refine ⟨.bool false, [], Out.one rfl rfl, (Some'.weak (.nil _)), ?_⟩
  show _ = _; simp_all
 have p14 := h14; try simp only [bs] at p14
 refine .skip ?_
 refine .seq ?_
 refine .sr ?_
 refine .fa Tfo_71_2 ?_
 refine .u (.bool x3) (.load1 Tone_4 rfl (.b (.tail _ (.head _)))) ?_
 refine .fa Tfo_71_2 ?_
 refine .u (.bool y3) (.load1 Tone_4 rfl (.b (.head _))) ?_
 refine .u (.bool (x3 != y3)) (.eqBn Tbool_4 rfl rfl) ?_
 refine .done ?_
 refine .cond (b := x3 != y3) rfl (fun h19 => ?_) (fun h19 => ?_)
 ·have p19 := h19; try simp only [bs] at p19
  refine .sr ?_
  refine .m ?_
  refine .done ?_
  refine .ret ?_
  refine ⟨.bool false, [], Out.one rfl rfl, (Some'.weak (.nil _)), ?_⟩
  show _ = _; simp_all
 have p19 := h19; try simp only [bs] at p19
 refine .skip ?_
 refine .sr ?_
 refine .m ?_
 refine .done ?_
 refine .ret ?_
 refine ⟨.bool true, [], Out.one rfl rfl, (Some'.weak (.nil _)), ?_⟩
 show _ = _; simp_all

set_option maxHeartbeats 1000000 in
set_option maxRecDepth 20000 in
theorem eqWireS_spec {va vb : Value} {n m : Nat} {X Y : List W3} {w : World} (ha : Sl w va 3 n (wls X)) (hb : Sl w vb 3 m (wls Y)) : Calls Try.prog 23 #[va, vb] w (Post No w fun v _ => v = .bool (decide (X = Y))) := by
 have hxl := ha.wlen
 have hyl := hb.wlen
 have hn := ha.le
 obtain ⟨A, c, rfl, _, _⟩ := ha.form0
 obtain ⟨B, d, rfl, _, _⟩ := hb.form0
 refine enter (n := 27) (args := [.slice A n c, .slice B m d]) Try.func23 rfl rfl (St.empty _ _) ?_
 refine .sr ?_
 refine .m ?_
 refine .done ?_
 refine .seq ?_
 refine .sr ?_
 refine .m ?_
 refine .u (.int .i64 (((n : Nat) : Int))) (.len Tsl_27 rfl) ?_
 refine .m ?_
 refine .u (.int .i64 (((m : Nat) : Int))) (.len Tsl_27 rfl) ?_
 refine .w (.bool ((((n : Nat) : Int)) != (((m : Nat) : Int)))) ?_
 refine .done ?_
 refine .cond (b := (((n : Nat) : Int)) != (((m : Nat) : Int))) rfl (fun h10 => ?_) (fun h10 => ?_)
 ·have p10 := h10; try simp only [bs] at p10
  have hne : ¬ X = Y := by intro e; subst e; simp at h10; omega
  refine .sr ?_
  refine .m ?_
  refine .done ?_
  refine .ret ?_
  refine ⟨.bool false, [], Out.one rfl rfl, (Some'.weak (.nil _)), ?_⟩
  show _ = _; simp_all
 have p10 := h10; try simp only [bs] at p10
 have hnm : m = n := by simp at h10; omega
 refine .skip ?_
 refine .seq ?_
 refine .sr ?_
 refine .m ?_
 refine .done ?_
 refine .block ?_
 refine Run.loop (ι := Nat) [4, 5, 11, 12, 13, 14, 15, 16, 17, 18, 19, 20, 21, 22, 23, 24, 25, 26] (fun k => [(5, .int .i64 (((k : Nat) : Int)))]) (fun k => []) (fun k => k ≤ n ∧ ∀ j, j < k → wx X j = wx Y j) (fun k => n - k) 0 ?_ ?_ ?_ ?_
 ·exact ⟨Nat.zero_le _, fun j hj => by omega⟩
 ·exact ⟨rfl, trivial⟩
 ·exact (Some'.weak (.nil _))
 rintro k fr hinv
 show Run _ _ (over _ _ [(5, .int .i64 (((k : Nat) : Int)))] fr) []
 try dsimp only at hinv
 refine .seq ?_
 refine .sr ?_
 iterate 2 refine .m ?_
 refine .u (.int .i64 (((n : Nat) : Int))) (.len Tsl_27 rfl) ?_
 refine .w (.bool (decide ((((k : Nat) : Int)) < (((n : Nat) : Int))))) ?_
 refine .done ?_
 refine .cond (b := decide ((((k : Nat) : Int)) < (((n : Nat) : Int)))) rfl (fun h14 => ?_) (fun h14 => ?_)
 ·have p14 := h14; try simp only [bs] at p14
  have hlt : k < n := by simp at h14; omega
  obtain ⟨b, o, rfl⟩ := ha.opn (by omega)
  obtain ⟨b2, o2, rfl⟩ := hb.opn (by omega)
  refine .skip ?_
  refine .seq ?_
  refine .block ?_
  refine .seq ?_
  refine .draws (by kernel_rfl) (by kernel_rfl) ?_
  iterate 2 refine .m ?_
  refine .u (.pointer (some ⟨b, o + k * 3, none⟩)) (.ix k Tsl_27) ?_
  refine .u (.agg #[.int .i64 ((wx X k).1), .int .i64 ((wx X k).2.1), .bool ((wx X k).2.2)]) (.loadN (cs := [.int .i64 ((wx X k).1), .int .i64 ((wx X k).2.1), .bool ((wx X k).2.2)]) Tagg_71 rfl (Cells.arg (k := k * 3) ha rfl (by omega) (preW (k := k) (by omega)))) ?_
  iterate 2 refine .m ?_
  refine .u (.pointer (some ⟨b2, o2 + k * 3, none⟩)) (.ix k Tsl_27) ?_
  refine .u (.agg #[.int .i64 ((wx Y k).1), .int .i64 ((wx Y k).2.1), .bool ((wx Y k).2.2)]) (.loadN (cs := [.int .i64 ((wx Y k).1), .int .i64 ((wx Y k).2.1), .bool ((wx Y k).2.2)]) Tagg_71 rfl (Cells.arg (k := k * 3) hb rfl (by omega) (preW (k := k) (by omega)))) ?_
  refine Lex.q (v := .bool (decide (wx X k = wx Y k))) rfl (OpQ.call (vs := [.agg #[.int .i64 ((wx X k).1), .int .i64 ((wx X k).2.1), .bool ((wx X k).2.2)], .agg #[.int .i64 ((wx Y k).1), .int .i64 ((wx Y k).2.1), .bool ((wx Y k).2.2)]]) (caps := []) Tcall_49 rfl rfl (fun w hs => eqWire_spec _ _ _ _ _ _ w)) ?_
  refine .w (.bool (!(decide (wx X k = wx Y k)))) ?_
  refine .done ?_
  refine .cond (b := !(decide (wx X k = wx Y k))) rfl (fun h26 => ?_) (fun h26 => ?_)
  ·have p26 := h26; try simp only [bs] at p26
   have hne : ¬ X = Y := by intro e; subst e; simp at h26
   refine .sr ?_
   refine .m ?_
   refine .done ?_
   refine .ret ?_
   refine ⟨.bool false, [], Out.one rfl rfl, (Some'.weak (.nil _)), ?_⟩
   show _ = _; simp_all
  have p26 := h26; try simp only [bs] at p26
  simp at h26
  refine .skip ?_
  refine .blockEnd ?_
  refine .region ?_
  refine .m ?_
  refine .u (.int .i64 ((((k : Nat) : Int)) + 1)) (.add rfl rfl rfl (by omega) (by omega)) ?_
  refine .m ?_
  refine .done ?_
  refine .goal ⟨(by repeat (first | exact Same.refl _ _ | refine Same.put rfl ?_ | refine Same.over rfl rfl ?_)), k + 1, ?_, ?_, ?_, ?_⟩
  ·refine ⟨by omega, fun j hj => ?_⟩
   rcases Nat.lt_succ_iff_lt_or_eq.1 hj with h | h
   ·exact hinv.2 j h
   ·rw [h]; exact h26
  ·omega
  ·exact ⟨(by first | rfl | (congr 1; omega) | simp), trivial⟩
  ·exact (Some'.weak (.nil _))
 have p14 := h14; try simp only [bs] at p14
 have hkn : k = n := by simp at h14; omega
 have heq : X = Y := list_ext_wx (by omega) fun j hj => hinv.2 j (by omega)
 refine .exit rfl ?_
 refine .sr ?_
 refine .m ?_
 refine .done ?_
 refine .ret ?_
 refine ⟨.bool true, [], Out.one rfl rfl, (Some'.weak (.nil _)), ?_⟩
 show _ = _; simp_all

set_option maxHeartbeats 1000000 in
set_option maxRecDepth 20000 in
theorem markWireS_spec {va : Value} {n : Nat} {X : List W3} {k : Int} {w : World} (ha : (Res.own va 71 3 n (wls X)).holds w) (h0 : 0 ≤ k) (hk : k + n * 3 < 4611686018427387904) : Calls Try.prog 27 #[va, .int .i64 k] w (Post (Of [.own va 71 3 n (wls X)]) w fun v H => v = .int .i64 (k + n * 3) ∧ H = [.own va 71 3 n (wls (mkW k n))]) := by
 have hsl := (St.start1 ha).slOwn (.head _)
 have hxl := hsl.wlen
 have hn := hsl.le
 obtain ⟨A, c0, rfl, _, _⟩ := hsl.form0
 refine enter (n := 36) (args := [.slice A n c0, .int .i64 k]) Try.func27 rfl rfl (St.start1 ha) ?_
 refine .sr ?_
 refine .m ?_
 refine .done ?_
 refine .seq ?_
 refine .sr ?_
 refine .m ?_
 refine .done ?_
 refine .block ?_
 refine Run.loop (ι := Nat) [1, 5, 6, 7, 8, 9, 10, 11, 12, 13, 14, 15, 16, 17, 18, 19, 20, 21, 22, 23, 24, 25, 26, 27, 28, 29, 30, 31, 32, 33, 34] (fun i => [(1, .int .i64 (k + ((i * 3 : Nat) : Int))), (5, .int .i64 (((i : Nat) : Int)))]) (fun i => [.own (.slice A n c0) 71 3 n (wls (markedW k i X))]) (fun i => i ≤ n) (fun i => n - i) 0 ?_ ?_ ?_ ?_
 ·exact Nat.zero_le _
 ·exact ⟨(by show Value.int .i64 k = Value.int .i64 _; simp), rfl, trivial⟩
 ·exact (Some'.weak (.takeEq (by rw [markedW_zero]) (.nil _)))
 rintro i fr hinv
 show Run _ _ (over _ _ [(1, .int .i64 (k + ((i * 3 : Nat) : Int))), (5, .int .i64 (((i : Nat) : Int)))] fr) [.own (.slice A n c0) 71 3 n (wls (markedW k i X))]
 try dsimp only at hinv
 refine .seq ?_
 refine .sr ?_
 iterate 2 refine .m ?_
 refine .u (.int .i64 (((n : Nat) : Int))) (.len Tsl_27 rfl) ?_
 refine .w (.bool (decide ((((i : Nat) : Int)) < (((n : Nat) : Int))))) ?_
 refine .done ?_
 refine .cond (b := decide ((((i : Nat) : Int)) < (((n : Nat) : Int)))) rfl (fun h9 => ?_) (fun h9 => ?_)
 ·have p9 := h9; try simp only [bs] at p9
  have hlt : i < n := by simp at h9; omega
  have hml := markedW_len (k := k) (X := X) (i := i) (by omega)
  refine Run.openOwn (.head _) (by omega) (fun g c hvg hcapg _ => ?_) (fun _ _ _ => ⟨nofun, nofun, nofun⟩)
  injection hvg with hAg _ hcg; subst hAg; subst hcg
  refine .skip ?_
  refine .seq ?_
  refine .block ?_
  refine .sr ?_
  iterate 3 refine .m ?_
  refine .u (.pointer (some ⟨g, i * 3, none⟩)) (.ix i Tsl_27) ?_
  refine .fa Tfo_71_0 ?_
  refine .step rfl (.storeOwnWa (i := i) (a := k + ((i * 3 : Nat) : Int)) Tsize_3 rfl rfl (.here _) (by first | omega | (simp only [List.length_set]; omega)) (by omega) ?_)
  refine .dsr ?_
  refine .m ?_
  refine .u (.int .i64 ((k + ((i * 3 : Nat) : Int)) + 1)) (.add rfl rfl rfl (by omega) (by omega)) ?_
  refine .m ?_
  refine .dsr ?_
  iterate 3 refine .m ?_
  refine .u (.pointer (some ⟨g, i * 3, none⟩)) (.ix i Tsl_27) ?_
  refine .fa Tfo_71_1 ?_
  refine .step rfl (.storeOwnWb (i := i) (a := (k + ((i * 3 : Nat) : Int)) + 1) Tsize_3 rfl rfl (.here _) (by first | omega | (simp only [List.length_set]; omega)) (by omega) ?_)
  refine .dsr ?_
  refine .m ?_
  refine .u (.int .i64 (((k + ((i * 3 : Nat) : Int)) + 1) + 1)) (.add rfl rfl rfl (by omega) (by omega)) ?_
  refine .m ?_
  refine .dsr ?_
  iterate 3 refine .m ?_
  refine .u (.int .i64 ((((k + ((i * 3 : Nat) : Int)) + 1) + 1) % 3)) (.rem rfl rfl (by omega) (by omega)) ?_
  refine .w (.bool (((((k + ((i * 3 : Nat) : Int)) + 1) + 1) % 3) == 0)) ?_
  refine .u (.pointer (some ⟨g, i * 3, none⟩)) (.ix i Tsl_27) ?_
  refine .fa Tfo_71_2 ?_
  refine .step rfl (.storeOwnWh (i := i) (a := ((((k + ((i * 3 : Nat) : Int)) + 1) + 1) % 3) == 0) Tsize_4 rfl rfl (.here _) (by first | omega | (simp only [List.length_set]; omega)) (by omega) ?_)
  refine .dr ?_
  refine .m ?_
  refine .u (.int .i64 ((((k + ((i * 3 : Nat) : Int)) + 1) + 1) + 1)) (.add rfl rfl rfl (by omega) (by omega)) ?_
  refine .m ?_
  refine .done ?_
  refine .blockEnd ?_
  refine .region ?_
  refine .m ?_
  refine .u (.int .i64 ((((i : Nat) : Int)) + 1)) (.add rfl rfl rfl (by omega) (by omega)) ?_
  refine .m ?_
  refine .done ?_
  refine .goal ⟨(by repeat (first | exact Same.refl _ _ | refine Same.put rfl ?_ | refine Same.over rfl rfl ?_)), i + 1, ?_, ?_, ?_, ?_⟩
  ·omega
  ·omega
  ·exact ⟨(by show Value.int _ _ = Value.int _ _; congr 1; omega), rfl, trivial⟩
  ·exact (Some'.weak (.takeEq (congrArg (fun z => Res.own _ _ _ _ (wls z)) ((set3W (by omega)).trans (markedW_set (by omega)))) (.nil _)))
 have p9 := h9; try simp only [bs] at p9
 have hkn : i = n := by simp at h9; omega
 refine .exit rfl ?_
 refine .sr ?_
 iterate 2 refine .m ?_
 refine .done ?_
 refine .ret ?_
 refine ⟨.int .i64 (k + ((i * 3 : Nat) : Int)), [.own (.slice A n c0) 71 3 n (wls (mkW k n))], Out.one rfl rfl, (Some'.weak (.takeEq (by subst hkn; rw [markedW_all hxl]) (.nil _))), ?_⟩
 exact ⟨by subst hkn; simp, rfl⟩

set_option maxHeartbeats 1000000 in
set_option maxRecDepth 20000 in
theorem heldWireS_spec {va : Value} {n : Nat} {X : List W3} {k : Int} {w : World} (ha : Sl w va 3 n (wls X)) (h0 : 0 ≤ k) (hk : k + n * 3 < 4611686018427387904) : Calls Try.prog 29 #[va, .int .i64 k] w (Post No w fun v _ => v = .int .i64 (if X = mkW k n then k + n * 3 else -1)) := by
 have hxl := ha.wlen
 have hn := ha.le
 obtain ⟨A, c, rfl, _, _⟩ := ha.form0
 refine enter (n := 42) (args := [.slice A n c, .int .i64 k]) Try.func29 rfl rfl (St.empty _ _) ?_
 refine .sr ?_
 refine .m ?_
 refine .done ?_
 refine .seq ?_
 refine .sr ?_
 refine .m ?_
 refine .done ?_
 refine .block ?_
 refine Run.loop (ι := Nat) [1, 4, 5, 6, 7, 8, 9, 10, 11, 12, 13, 14, 15, 16, 17, 18, 19, 20, 21, 22, 23, 24, 25, 26, 27, 28, 29, 30, 31, 32, 33, 34, 35, 36, 37, 38, 39, 40] (fun i => [(1, .int .i64 (k + ((i * 3 : Nat) : Int))), (5, .int .i64 (((i : Nat) : Int)))]) (fun i => []) (fun i => i ≤ n ∧ ∀ j, j < i → wx X j = mk1 k j) (fun i => n - i) 0 ?_ ?_ ?_ ?_
 ·exact ⟨Nat.zero_le _, fun j hj => by omega⟩
 ·exact ⟨(by show Value.int .i64 k = Value.int .i64 _; simp), rfl, trivial⟩
 ·exact (Some'.weak (.nil _))
 rintro i fr hinv
 show Run _ _ (over _ _ [(1, .int .i64 (k + ((i * 3 : Nat) : Int))), (5, .int .i64 (((i : Nat) : Int)))] fr) []
 try dsimp only at hinv
 refine .seq ?_
 refine .sr ?_
 iterate 2 refine .m ?_
 refine .u (.int .i64 (((n : Nat) : Int))) (.len Tsl_27 rfl) ?_
 refine .w (.bool (decide ((((i : Nat) : Int)) < (((n : Nat) : Int))))) ?_
 refine .done ?_
 refine .cond (b := decide ((((i : Nat) : Int)) < (((n : Nat) : Int)))) rfl (fun h9 => ?_) (fun h9 => ?_)
 ·have p9 := h9; try simp only [bs] at p9
  have hlt : i < n := by simp at h9; omega
  obtain ⟨b, o, rfl⟩ := ha.opn (by omega)
  refine .skip ?_
  refine .seq ?_
  refine .block ?_
  refine .seq ?_
  refine .sr ?_
  iterate 2 refine .m ?_
  refine .u (.pointer (some ⟨b, o + i * 3, none⟩)) (.ix i Tsl_27) ?_
  refine .fa Tfo_71_0 ?_
  refine .u (.int .i64 ((wx X i).1)) (.load1 Tone_3 rfl (Cells.arg (k := i * 3) ha rfl (by omega) (preWa (k := i) (by omega)))) ?_
  refine .m ?_
  refine .w (.bool (((wx X i).1) != (k + ((i * 3 : Nat) : Int)))) ?_
  refine .done ?_
  refine .cond (b := ((wx X i).1) != (k + ((i * 3 : Nat) : Int))) rfl (fun h18 => ?_) (fun h18 => ?_)
  ·have p18 := h18; try simp only [bs] at p18
   have hne : ¬ X = mkW k n := by
    intro e
    have e1 : wx X i = mk1 k i := by rw [e]; exact wx_mkW hlt
    rw [e1] at h18
    simp [mk1] at h18
   refine .sr ?_
   refine .m ?_
   refine .done ?_
   refine .ret ?_
   refine ⟨.int .i64 (-1), [], Out.one rfl rfl, (Some'.weak (.nil _)), ?_⟩
   show _ = _; first | (rw [if_pos heq]; congr 1; omega) | rw [if_neg hne]
  have p18 := h18; try simp only [bs] at p18
  refine .skip ?_
  refine .sr ?_
  refine .m ?_
  refine .u (.int .i64 ((k + ((i * 3 : Nat) : Int)) + 1)) (.add rfl rfl rfl (by omega) (by omega)) ?_
  refine .m ?_
  refine .done ?_
  refine .seq ?_
  refine .sr ?_
  iterate 2 refine .m ?_
  refine .u (.pointer (some ⟨b, o + i * 3, none⟩)) (.ix i Tsl_27) ?_
  refine .fa Tfo_71_1 ?_
  refine .u (.int .i64 ((wx X i).2.1)) (.load1 Tone_3 rfl (Cells.arg (k := i * 3 + 1) ha rfl (by omega) (preWb (k := i) (by omega)))) ?_
  refine .m ?_
  refine .w (.bool (((wx X i).2.1) != ((k + ((i * 3 : Nat) : Int)) + 1))) ?_
  refine .done ?_
  refine .cond (b := ((wx X i).2.1) != ((k + ((i * 3 : Nat) : Int)) + 1)) rfl (fun h27 => ?_) (fun h27 => ?_)
  ·have p27 := h27; try simp only [bs] at p27
   have hne : ¬ X = mkW k n := by
    intro e
    have e1 : wx X i = mk1 k i := by rw [e]; exact wx_mkW hlt
    rw [e1] at h27
    simp [mk1] at h27
   refine .sr ?_
   refine .m ?_
   refine .done ?_
   refine .ret ?_
   refine ⟨.int .i64 (-1), [], Out.one rfl rfl, (Some'.weak (.nil _)), ?_⟩
   show _ = _; first | (rw [if_pos heq]; congr 1; omega) | rw [if_neg hne]
  have p27 := h27; try simp only [bs] at p27
  refine .skip ?_
  refine .sr ?_
  refine .m ?_
  refine .u (.int .i64 (((k + ((i * 3 : Nat) : Int)) + 1) + 1)) (.add rfl rfl rfl (by omega) (by omega)) ?_
  refine .m ?_
  refine .done ?_
  refine .seq ?_
  refine .sr ?_
  iterate 2 refine .m ?_
  refine .u (.pointer (some ⟨b, o + i * 3, none⟩)) (.ix i Tsl_27) ?_
  refine .fa Tfo_71_2 ?_
  refine .u (.bool ((wx X i).2.2)) (.load1 Tone_4 rfl (Cells.arg (k := i * 3 + 2) ha rfl (by omega) (preWh (k := i) (by omega)))) ?_
  refine .m ?_
  refine .u (.int .i64 ((((k + ((i * 3 : Nat) : Int)) + 1) + 1) % 3)) (.rem rfl rfl (by omega) (by omega)) ?_
  refine .w (.bool (((((k + ((i * 3 : Nat) : Int)) + 1) + 1) % 3) == 0)) ?_
  refine .u (.bool (((wx X i).2.2) != (((((k + ((i * 3 : Nat) : Int)) + 1) + 1) % 3) == 0))) (.eqBn Tbool_4 rfl rfl) ?_
  refine .done ?_
  refine .cond (b := ((wx X i).2.2) != (((((k + ((i * 3 : Nat) : Int)) + 1) + 1) % 3) == 0)) rfl (fun h38 => ?_) (fun h38 => ?_)
  ·have p38 := h38; try simp only [bs] at p38
   have hne : ¬ X = mkW k n := by
    intro e
    have e1 : wx X i = mk1 k i := by rw [e]; exact wx_mkW hlt
    rw [e1] at h38
    simp [mk1] at h38
   refine .sr ?_
   refine .m ?_
   refine .done ?_
   refine .ret ?_
   refine ⟨.int .i64 (-1), [], Out.one rfl rfl, (Some'.weak (.nil _)), ?_⟩
   show _ = _; first | (rw [if_pos heq]; congr 1; omega) | rw [if_neg hne]
  have p38 := h38; try simp only [bs] at p38
  refine .skip ?_
  refine .region ?_
  refine .m ?_
  refine .u (.int .i64 ((((k + ((i * 3 : Nat) : Int)) + 1) + 1) + 1)) (.add rfl rfl rfl (by omega) (by omega)) ?_
  refine .m ?_
  refine .done ?_
  refine .blockEnd ?_
  refine .region ?_
  refine .m ?_
  refine .u (.int .i64 ((((i : Nat) : Int)) + 1)) (.add rfl rfl rfl (by omega) (by omega)) ?_
  refine .m ?_
  refine .done ?_
  refine .goal ⟨(by repeat (first | exact Same.refl _ _ | refine Same.put rfl ?_ | refine Same.over rfl rfl ?_)), i + 1, ?_, ?_, ?_, ?_⟩
  ·refine ⟨by omega, fun j hj => ?_⟩
   rcases Nat.lt_succ_iff_lt_or_eq.1 hj with h | h
   ·exact hinv.2 j h
   ·rw [h]; exact Prod.ext p18 (Prod.ext p27 (by rw [bne_eq_false_iff_eq] at h38; exact h38))
  ·omega
  ·exact ⟨(by show Value.int _ _ = Value.int _ _; congr 1; omega), rfl, trivial⟩
  ·exact (Some'.weak (.nil _))
 have p9 := h9; try simp only [bs] at p9
 have hkn : i = n := by simp at h9; omega
 have heq : X = mkW k n := eq_mkW hxl fun j hj => hinv.2 j (by omega)
 refine .exit rfl ?_
 refine .sr ?_
 iterate 2 refine .m ?_
 refine .done ?_
 refine .ret ?_
 refine ⟨.int .i64 (k + ((i * 3 : Nat) : Int)), [], Out.one rfl rfl, (Some'.weak (.nil _)), ?_⟩
 show _ = _; first | (rw [if_pos heq]; congr 1; omega) | rw [if_neg hne]

set_option maxHeartbeats 1000000 in
set_option maxRecDepth 20000 in
theorem eqNode_spec (x0 x1 y0 y1 : Int) (w : World) : Calls Try.prog 48 #[.agg #[.int .i64 x0, .int .i64 x1], .agg #[.int .i64 y0, .int .i64 y1]] w (Post No w fun v _ => v = .bool (decide ([x0, x1] = [y0, y1]))) := by
 refine enter (n := 15) (args := [.agg #[.int .i64 x0, .int .i64 x1], .agg #[.int .i64 y0, .int .i64 y1]]) Try.func48 rfl rfl (St.empty _ _) ?_
 refine .sr ?_
 refine .step rfl (.box (us := [.int .i64 x0, .int .i64 x1]) rfl fun b1 => ?_)
 refine .step rfl (.box (us := [.int .i64 y0, .int .i64 y1]) rfl fun b2 => ?_)
 refine .m ?_
 refine .done ?_
 refine .seq ?_
 refine .sr ?_
 refine .fa Tfo_52_0 ?_
 refine .u (.int .i64 x0) (.load1 Tone_3 rfl (.b (.tail _ (.head _)))) ?_
 refine .fa Tfo_52_0 ?_
 refine .u (.int .i64 y0) (.load1 Tone_3 rfl (.b (.head _))) ?_
 refine .w (.bool (x0 != y0)) ?_
 refine .done ?_
 refine .cond (b := x0 != y0) rfl (fun h9 => ?_) (fun h9 => ?_)
 ·have p9 := h9; try simp only [bs] at p9
  refine .sr ?_
  refine .m ?_
  refine .done ?_
  refine .ret ?_
  refine ⟨.bool false, [], Out.one rfl rfl, (Some'.weak (.nil _)), ?_⟩
  show _ = _; simp_all
 have p9 := h9; try simp only [bs] at p9
 refine .skip ?_
 refine .seq ?_
 refine .sr ?_
 refine .fa Tfo_52_1 ?_
 refine .u (.int .i64 x1) (.load1 Tone_3 rfl (.b (.tail _ (.head _)))) ?_
 refine .fa Tfo_52_1 ?_
 refine .u (.int .i64 y1) (.load1 Tone_3 rfl (.b (.head _))) ?_
 refine .w (.bool (x1 != y1)) ?_
 refine .done ?_
 refine .cond (b := x1 != y1) rfl (fun h14 => ?_) (fun h14 => ?_)
 ·have p14 := h14; try simp only [bs] at p14
  refine .sr ?_
  refine .m ?_
  refine .done ?_
  refine .ret ?_
  refine ⟨.bool false, [], Out.one rfl rfl, (Some'.weak (.nil _)), ?_⟩
  show _ = _; simp_all
 have p14 := h14; try simp only [bs] at p14
 refine .skip ?_
 refine .sr ?_
 refine .m ?_
 refine .done ?_
 refine .ret ?_
 refine ⟨.bool true, [], Out.one rfl rfl, (Some'.weak (.nil _)), ?_⟩
 show _ = _; simp_all

set_option maxHeartbeats 1000000 in
set_option maxRecDepth 20000 in
theorem eqNodeS_spec {va vb : Value} {n m : Nat} {xs ys : List Int} {w : World} (ha : Sl w va 2 n (ints xs)) (hb : Sl w vb 2 m (ints ys)) :
  Calls Try.prog 22 #[va, vb] w (Post No w fun v _ => v = .bool (decide (xs = ys))) := by
 have hxl := ha.len
 have hyl := hb.len
 have hn := ha.le
 obtain ⟨A, c, rfl, _, _⟩ := ha.form0
 obtain ⟨B, d, rfl, _, _⟩ := hb.form0
 refine enter (n := 27) (args := [.slice A n c, .slice B m d]) Try.func22 rfl rfl (St.empty _ _) ?_
 refine .sr ?_
 refine .m ?_
 refine .done ?_
 refine .seq ?_
 refine .sr ?_
 refine .m ?_
 refine .u (.int .i64 (((n : Nat) : Int))) (.len Tsl_26 rfl) ?_
 refine .m ?_
 refine .u (.int .i64 (((m : Nat) : Int))) (.len Tsl_26 rfl) ?_
 refine .w (.bool ((((n : Nat) : Int)) != (((m : Nat) : Int)))) ?_
 refine .done ?_
 refine .cond (b := (((n : Nat) : Int)) != (((m : Nat) : Int))) rfl (fun h10 => ?_) (fun h10 => ?_)
 ·have p10 := h10; try simp only [bs] at p10
  have hne : ¬ xs = ys := by intro e; subst e; simp at h10; omega
  refine .sr ?_
  refine .m ?_
  refine .done ?_
  refine .ret ?_
  refine ⟨.bool false, [], Out.one rfl rfl, (Some'.weak (.nil _)), ?_⟩
  show _ = _; simp_all
 have p10 := h10; try simp only [bs] at p10
 have hnm : m = n := by simp at h10; omega
 have hyl2 : ys.length = n * 2 := by rw [hyl, hnm]
 refine .skip ?_
 refine .seq ?_
 refine .sr ?_
 refine .m ?_
 refine .done ?_
 refine .block ?_
 refine Run.loop (ι := Nat) [4, 5, 11, 12, 13, 14, 15, 16, 17, 18, 19, 20, 21, 22, 23, 24, 25, 26] (fun k => [(5, .int .i64 (((k : Nat) : Int)))]) (fun k => []) (fun k => k ≤ n ∧ ∀ j, j < k * 2 → ix xs j = ix ys j) (fun k => n - k) 0 ?_ ?_ ?_ ?_
 ·exact ⟨Nat.zero_le _, fun j hj => by omega⟩
 ·exact ⟨rfl, trivial⟩
 ·exact (Some'.weak (.nil _))
 rintro k fr hinv
 show Run _ _ (over _ _ [(5, .int .i64 (((k : Nat) : Int)))] fr) []
 try dsimp only at hinv
 refine .seq ?_
 refine .sr ?_
 iterate 2 refine .m ?_
 refine .u (.int .i64 (((n : Nat) : Int))) (.len Tsl_26 rfl) ?_
 refine .w (.bool (decide ((((k : Nat) : Int)) < (((n : Nat) : Int))))) ?_
 refine .done ?_
 refine .cond (b := decide ((((k : Nat) : Int)) < (((n : Nat) : Int)))) rfl (fun h14 => ?_) (fun h14 => ?_)
 ·have p14 := h14; try simp only [bs] at p14
  have hlt : k < n := by simp at h14; omega
  obtain ⟨b, o, rfl⟩ := ha.opn (by omega)
  obtain ⟨b2, o2, rfl⟩ := hb.opn (by omega)
  refine .skip ?_
  refine .seq ?_
  refine .block ?_
  refine .seq ?_
  refine .draws (by kernel_rfl) (by kernel_rfl) ?_
  iterate 2 refine .m ?_
  refine .u (.pointer (some ⟨b, o + k * 2, none⟩)) (.ix k Tsl_26) ?_
  refine .u (.agg #[.int .i64 (ix xs (k * 2)), .int .i64 (ix xs (k * 2 + 1))]) (.loadN (cs := [.int .i64 (ix xs (k * 2)), .int .i64 (ix xs (k * 2 + 1))]) Tagg_52 rfl (Cells.arg (k := k * 2) ha rfl (by omega) (pre2 (by omega)))) ?_
  iterate 2 refine .m ?_
  refine .u (.pointer (some ⟨b2, o2 + k * 2, none⟩)) (.ix k Tsl_26) ?_
  refine .u (.agg #[.int .i64 (ix ys (k * 2)), .int .i64 (ix ys (k * 2 + 1))]) (.loadN (cs := [.int .i64 (ix ys (k * 2)), .int .i64 (ix ys (k * 2 + 1))]) Tagg_52 rfl (Cells.arg (k := k * 2) hb rfl (by omega) (pre2 (by omega)))) ?_
  refine Lex.q (v := .bool (decide ([ix xs (k * 2), ix xs (k * 2 + 1)] = [ix ys (k * 2), ix ys (k * 2 + 1)]))) rfl (OpQ.call (vs := [.agg #[.int .i64 (ix xs (k * 2)), .int .i64 (ix xs (k * 2 + 1))], .agg #[.int .i64 (ix ys (k * 2)), .int .i64 (ix ys (k * 2 + 1))]]) (caps := []) Tcall_48 rfl rfl (fun w hs => eqNode_spec _ _ _ _ w)) ?_
  refine .w (.bool (!(decide ([ix xs (k * 2), ix xs (k * 2 + 1)] = [ix ys (k * 2), ix ys (k * 2 + 1)])))) ?_
  refine .done ?_
  refine .cond (b := !(decide ([ix xs (k * 2), ix xs (k * 2 + 1)] = [ix ys (k * 2), ix ys (k * 2 + 1)]))) rfl (fun h26 => ?_) (fun h26 => ?_)
  ·have p26 := h26; try simp only [bs] at p26
   have hne : ¬ xs = ys := by intro e; subst e; simp at h26
   refine .sr ?_
   refine .m ?_
   refine .done ?_
   refine .ret ?_
   refine ⟨.bool false, [], Out.one rfl rfl, (Some'.weak (.nil _)), ?_⟩
   show _ = _; simp_all
  have p26 := h26; try simp only [bs] at p26
  simp at h26
  refine .skip ?_
  refine .blockEnd ?_
  refine .region ?_
  refine .m ?_
  refine .u (.int .i64 ((((k : Nat) : Int)) + 1)) (.add rfl rfl rfl (by omega) (by omega)) ?_
  refine .m ?_
  refine .done ?_
  refine .goal ⟨(by repeat (first | exact Same.refl _ _ | refine Same.put rfl ?_ | refine Same.over rfl rfl ?_)), k + 1, ?_, ?_, ?_, ?_⟩
  ·refine ⟨by omega, fun j hj => ?_⟩
   by_cases h : j < k * 2
   ·exact hinv.2 j h
   ·rcases (by omega : j = k * 2 ∨ j = k * 2 + 1) with rfl | rfl <;> simp [h26]
  ·omega
  ·exact ⟨(by first | rfl | (congr 1; omega) | simp), trivial⟩
  ·exact (Some'.weak (.nil _))
 have p14 := h14; try simp only [bs] at p14
 have hkn : k = n := by simp at h14; omega
 have heq : xs = ys := list_ext_ix (by omega) fun j hj => hinv.2 j (by omega)
 refine .exit rfl ?_
 refine .sr ?_
 refine .m ?_
 refine .done ?_
 refine .ret ?_
 refine ⟨.bool true, [], Out.one rfl rfl, (Some'.weak (.nil _)), ?_⟩
 show _ = _; simp_all


theorem eqNodeS_true {va vb : Value} {n m : Nat} {xs ys : List Int} {w : World} (ha : Sl w va 2 n (ints xs)) (hb : Sl w vb 2 m (ints ys)) (he : xs = ys) :
    Calls Try.prog 22 #[va, vb] w (Post No w fun v _ => v = .bool true) :=
  (eqNodeS_spec ha hb).mono fun _ _ ⟨v, H, h1, h2, h3⟩ => ⟨v, H, h1, h2, by simpa [he] using h3⟩

set_option maxHeartbeats 1000000 in
set_option maxRecDepth 20000 in
theorem markNodeS_spec {va : Value} {n : Nat} {xs : List Int} {k : Int} {w : World} (ha : (Res.own va 52 2 n (ints xs)).holds w) (h0 : 0 ≤ k) (hk : k + n * 2 < 4611686018427387904) :
  Calls Try.prog 26 #[va, .int .i64 k] w (Post (Of [.own va 52 2 n (ints xs)]) w fun v H => v = .int .i64 (k + n * 2) ∧ H = [.own va 52 2 n (ints (mks k (n * 2)))]) := by
 have hxl : xs.length = n * 2 := by simpa using ha.1
 have hsl := (St.start1 ha).slOwn (.head _)
 have hn := hsl.le
 obtain ⟨A, c0, rfl, _, _⟩ := hsl.form0
 refine enter (n := 27) (args := [.slice A n c0, .int .i64 k]) Try.func26 rfl rfl (St.start1 ha) ?_
 refine .sr ?_
 refine .m ?_
 refine .done ?_
 refine .seq ?_
 refine .sr ?_
 refine .m ?_
 refine .done ?_
 refine .block ?_
 refine Run.loop (ι := Nat) [1, 5, 6, 7, 8, 9, 10, 11, 12, 13, 14, 15, 16, 17, 18, 19, 20, 21, 22, 23, 24, 25] (fun i => [(1, .int .i64 (k + ((i * 2 : Nat) : Int))), (5, .int .i64 (((i : Nat) : Int)))]) (fun i => [.own (.slice A n c0) 52 2 n (ints (marked k (i * 2) xs))]) (fun i => i ≤ n) (fun i => n - i) 0 ?_ ?_ ?_ ?_
 ·exact Nat.zero_le _
 ·exact ⟨(by show Value.int .i64 k = Value.int .i64 _; simp), rfl, trivial⟩
 ·exact (Some'.weak (.takeEq (by simp only [Nat.zero_mul, marked_zero]) (.nil _)))
 rintro i fr hinv
 show Run _ _ (over _ _ [(1, .int .i64 (k + ((i * 2 : Nat) : Int))), (5, .int .i64 (((i : Nat) : Int)))] fr) [.own (.slice A n c0) 52 2 n (ints (marked k (i * 2) xs))]
 try dsimp only at hinv
 refine .seq ?_
 refine .sr ?_
 iterate 2 refine .m ?_
 refine .u (.int .i64 (((n : Nat) : Int))) (.len Tsl_26 rfl) ?_
 refine .w (.bool (decide ((((i : Nat) : Int)) < (((n : Nat) : Int))))) ?_
 refine .done ?_
 refine .cond (b := decide ((((i : Nat) : Int)) < (((n : Nat) : Int)))) rfl (fun h9 => ?_) (fun h9 => ?_)
 ·have p9 := h9; try simp only [bs] at p9
  have hlt : i < n := by simp at h9; omega
  refine Run.openOwn (.head _) (by omega) (fun g c hvg hcapg _ => ?_) (fun _ _ _ => ⟨nofun, nofun, nofun⟩)
  injection hvg with hAg _ hcg; subst hAg; subst hcg
  refine .skip ?_
  refine .seq ?_
  refine .block ?_
  refine .sr ?_
  iterate 3 refine .m ?_
  refine .u (.pointer (some ⟨g, i * 2, none⟩)) (.ix i Tsl_26) ?_
  refine .fa Tfo_52_0 ?_
  refine .step rfl (.storeOwnInt (o := i * 2) (a := k + ((i * 2 : Nat) : Int)) Tsize_3 rfl rfl (.here _) (by omega) ?_)
  refine .dsr ?_
  refine .m ?_
  refine .u (.int .i64 ((k + ((i * 2 : Nat) : Int)) + 1)) (.add rfl rfl rfl (by omega) (by omega)) ?_
  refine .m ?_
  refine .dsr ?_
  iterate 3 refine .m ?_
  refine .u (.pointer (some ⟨g, i * 2, none⟩)) (.ix i Tsl_26) ?_
  refine .fa Tfo_52_1 ?_
  refine .step rfl (.storeOwnInt (o := i * 2 + 1) (a := (k + ((i * 2 : Nat) : Int)) + 1) Tsize_3 rfl rfl (.here _) (by omega) ?_)
  refine .dr ?_
  refine .m ?_
  refine .u (.int .i64 (((k + ((i * 2 : Nat) : Int)) + 1) + 1)) (.add rfl rfl rfl (by omega) (by omega)) ?_
  refine .m ?_
  refine .done ?_
  refine .blockEnd ?_
  refine .region ?_
  refine .m ?_
  refine .u (.int .i64 ((((i : Nat) : Int)) + 1)) (.add rfl rfl rfl (by omega) (by omega)) ?_
  refine .m ?_
  refine .done ?_
  refine .goal ⟨(by repeat (first | exact Same.refl _ _ | refine Same.put rfl ?_ | refine Same.over rfl rfl ?_)), i + 1, ?_, ?_, ?_, ?_⟩
  ·omega
  ·omega
  ·exact ⟨(by show Value.int _ _ = Value.int _ _; congr 1; omega), rfl, trivial⟩
  ·exact (Some'.weak (.takeEq (congrArg (fun z => Res.own _ _ _ _ (ints z)) (marked_set2 (by omega) (by omega) (by omega))) (.nil _)))
 have p9 := h9; try simp only [bs] at p9
 have hkn : i = n := by simp at h9; omega
 refine .exit rfl ?_
 refine .sr ?_
 iterate 2 refine .m ?_
 refine .done ?_
 refine .ret ?_
 refine ⟨.int .i64 (k + ((i * 2 : Nat) : Int)), [.own (.slice A n c0) 52 2 n (ints (mks k (n * 2)))], Out.one rfl rfl, (Some'.weak (.takeEq (by subst hkn; rw [marked_all hxl]) (.nil _))), ?_⟩
 exact ⟨by subst hkn; simp, rfl⟩

set_option maxHeartbeats 1000000 in
set_option maxRecDepth 20000 in
theorem heldNodeS_spec {va : Value} {n : Nat} {xs : List Int} {k : Int} {w : World} (ha : Sl w va 2 n (ints xs)) (h0 : 0 ≤ k) (hk : k + n * 2 < 4611686018427387904) :
  Calls Try.prog 28 #[va, .int .i64 k] w (Post No w fun v _ => v = .int .i64 (if xs = mks k (n * 2) then k + n * 2 else -1)) := by
 have hxl := ha.len
 have hn := ha.le
 obtain ⟨A, c, rfl, _, _⟩ := ha.form0
 refine enter (n := 31) (args := [.slice A n c, .int .i64 k]) Try.func28 rfl rfl (St.empty _ _) ?_
 refine .sr ?_
 refine .m ?_
 refine .done ?_
 refine .seq ?_
 refine .sr ?_
 refine .m ?_
 refine .done ?_
 refine .block ?_
 refine Run.loop (ι := Nat) [1, 4, 5, 6, 7, 8, 9, 10, 11, 12, 13, 14, 15, 16, 17, 18, 19, 20, 21, 22, 23, 24, 25, 26, 27, 28, 29] (fun i => [(1, .int .i64 (k + ((i * 2 : Nat) : Int))), (5, .int .i64 (((i : Nat) : Int)))]) (fun i => []) (fun i => i ≤ n ∧ ∀ j, j < i * 2 → ix xs j = k + j) (fun i => n - i) 0 ?_ ?_ ?_ ?_
 ·exact ⟨Nat.zero_le _, fun j hj => by omega⟩
 ·exact ⟨(by show Value.int .i64 k = Value.int .i64 _; simp), rfl, trivial⟩
 ·exact (Some'.weak (.nil _))
 rintro i fr hinv
 show Run _ _ (over _ _ [(1, .int .i64 (k + ((i * 2 : Nat) : Int))), (5, .int .i64 (((i : Nat) : Int)))] fr) []
 try dsimp only at hinv
 refine .seq ?_
 refine .sr ?_
 iterate 2 refine .m ?_
 refine .u (.int .i64 (((n : Nat) : Int))) (.len Tsl_26 rfl) ?_
 refine .w (.bool (decide ((((i : Nat) : Int)) < (((n : Nat) : Int))))) ?_
 refine .done ?_
 refine .cond (b := decide ((((i : Nat) : Int)) < (((n : Nat) : Int)))) rfl (fun h9 => ?_) (fun h9 => ?_)
 ·have p9 := h9; try simp only [bs] at p9
  have hlt : i < n := by simp at h9; omega
  obtain ⟨b, o, rfl⟩ := ha.opn (by omega)
  refine .skip ?_
  refine .seq ?_
  refine .block ?_
  refine .seq ?_
  refine .sr ?_
  iterate 2 refine .m ?_
  refine .u (.pointer (some ⟨b, o + i * 2, none⟩)) (.ix i Tsl_26) ?_
  refine .fa Tfo_52_0 ?_
  refine .u (.int .i64 (ix xs (i * 2))) (.load1 Tone_3 rfl (Cells.arg (k := i * 2) ha rfl (by omega) (pre1 (by omega)))) ?_
  refine .m ?_
  refine .w (.bool ((ix xs (i * 2)) != (k + ((i * 2 : Nat) : Int)))) ?_
  refine .done ?_
  refine .cond (b := (ix xs (i * 2)) != (k + ((i * 2 : Nat) : Int))) rfl (fun h18 => ?_) (fun h18 => ?_)
  ·have p18 := h18; try simp only [bs] at p18
   have hne : ¬ xs = mks k (n * 2) := by
    intro e; subst e
    have e1 := ix_mks (k := k) (m := n * 2) (j := i * 2) (by omega)
    rw [e1, bne_iff_ne] at h18; apply h18; omega
   refine .sr ?_
   refine .m ?_
   refine .done ?_
   refine .ret ?_
   refine ⟨.int .i64 (-1), [], Out.one rfl rfl, (Some'.weak (.nil _)), ?_⟩
   show _ = _; first | (rw [if_pos heq]; congr 1; omega) | rw [if_neg hne]
  have p18 := h18; try simp only [bs] at p18
  refine .skip ?_
  refine .sr ?_
  refine .m ?_
  refine .u (.int .i64 ((k + ((i * 2 : Nat) : Int)) + 1)) (.add rfl rfl rfl (by omega) (by omega)) ?_
  refine .m ?_
  refine .done ?_
  refine .seq ?_
  refine .sr ?_
  iterate 2 refine .m ?_
  refine .u (.pointer (some ⟨b, o + i * 2, none⟩)) (.ix i Tsl_26) ?_
  refine .fa Tfo_52_1 ?_
  refine .u (.int .i64 (ix xs (i * 2 + 1))) (.load1 Tone_3 rfl (Cells.arg (k := i * 2 + 1) ha rfl (by omega) (pre1 (by omega)))) ?_
  refine .m ?_
  refine .w (.bool ((ix xs (i * 2 + 1)) != ((k + ((i * 2 : Nat) : Int)) + 1))) ?_
  refine .done ?_
  refine .cond (b := (ix xs (i * 2 + 1)) != ((k + ((i * 2 : Nat) : Int)) + 1)) rfl (fun h27 => ?_) (fun h27 => ?_)
  ·have p27 := h27; try simp only [bs] at p27
   have hne : ¬ xs = mks k (n * 2) := by
    intro e; subst e
    have e1 := ix_mks (k := k) (m := n * 2) (j := i * 2 + 1) (by omega)
    rw [e1, bne_iff_ne] at h27; apply h27; omega
   refine .sr ?_
   refine .m ?_
   refine .done ?_
   refine .ret ?_
   refine ⟨.int .i64 (-1), [], Out.one rfl rfl, (Some'.weak (.nil _)), ?_⟩
   show _ = _; first | (rw [if_pos heq]; congr 1; omega) | rw [if_neg hne]
  have p27 := h27; try simp only [bs] at p27
  refine .skip ?_
  refine .region ?_
  refine .m ?_
  refine .u (.int .i64 (((k + ((i * 2 : Nat) : Int)) + 1) + 1)) (.add rfl rfl rfl (by omega) (by omega)) ?_
  refine .m ?_
  refine .done ?_
  refine .blockEnd ?_
  refine .region ?_
  refine .m ?_
  refine .u (.int .i64 ((((i : Nat) : Int)) + 1)) (.add rfl rfl rfl (by omega) (by omega)) ?_
  refine .m ?_
  refine .done ?_
  refine .goal ⟨(by repeat (first | exact Same.refl _ _ | refine Same.put rfl ?_ | refine Same.over rfl rfl ?_)), i + 1, ?_, ?_, ?_, ?_⟩
  ·refine ⟨by omega, fun j hj => ?_⟩
   by_cases h : j < i * 2
   ·exact hinv.2 j h
   ·simp only [bne_eq_false_iff_eq] at h18 h27
    rcases (by omega : j = i * 2 ∨ j = i * 2 + 1) with rfl | rfl <;> omega
  ·omega
  ·exact ⟨(by show Value.int _ _ = Value.int _ _; congr 1; omega), rfl, trivial⟩
  ·exact (Some'.weak (.nil _))
 have p9 := h9; try simp only [bs] at p9
 have hkn : i = n := by simp at h9; omega
 have heq : xs = mks k (n * 2) := eq_mks hxl fun j hj => hinv.2 j (by omega)
 refine .exit rfl ?_
 refine .sr ?_
 iterate 2 refine .m ?_
 refine .done ?_
 refine .ret ?_
 refine ⟨.int .i64 (k + ((i * 2 : Nat) : Int)), [], Out.one rfl rfl, (Some'.weak (.nil _)), ?_⟩
 show _ = _; first | (rw [if_pos heq]; congr 1; omega) | rw [if_neg hne]


theorem heldNodeS_true {va : Value} {n : Nat} {xs : List Int} {k : Int} {w : World} (ha : Sl w va 2 n (ints xs)) (h0 : 0 ≤ k) (hk : k + n * 2 < 4611686018427387904) (he : xs = mks k (n * 2)) :
    Calls Try.prog 28 #[va, .int .i64 k] w (Post No w fun v _ => v = .int .i64 (k + n * 2)) :=
  (heldNodeS_spec ha h0 hk).mono fun _ _ ⟨v, H, h1, h2, h3⟩ => ⟨v, H, h1, h2, by simpa [he] using h3⟩

end Go.Proofs.Ytnnkoeknejeieaa
