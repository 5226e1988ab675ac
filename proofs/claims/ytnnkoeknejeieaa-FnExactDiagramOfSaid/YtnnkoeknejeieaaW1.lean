/- Walks: small functions. -/
import Derived.Test.YtnnkoeknejeieaaBase
import Derived.Test.YtnnkoeknejeieaaProg
set_option linter.unusedSimpArgs false
set_option linter.unusedVariables false
namespace Go.Proofs.Ytnnkoeknejeieaa
open Go Go.RowKit
namespace W1T
theorem Tagg_54 : aggOf Try.prog 54 = some 3 := by kernel_rfl
theorem Tcall_50 : callable Try.prog 50 = true := by kernel_rfl
theorem Tfo_54_0 : fieldOff Try.prog 54 0 = some 0 := by kernel_rfl
theorem Tfo_54_1 : fieldOff Try.prog 54 1 = some 1 := by kernel_rfl
theorem Tfo_54_2 : fieldOff Try.prog 54 2 = some 2 := by kernel_rfl
theorem Tone_3 : oneOf Try.prog 3 = true := by kernel_rfl
theorem Tsize_3 : (Try.prog.info? 3).map (·.size) = some 1 := by kernel_rfl
theorem Tsl_32 : sliceOf Try.prog 32 = some (54, 3, 24, [.int .i64 0, .int .i64 0, .int .i64 0]) := by kernel_rfl
end W1T
open W1T
set_option maxHeartbeats 1000000 in
set_option maxRecDepth 20000 in
theorem within_spec (x lo hi : Int) (w : World) : Calls Try.prog 38 #[.int .i64 x, .int .i64 lo, .int .i64 hi] w (Post No w fun v _ => v = .bool (within x lo hi)) := by
 refine enter (n := 15) (args := [.int .i64 x, .int .i64 lo, .int .i64 hi]) Try.func38 rfl rfl (St.empty _ _) ?_
 refine .sr ?_
 refine .m ?_
 refine .dsr ?_
 iterate 2 refine .m ?_
 refine .w (.bool (decide (lo ≤ x))) ?_
 rcases Bool.eq_false_or_eq_true (decide (lo ≤ x)) with h10 | h10
 ·refine .mb h10 ?_
  have p10 := h10; try simp only [bs] at p10
  iterate 2 refine .m ?_
  refine .w (.bool (decide (x ≤ hi))) ?_
  refine .w (.bool (decide (x ≤ hi))) ?_
  refine .m ?_
  refine .done ?_
  refine .ret ?_
  refine ⟨.bool (decide (x ≤ hi)), [], Out.one rfl rfl, (Some'.weak (.nil _)), ?_⟩
  show _ = _; simp [within, *]
 refine .mb h10 ?_
 have p10 := h10; try simp only [bs] at p10
 iterate 3 refine .pass rfl ?_
 refine .w (.bool false) ?_
 refine .m ?_
 refine .done ?_
 refine .ret ?_
 refine ⟨.bool false, [], Out.one rfl rfl, (Some'.weak (.nil _)), ?_⟩
 show _ = _; simp [within, *]

set_option maxHeartbeats 1000000 in
set_option maxRecDepth 20000 in
theorem l1In_spec (x lo hi : Int) (w : World) : Calls Try.prog 30 #[.int .i64 x, .int .i64 lo, .int .i64 hi] w (Post No w fun v _ => v = .bool (within x lo hi)) := by
 refine enter (n := 15) (args := [.int .i64 x, .int .i64 lo, .int .i64 hi]) Try.func30 rfl rfl (St.empty _ _) ?_
 refine .sr ?_
 refine .m ?_
 refine .dsr ?_
 iterate 2 refine .m ?_
 refine .w (.bool (decide (x ≥ lo))) ?_
 rcases Bool.eq_false_or_eq_true (decide (x ≥ lo)) with h10 | h10
 ·refine .mb h10 ?_
  have p10 := h10; try simp only [bs] at p10
  iterate 2 refine .m ?_
  refine .w (.bool (decide (x ≤ hi))) ?_
  refine .w (.bool (decide (x ≤ hi))) ?_
  refine .m ?_
  refine .done ?_
  refine .ret ?_
  refine ⟨.bool (decide (x ≤ hi)), [], Out.one rfl rfl, (Some'.weak (.nil _)), ?_⟩
  show _ = _; simp_all [within] <;> omega
 refine .mb h10 ?_
 have p10 := h10; try simp only [bs] at p10
 iterate 3 refine .pass rfl ?_
 refine .w (.bool false) ?_
 refine .m ?_
 refine .done ?_
 refine .ret ?_
 refine ⟨.bool false, [], Out.one rfl rfl, (Some'.weak (.nil _)), ?_⟩
 show _ = _; simp_all [within] <;> omega

set_option maxHeartbeats 1000000 in
set_option maxRecDepth 20000 in
theorem eqGate_spec (x0 x1 x2 y0 y1 y2 : Int) (w : World) : Calls Try.prog 50 #[.agg #[.int .i64 x0, .int .i64 x1, .int .i64 x2], .agg #[.int .i64 y0, .int .i64 y1, .int .i64 y2]] w (Post No w fun v _ => v = .bool (decide ([x0, x1, x2] = [y0, y1, y2]))) := by
 refine enter (n := 20) (args := [.agg #[.int .i64 x0, .int .i64 x1, .int .i64 x2], .agg #[.int .i64 y0, .int .i64 y1, .int .i64 y2]]) Try.func50 rfl rfl (St.empty _ _) ?_
 refine .sr ?_
 refine .step rfl (.box (us := [.int .i64 x0, .int .i64 x1, .int .i64 x2]) rfl fun b1 => ?_)
 refine .step rfl (.box (us := [.int .i64 y0, .int .i64 y1, .int .i64 y2]) rfl fun b2 => ?_)
 refine .m ?_
 refine .done ?_
 refine .seq ?_
 refine .sr ?_
 refine .fa Tfo_54_0 ?_
 refine .u (.int .i64 x0) (.load1 Tone_3 rfl (.b (.tail _ (.head _)))) ?_
 refine .fa Tfo_54_0 ?_
 refine .u (.int .i64 y0) (.load1 Tone_3 rfl (.b (.head _))) ?_
 refine .w (.bool (x0 != y0)) ?_
 refine .done ?_
 refine .cond (b := x0 != y0) rfl (fun h9 => ?_) (fun h9 => ?_)
 ·have p9 := h9; try simp only [bs] at p9
  refine .sr ?_
  refine .m ?_
  refine .done ?_
  refine .ret ?_
  refine ⟨.bool false, [], Out.one rfl rfl, (Some'.weak (.nil _)), ?_⟩
  show _ = _; simp_all
 have p9 := h9; try simp only [bs] at p9
 refine .skip ?_
 refine .seq ?_
 refine .sr ?_
 refine .fa Tfo_54_1 ?_
 refine .u (.int .i64 x1) (.load1 Tone_3 rfl (.b (.tail _ (.head _)))) ?_
 refine .fa Tfo_54_1 ?_
 refine .u (.int .i64 y1) (.load1 Tone_3 rfl (.b (.head _))) ?_
 refine .w (.bool (x1 != y1)) ?_
 refine .done ?_
 refine .cond (b := x1 != y1) rfl (fun h14 => ?_) (fun h14 => ?_)
 ·have p14 := h14; try simp only [bs] at p14
  refine .sr ?_
  refine .m ?_
  refine .done ?_
  refine .ret ?_
  refine ⟨.bool false, [], Out.one rfl rfl, (Some'.weak (.nil _)), ?_⟩
  show _ = _; simp_all
 have p14 := h14; try simp only [bs] at p14
 refine .skip ?_
 refine .seq ?_
 refine .sr ?_
 refine .fa Tfo_54_2 ?_
 refine .u (.int .i64 x2) (.load1 Tone_3 rfl (.b (.tail _ (.head _)))) ?_
 refine .fa Tfo_54_2 ?_
 refine .u (.int .i64 y2) (.load1 Tone_3 rfl (.b (.head _))) ?_
 refine .w (.bool (x2 != y2)) ?_
 refine .done ?_
 refine .cond (b := x2 != y2) rfl (fun h19 => ?_) (fun h19 => ?_)
 ·have p19 := h19; try simp only [bs] at p19
  refine .sr ?_
  refine .m ?_
  refine .done ?_
  refine .ret ?_
  refine ⟨.bool false, [], Out.one rfl rfl, (Some'.weak (.nil _)), ?_⟩
  show _ = _; simp_all
 have p19 := h19; try simp only [bs] at p19
 refine .skip ?_
 refine .sr ?_
 refine .m ?_
 refine .done ?_
 refine .ret ?_
 refine ⟨.bool true, [], Out.one rfl rfl, (Some'.weak (.nil _)), ?_⟩
 show _ = _; simp_all

set_option maxHeartbeats 1000000 in
set_option maxRecDepth 20000 in
theorem eqGateS_spec {va vb : Value} {n m : Nat} {xs ys : List Int} {w : World} (ha : Sl w va 3 n (ints xs)) (hb : Sl w vb 3 m (ints ys)) :
  Calls Try.prog 24 #[va, vb] w (Post No w fun v _ => v = .bool (decide (xs = ys))) := by
 have hxl := ha.len
 have hyl := hb.len
 have hn := ha.le
 obtain ⟨A, c, rfl, _, _⟩ := ha.form0
 obtain ⟨B, d, rfl, _, _⟩ := hb.form0
 refine enter (n := 27) (args := [.slice A n c, .slice B m d]) Try.func24 rfl rfl (St.empty _ _) ?_
 refine .sr ?_
 refine .m ?_
 refine .done ?_
 refine .seq ?_
 refine .sr ?_
 refine .m ?_
 refine .u (.int .i64 (((n : Nat) : Int))) (.len Tsl_32 rfl) ?_
 refine .m ?_
 refine .u (.int .i64 (((m : Nat) : Int))) (.len Tsl_32 rfl) ?_
 refine .w (.bool ((((n : Nat) : Int)) != (((m : Nat) : Int)))) ?_
 refine .done ?_
 refine .cond (b := (((n : Nat) : Int)) != (((m : Nat) : Int))) rfl (fun h10 => ?_) (fun h10 => ?_)
 ·have p10 := h10; try simp only [bs] at p10
  have hne : ¬ xs = ys := by intro e; subst e; simp at h10; omega
  refine .sr ?_
  refine .m ?_
  refine .done ?_
  refine .ret ?_
  refine ⟨.bool false, [], Out.one rfl rfl, (Some'.weak (.nil _)), ?_⟩
  show _ = _; simp_all
 have p10 := h10; try simp only [bs] at p10
 have hnm : m = n := by simp at h10; omega
 have hyl2 : ys.length = n * 3 := by rw [hyl, hnm]
 refine .skip ?_
 refine .seq ?_
 refine .sr ?_
 refine .m ?_
 refine .done ?_
 refine .block ?_
 refine Run.loop (ι := Nat) [4, 5, 11, 12, 13, 14, 15, 16, 17, 18, 19, 20, 21, 22, 23, 24, 25, 26] (fun k => [(5, .int .i64 (((k : Nat) : Int)))]) (fun k => []) (fun k => k ≤ n ∧ ∀ j, j < k * 3 → ix xs j = ix ys j) (fun k => n - k) 0 ?_ ?_ ?_ ?_
 ·exact ⟨Nat.zero_le _, fun j hj => by omega⟩
 ·exact ⟨rfl, trivial⟩
 ·exact (Some'.weak (.nil _))
 rintro k fr hinv
 show Run _ _ (over _ _ [(5, .int .i64 (((k : Nat) : Int)))] fr) []
 try dsimp only at hinv
 refine .seq ?_
 refine .sr ?_
 iterate 2 refine .m ?_
 refine .u (.int .i64 (((n : Nat) : Int))) (.len Tsl_32 rfl) ?_
 refine .w (.bool (decide ((((k : Nat) : Int)) < (((n : Nat) : Int))))) ?_
 refine .done ?_
 refine .cond (b := decide ((((k : Nat) : Int)) < (((n : Nat) : Int)))) rfl (fun h14 => ?_) (fun h14 => ?_)
 ·have p14 := h14; try simp only [bs] at p14
  have hlt : k < n := by simp at h14; omega
  obtain ⟨b, o, rfl⟩ := ha.opn (by omega)
  obtain ⟨b2, o2, rfl⟩ := hb.opn (by omega)
  refine .skip ?_
  refine .seq ?_
  refine .block ?_
  refine .seq ?_
  refine .draws (by kernel_rfl) (by kernel_rfl) ?_
  iterate 2 refine .m ?_
  refine .u (.pointer (some ⟨b, o + k * 3, none⟩)) (.ix k Tsl_32) ?_
  refine .u (.agg #[.int .i64 (ix xs (k * 3)), .int .i64 (ix xs (k * 3 + 1)), .int .i64 (ix xs (k * 3 + 2))]) (.loadN (cs := [.int .i64 (ix xs (k * 3)), .int .i64 (ix xs (k * 3 + 1)), .int .i64 (ix xs (k * 3 + 2))]) Tagg_54 rfl (Cells.arg (k := k * 3) ha rfl (by omega) (pre3 (by omega)))) ?_
  iterate 2 refine .m ?_
  refine .u (.pointer (some ⟨b2, o2 + k * 3, none⟩)) (.ix k Tsl_32) ?_
  refine .u (.agg #[.int .i64 (ix ys (k * 3)), .int .i64 (ix ys (k * 3 + 1)), .int .i64 (ix ys (k * 3 + 2))]) (.loadN (cs := [.int .i64 (ix ys (k * 3)), .int .i64 (ix ys (k * 3 + 1)), .int .i64 (ix ys (k * 3 + 2))]) Tagg_54 rfl (Cells.arg (k := k * 3) hb rfl (by omega) (pre3 (by omega)))) ?_
  refine Lex.q (v := .bool (decide ([ix xs (k * 3), ix xs (k * 3 + 1), ix xs (k * 3 + 2)] = [ix ys (k * 3), ix ys (k * 3 + 1), ix ys (k * 3 + 2)]))) rfl (OpQ.call (vs := [.agg #[.int .i64 (ix xs (k * 3)), .int .i64 (ix xs (k * 3 + 1)), .int .i64 (ix xs (k * 3 + 2))], .agg #[.int .i64 (ix ys (k * 3)), .int .i64 (ix ys (k * 3 + 1)), .int .i64 (ix ys (k * 3 + 2))]]) (caps := []) Tcall_50 rfl rfl (fun w hs => eqGate_spec _ _ _ _ _ _ w)) ?_
  refine .w (.bool (!(decide ([ix xs (k * 3), ix xs (k * 3 + 1), ix xs (k * 3 + 2)] = [ix ys (k * 3), ix ys (k * 3 + 1), ix ys (k * 3 + 2)])))) ?_
  refine .done ?_
  refine .cond (b := !(decide ([ix xs (k * 3), ix xs (k * 3 + 1), ix xs (k * 3 + 2)] = [ix ys (k * 3), ix ys (k * 3 + 1), ix ys (k * 3 + 2)]))) rfl (fun h26 => ?_) (fun h26 => ?_)
  ·have p26 := h26; try simp only [bs] at p26
   have hne : ¬ xs = ys := by intro e; subst e; simp at h26
   refine .sr ?_
   refine .m ?_
   refine .done ?_
   refine .ret ?_
   refine ⟨.bool false, [], Out.one rfl rfl, (Some'.weak (.nil _)), ?_⟩
   show _ = _; simp_all
  have p26 := h26; try simp only [bs] at p26
  simp at h26
  refine .skip ?_
  refine .blockEnd ?_
  refine .region ?_
  refine .m ?_
  refine .u (.int .i64 ((((k : Nat) : Int)) + 1)) (.add rfl rfl rfl (by omega) (by omega)) ?_
  refine .m ?_
  refine .done ?_
  refine .goal ⟨(by repeat (first | exact Same.refl _ _ | refine Same.put rfl ?_ | refine Same.over rfl rfl ?_)), k + 1, ?_, ?_, ?_, ?_⟩
  ·refine ⟨by omega, fun j hj => ?_⟩
   by_cases h : j < k * 3
   ·exact hinv.2 j h
   ·rcases (by omega : j = k * 3 ∨ j = k * 3 + 1 ∨ j = k * 3 + 2) with rfl | rfl | rfl <;> simp [h26]
  ·omega
  ·exact ⟨(by first | rfl | (congr 1; omega) | simp), trivial⟩
  ·exact (Some'.weak (.nil _))
 have p14 := h14; try simp only [bs] at p14
 have hkn : k = n := by simp at h14; omega
 have heq : xs = ys := list_ext_ix (by omega) fun j hj => hinv.2 j (by omega)
 refine .exit rfl ?_
 refine .sr ?_
 refine .m ?_
 refine .done ?_
 refine .ret ?_
 refine ⟨.bool true, [], Out.one rfl rfl, (Some'.weak (.nil _)), ?_⟩
 show _ = _; simp_all


theorem eqGateS_true {va vb : Value} {n m : Nat} {xs ys : List Int} {w : World} (ha : Sl w va 3 n (ints xs)) (hb : Sl w vb 3 m (ints ys)) (he : xs = ys) :
    Calls Try.prog 24 #[va, vb] w (Post No w fun v _ => v = .bool true) :=
  (eqGateS_spec ha hb).mono fun _ _ ⟨v, H, h1, h2, h3⟩ => ⟨v, H, h1, h2, by simpa [he] using h3⟩

set_option maxHeartbeats 1000000 in
set_option maxRecDepth 20000 in
theorem markGateS_spec {va : Value} {n : Nat} {xs : List Int} {k : Int} {w : World} (ha : (Res.own va 54 3 n (ints xs)).holds w) (h0 : 0 ≤ k) (hk : k + n * 3 < 4611686018427387904) :
  Calls Try.prog 25 #[va, .int .i64 k] w (Post (Of [.own va 54 3 n (ints xs)]) w fun v H => v = .int .i64 (k + n * 3) ∧ H = [.own va 54 3 n (ints (mks k (n * 3)))]) := by
 have hxl : xs.length = n * 3 := by simpa using ha.1
 have hsl := (St.start1 ha).slOwn (.head _)
 have hn := hsl.le
 obtain ⟨A, c0, rfl, _, _⟩ := hsl.form0
 refine enter (n := 34) (args := [.slice A n c0, .int .i64 k]) Try.func25 rfl rfl (St.start1 ha) ?_
 refine .sr ?_
 refine .m ?_
 refine .done ?_
 refine .seq ?_
 refine .sr ?_
 refine .m ?_
 refine .done ?_
 refine .block ?_
 refine Run.loop (ι := Nat) [1, 5, 6, 7, 8, 9, 10, 11, 12, 13, 14, 15, 16, 17, 18, 19, 20, 21, 22, 23, 24, 25, 26, 27, 28, 29, 30, 31, 32] (fun i => [(1, .int .i64 (k + ((i * 3 : Nat) : Int))), (5, .int .i64 (((i : Nat) : Int)))]) (fun i => [.own (.slice A n c0) 54 3 n (ints (marked k (i * 3) xs))]) (fun i => i ≤ n) (fun i => n - i) 0 ?_ ?_ ?_ ?_
 ·exact Nat.zero_le _
 ·exact ⟨(by show Value.int .i64 k = Value.int .i64 _; simp), rfl, trivial⟩
 ·exact (Some'.weak (.takeEq (by simp only [Nat.zero_mul, marked_zero]) (.nil _)))
 rintro i fr hinv
 show Run _ _ (over _ _ [(1, .int .i64 (k + ((i * 3 : Nat) : Int))), (5, .int .i64 (((i : Nat) : Int)))] fr) [.own (.slice A n c0) 54 3 n (ints (marked k (i * 3) xs))]
 try dsimp only at hinv
 refine .seq ?_
 refine .sr ?_
 iterate 2 refine .m ?_
 refine .u (.int .i64 (((n : Nat) : Int))) (.len Tsl_32 rfl) ?_
 refine .w (.bool (decide ((((i : Nat) : Int)) < (((n : Nat) : Int))))) ?_
 refine .done ?_
 refine .cond (b := decide ((((i : Nat) : Int)) < (((n : Nat) : Int)))) rfl (fun h9 => ?_) (fun h9 => ?_)
 ·have p9 := h9; try simp only [bs] at p9
  have hlt : i < n := by simp at h9; omega
  refine Run.openOwn (.head _) (by omega) (fun g c hvg hcapg _ => ?_) (fun _ _ _ => ⟨nofun, nofun, nofun⟩)
  injection hvg with hAg _ hcg; subst hAg; subst hcg
  refine .skip ?_
  refine .seq ?_
  refine .block ?_
  refine .sr ?_
  iterate 3 refine .m ?_
  refine .u (.pointer (some ⟨g, i * 3, none⟩)) (.ix i Tsl_32) ?_
  refine .fa Tfo_54_0 ?_
  refine .step rfl (.storeOwnInt (o := i * 3) (a := k + ((i * 3 : Nat) : Int)) Tsize_3 rfl rfl (.here _) (by omega) ?_)
  refine .dsr ?_
  refine .m ?_
  refine .u (.int .i64 ((k + ((i * 3 : Nat) : Int)) + 1)) (.add rfl rfl rfl (by omega) (by omega)) ?_
  refine .m ?_
  refine .dsr ?_
  iterate 3 refine .m ?_
  refine .u (.pointer (some ⟨g, i * 3, none⟩)) (.ix i Tsl_32) ?_
  refine .fa Tfo_54_1 ?_
  refine .step rfl (.storeOwnInt (o := i * 3 + 1) (a := (k + ((i * 3 : Nat) : Int)) + 1) Tsize_3 rfl rfl (.here _) (by omega) ?_)
  refine .dsr ?_
  refine .m ?_
  refine .u (.int .i64 (((k + ((i * 3 : Nat) : Int)) + 1) + 1)) (.add rfl rfl rfl (by omega) (by omega)) ?_
  refine .m ?_
  refine .dsr ?_
  iterate 3 refine .m ?_
  refine .u (.pointer (some ⟨g, i * 3, none⟩)) (.ix i Tsl_32) ?_
  refine .fa Tfo_54_2 ?_
  refine .step rfl (.storeOwnInt (o := i * 3 + 2) (a := ((k + ((i * 3 : Nat) : Int)) + 1) + 1) Tsize_3 rfl rfl (.here _) (by omega) ?_)
  refine .dr ?_
  refine .m ?_
  refine .u (.int .i64 ((((k + ((i * 3 : Nat) : Int)) + 1) + 1) + 1)) (.add rfl rfl rfl (by omega) (by omega)) ?_
  refine .m ?_
  refine .done ?_
  refine .blockEnd ?_
  refine .region ?_
  refine .m ?_
  refine .u (.int .i64 ((((i : Nat) : Int)) + 1)) (.add rfl rfl rfl (by omega) (by omega)) ?_
  refine .m ?_
  refine .done ?_
  refine .goal ⟨(by repeat (first | exact Same.refl _ _ | refine Same.put rfl ?_ | refine Same.over rfl rfl ?_)), i + 1, ?_, ?_, ?_, ?_⟩
  ·omega
  ·omega
  ·exact ⟨(by show Value.int _ _ = Value.int _ _; congr 1; omega), rfl, trivial⟩
  ·exact (Some'.weak (.takeEq (congrArg (fun z => Res.own _ _ _ _ (ints z)) (marked_set3 (by omega) (by omega) (by omega) (by omega))) (.nil _)))
 have p9 := h9; try simp only [bs] at p9
 have hkn : i = n := by simp at h9; omega
 refine .exit rfl ?_
 refine .sr ?_
 iterate 2 refine .m ?_
 refine .done ?_
 refine .ret ?_
 refine ⟨.int .i64 (k + ((i * 3 : Nat) : Int)), [.own (.slice A n c0) 54 3 n (ints (mks k (n * 3)))], Out.one rfl rfl, (Some'.weak (.takeEq (by subst hkn; rw [marked_all hxl]) (.nil _))), ?_⟩
 exact ⟨by subst hkn; simp, rfl⟩

end Go.Proofs.Ytnnkoeknejeieaa
