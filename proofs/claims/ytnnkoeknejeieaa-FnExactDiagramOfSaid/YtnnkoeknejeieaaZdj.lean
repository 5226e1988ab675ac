/- Valid diagrams: plain functions, walks of the program. -/
import Derived.Test.YtnnkoeknejeieaaZdb
import Derived.Test.YtnnkoeknejeieaaZdc
import Derived.Test.YtnnkoeknejeieaaZdd
import Derived.Test.YtnnkoeknejeieaaProg
set_option linter.unusedSimpArgs false
set_option linter.unusedVariables false
namespace Go.Proofs.Ytnnkoeknejeieaa
open Go Go.RowKit
namespace ZdjT
theorem Tagg_29 : aggOf Try.prog 29 = some 5 := by kernel_rfl
theorem Tagg_52 : aggOf Try.prog 52 = some 2 := by kernel_rfl
theorem Tcall_38 : callable Try.prog 38 = true := by kernel_rfl
theorem Tcall_64 : callable Try.prog 64 = true := by kernel_rfl
theorem Tcall_65 : callable Try.prog 65 = true := by kernel_rfl
theorem Tcall_80 : callable Try.prog 80 = true := by kernel_rfl
theorem Tcall_81 : callable Try.prog 81 = true := by kernel_rfl
theorem Tcall_93 : callable Try.prog 93 = true := by kernel_rfl
theorem Tfo_29_0 : fieldOff Try.prog 29 0 = some 0 := by kernel_rfl
theorem Tfo_29_1 : fieldOff Try.prog 29 1 = some 1 := by kernel_rfl
theorem Tfo_52_0 : fieldOff Try.prog 52 0 = some 0 := by kernel_rfl
theorem Tfo_52_1 : fieldOff Try.prog 52 1 = some 1 := by kernel_rfl
theorem Tns_52_2 : numStruct Try.prog 52 2 = true := by kernel_rfl
theorem Tone_26 : oneOf Try.prog 26 = true := by kernel_rfl
theorem Tone_3 : oneOf Try.prog 3 = true := by kernel_rfl
theorem Tsize_52 : (Try.prog.info? 52).map (·.size) = some 2 := by kernel_rfl
theorem Tsl_26 : sliceOf Try.prog 26 = some (52, 2, 16, [.int .i64 0, .int .i64 0]) := by kernel_rfl
theorem Tzero_52 : zeroOf Try.prog 52 = some [.int .i64 0, .int .i64 0] := by kernel_rfl
end ZdjT
open ZdjT

/-- A node is valid. -/
def isNd (Q : Int) (x : N2) : Bool := if x.1 = 0 then x.2 == 0 else if x.1 = 1 ∨ x.1 = 2 then within x.2 0 (Q - 1) else if x.1 = 3 then within x.2 0 7 else false
def isN (k p : Int) (x : N2) : Bool := (x.1 == k) && (x.2 == p)
theorem isN_iff {k p : Int} {x : N2} : isN k p x = true ↔ x.1 = k ∧ x.2 = p := by simp [isN]
theorem isN_list (k p a b : Int) : decide ([k, p] = [a, b]) = isN k p (a, b) := by
  rw [Bool.eq_iff_iff, isN_iff]; simp; constructor <;> (rintro ⟨rfl, rfl⟩; exact ⟨rfl, rfl⟩)
def fdN (L : List N2) (k p : Int) : Int := findI (fun i => isN k p (ndx L i)) L.length
def isE (x : N2) : Bool := (x.1 == 1) || (x.1 == 2)
def cntE (L : List N2) : Nat := cntN (fun i => isE (ndx L i)) L.length
def endsP (Q : Nat) (L : List N2) : Bool := allI (fun q => decide (0 ≤ fdN L 1 q) && decide (0 ≤ fdN L 2 q)) Q && ((cntE L : Int) == 2 * (Q : Int))
/-- A wire is valid. -/
def wOk (m : Nat) (L : List W3) (i : Nat) : Bool := decide (0 ≤ (wx L i).1) && decide ((wx L i).1 < (wx L i).2.1) && decide ((wx L i).2.1 < m) && (decide (i = 0) || wlt (wx L (i - 1)) (wx L i))
/-- A node has the wires that its kind asks for. -/
def dgOk (L : List N2) (ws : List W3) (k : Nat) : Bool := if (ndx L k).1 = 0 then degW ws k == 0 else if (ndx L k).1 = 1 ∨ (ndx L k).1 = 2 then degW ws k == 1 else true
def gdP (Q : Nat) (L : List N2) (ws : List W3) (t rt : Int) : Bool := decide (L.length ≤ 40) && within t 0 7 && within rt (-60) 60 && allI (fun i => isNd Q (ndx L i)) L.length && endsP Q L && allI (wOk L.length ws) ws.length && allI (dgOk L ws) L.length
theorem cw_ge (x y : W3) : decide (cwW x y ≥ 0) = !wlt x y := by
  rw [← ltW x y]; unfold Go.Proofs.ltOf
  by_cases h : cwW x y < 0
  · simp [h]
  · simp [h]; omega
theorem compareWires_spec (x1 x2 : Int) (x3 : Bool) (y1 y2 : Int) (y3 : Bool) (w : World) : Calls Try.prog 62 #[.agg #[.int .i64 x1, .int .i64 x2, .bool x3], .agg #[.int .i64 y1, .int .i64 y2, .bool y3]] w (Post No w fun v _ => v = .int .i64 (cwW (x1, x2, x3) (y1, y2, y3))) := by
  refine (cw_k (x1, x2, x3) (y1, y2, y3) w).mono ?_
  rintro e w' ⟨rfl, q, os, rfl⟩
  refine ⟨_, [], rfl, ⟨rfl, rfl, rfl, ?_, ?_, (fun _ h => nomatch h), (fun _ h => nomatch h), List.Pairwise.nil⟩, rfl⟩
  · show w.heap.size ≤ (w.heap ++ os).size
    simp
  · intro k hk _
    show (w.heap ++ os)[k]? = _
    rw [Array.getElem?_append_left hk]

set_option maxHeartbeats 1000000 in
set_option maxRecDepth 20000 in
theorem isNode_spec {Q : Nat} (hQ : 1 ≤ Q ∧ Q ≤ 5) (x1 x2 : Int) (w : World) : Calls Try.prog 65 #[.int .i64 (Q : Nat), .agg #[.int .i64 x1, .int .i64 x2]] w (Post No w fun v _ => v = .bool (isNd Q (x1, x2))) := by
 refine enter (n := 25) (args := [.int .i64 (((Q : Nat) : Int)), .agg #[.int .i64 x1, .int .i64 x2]]) Try.func65 rfl rfl (St.empty _ _) ?_
 refine .sr ?_
 refine .step rfl (.box (us := [.int .i64 x1, .int .i64 x2]) rfl fun b1 => ?_)
 refine .m ?_
 refine .done ?_
 refine .seq ?_
 refine .sr ?_
 refine .fa Tfo_52_0 ?_
 refine .u (.int .i64 x1) (.load1 Tone_3 rfl (.b (.head _))) ?_
 refine .done ?_
 refine .block ?_
 refine .sr ?_
 refine .w (.bool (x1 == 0)) ?_
 refine .m ?_
 refine .done ?_
 refine .cond (b := x1 == 0) rfl (fun h7 => ?_) (fun h7 => ?_)
 ·have p7 := h7; try simp only [bs] at p7
  refine .sr ?_
  refine .fa Tfo_52_1 ?_
  refine .u (.int .i64 x2) (.load1 Tone_3 rfl (.b (.head _))) ?_
  refine .w (.bool (x2 == 0)) ?_
  refine .m ?_
  refine .done ?_
  refine .ret ?_
  refine ⟨.bool (x2 == 0), [], Out.one rfl rfl, (Some'.weak (.nil _)), ?_⟩
  show _ = _; simp_all [isNd]
 have p7 := h7; try simp only [bs] at p7
 refine .seq ?_
 refine .sr ?_
 refine .w (.bool (x1 == 1)) ?_
 refine .m ?_
 refine .done ?_
 refine .cond (b := x1 == 1) rfl (fun h12 => ?_) (fun h12 => ?_)
 ·have p12 := h12; try simp only [bs] at p12
  refine .skip ?_
  refine .cond (b := x1 == 1) rfl (fun h12 => ?_) (fun h12 => ?_)
  ·have p12 := h12; try simp only [bs] at p12
   refine .sr ?_
   refine .fa Tfo_52_1 ?_
   refine .u (.int .i64 x2) (.load1 Tone_3 rfl (.b (.head _))) ?_
   refine .m ?_
   refine .u (.int .i64 ((((Q : Nat) : Int)) - 1)) (.sub rfl rfl rfl (by omega) (by omega)) ?_
   refine .c (.bool (within x2 0 ((((Q : Nat) : Int)) - 1))) [.int .i64 x2, .int .i64 0, .int .i64 ((((Q : Nat) : Int)) - 1)] Tcall_38 (fun w hs => within_spec _ _ _ w) ?_
   refine .m ?_
   refine .done ?_
   refine .ret ?_
   refine ⟨.bool (within x2 0 ((((Q : Nat) : Int)) - 1)), [], Out.one rfl rfl, (Some'.weak (.nil _)), ?_⟩
   show _ = _; simp_all [isNd]
  have p12 := h12; try simp only [bs] at p12
  refine .sr ?_
  refine .w (.bool (x1 == 3)) ?_
  refine .m ?_
  refine .done ?_
  refine .cond (b := x1 == 3) rfl (fun h20 => ?_) (fun h20 => ?_)
  ·have p20 := h20; try simp only [bs] at p20
   refine .sr ?_
   refine .fa Tfo_52_1 ?_
   refine .u (.int .i64 x2) (.load1 Tone_3 rfl (.b (.head _))) ?_
   refine .c (.bool (within x2 0 7)) [.int .i64 x2, .int .i64 0, .int .i64 7] Tcall_38 (fun w hs => within_spec _ _ _ w) ?_
   refine .m ?_
   refine .done ?_
   refine .ret ?_
   refine ⟨.bool (within x2 0 7), [], Out.one rfl rfl, (Some'.weak (.nil _)), ?_⟩
   show _ = _; simp_all [isNd]
  have p20 := h20; try simp only [bs] at p20
  refine .skip ?_
  refine .blockEnd ?_
  refine .sr ?_
  refine .m ?_
  refine .done ?_
  refine .ret ?_
  refine ⟨.bool false, [], Out.one rfl rfl, (Some'.weak (.nil _)), ?_⟩
  show _ = _; simp_all [isNd]
 have p12 := h12; try simp only [bs] at p12
 refine .region ?_
 refine .w (.bool (x1 == 2)) ?_
 refine .m ?_
 refine .done ?_
 refine .cond (b := x1 == 2) rfl (fun h12 => ?_) (fun h12 => ?_)
 ·have p12 := h12; try simp only [bs] at p12
  refine .sr ?_
  refine .fa Tfo_52_1 ?_
  refine .u (.int .i64 x2) (.load1 Tone_3 rfl (.b (.head _))) ?_
  refine .m ?_
  refine .u (.int .i64 ((((Q : Nat) : Int)) - 1)) (.sub rfl rfl rfl (by omega) (by omega)) ?_
  refine .c (.bool (within x2 0 ((((Q : Nat) : Int)) - 1))) [.int .i64 x2, .int .i64 0, .int .i64 ((((Q : Nat) : Int)) - 1)] Tcall_38 (fun w hs => within_spec _ _ _ w) ?_
  refine .m ?_
  refine .done ?_
  refine .ret ?_
  refine ⟨.bool (within x2 0 ((((Q : Nat) : Int)) - 1)), [], Out.one rfl rfl, (Some'.weak (.nil _)), ?_⟩
  show _ = _; simp_all [isNd]
 have p12 := h12; try simp only [bs] at p12
 refine .sr ?_
 refine .w (.bool (x1 == 3)) ?_
 refine .m ?_
 refine .done ?_
 refine .cond (b := x1 == 3) rfl (fun h20 => ?_) (fun h20 => ?_)
 ·have p20 := h20; try simp only [bs] at p20
  refine .sr ?_
  refine .fa Tfo_52_1 ?_
  refine .u (.int .i64 x2) (.load1 Tone_3 rfl (.b (.head _))) ?_
  refine .c (.bool (within x2 0 7)) [.int .i64 x2, .int .i64 0, .int .i64 7] Tcall_38 (fun w hs => within_spec _ _ _ w) ?_
  refine .m ?_
  refine .done ?_
  refine .ret ?_
  refine ⟨.bool (within x2 0 7), [], Out.one rfl rfl, (Some'.weak (.nil _)), ?_⟩
  show _ = _; simp_all [isNd]
 have p20 := h20; try simp only [bs] at p20
 refine .skip ?_
 refine .blockEnd ?_
 refine .sr ?_
 refine .m ?_
 refine .done ?_
 refine .ret ?_
 refine ⟨.bool false, [], Out.one rfl rfl, (Some'.weak (.nil _)), ?_⟩
 show _ = _; simp_all [isNd]

set_option maxHeartbeats 1000000 in
set_option maxRecDepth 20000 in
theorem isNClo_spec {Q : Nat} {p : Nat} {vn vw : Value} {t r : Int} {x1 x2 : Int} {w : World} (hQ : 1 ≤ Q ∧ Q ≤ 5) (hc : Sl w (.slice (some ⟨p, 0, none⟩) 1 1) 5 1 [.int .i64 (Q : Nat), vn, vw, .int .i64 t, .int .i64 r]) : Calls Try.prog 64 #[.agg #[.int .i64 x1, .int .i64 x2], .pointer (some ⟨p, 0, none⟩)] w (Post No w fun v _ => v = .bool (!isNd Q (x1, x2))) := by
 refine enter (n := 9) (args := [.agg #[.int .i64 x1, .int .i64 x2], .pointer (some ⟨p, 0, none⟩)]) Try.func64 rfl rfl (St.empty _ _) ?_
 refine .sr ?_
 refine .step rfl (.box (us := [.int .i64 x1, .int .i64 x2]) rfl fun b1 => ?_)
 refine .m ?_
 refine .dsr ?_
 refine .fa Tfo_29_0 ?_
 refine .u (.int .i64 (((Q : Nat) : Int))) (.load1 Tone_3 rfl (Cells.env (k := 0) hc rfl (by decide) ⟨rfl, trivial⟩)) ?_
 refine .u (.agg #[.int .i64 x1, .int .i64 x2]) (.loadN (cs := [.int .i64 x1, .int .i64 x2]) Tagg_52 rfl (Cells.blk (.head _) ⟨rfl, rfl, trivial⟩)) ?_
 refine .c (.bool (isNd Q (x1, x2))) [.int .i64 (((Q : Nat) : Int)), .agg #[.int .i64 x1, .int .i64 x2]] Tcall_65 (fun w hs => isNode_spec hQ _ _ w) ?_
 refine .w (.bool (!(isNd Q (x1, x2)))) ?_
 refine .m ?_
 refine .done ?_
 refine .ret ?_
 refine ⟨.bool (!(isNd Q (x1, x2))), [], Out.one rfl rfl, (Some'.weak (.nil _)), ?_⟩
 rfl

set_option maxHeartbeats 1000000 in
set_option maxRecDepth 20000 in
theorem IndexFuncNode_spec {Q : Nat} {p : Nat} {vn vw : Value} {t r : Int} {va : Value} {n : Nat} {L : List N2} {w : World} (ha : Sl w va 2 n (nds L)) (hQ : 1 ≤ Q ∧ Q ≤ 5) (hc : Sl w (.slice (some ⟨p, 0, none⟩) 1 1) 5 1 [.int .i64 (Q : Nat), vn, vw, .int .i64 t, .int .i64 r]) : Calls Try.prog 80 #[va, .func (.func 64) #[] #[.pointer (some ⟨p, 0, none⟩)]] w (Post No w fun v _ => v = .int .i64 (findI (fun i => !isNd Q (ndx L i)) n)) := by
 have hLn : L.length = n := ha.nlen
 have hn := ha.le
 obtain ⟨A, c, rfl, _, _⟩ := ha.form0
 refine enter (n := 19) (args := [.slice A n c, .func (.func 64) #[] #[.pointer (some ⟨p, 0, none⟩)]]) Try.func80 rfl rfl (St.empty _ _) ?_
 refine .sr ?_
 refine .m ?_
 refine .done ?_
 refine .seq ?_
 refine .sr ?_
 refine .m ?_
 refine .u (.int .i64 (((n : Nat) : Int))) (.len Tsl_26 rfl) ?_
 refine .m ?_
 refine .done ?_
 refine .block ?_
 refine Run.loop (ι := Nat) [4, 5, 8, 9, 10, 11, 12, 13, 14, 15, 16, 17, 18] (fun k => [(8, .int .i64 (((k : Nat) : Int)))]) (fun k => []) (fun k => k ≤ n ∧ (∀ i, i < k → (!isNd Q (ndx L i)) = false)) (fun k => n - k) 0 ?_ ?_ ?_ ?_
 ·exact ⟨Nat.zero_le _, by first | trivial | (intro i hi; omega)⟩
 ·exact ⟨rfl, trivial⟩
 ·exact (Some'.weak (.nil _))
 rintro k fr hinv
 show Run _ _ (over _ _ [(8, .int .i64 (((k : Nat) : Int)))] fr) []
 try dsimp only at hinv
 refine .sr ?_
 refine .w (.bool (decide ((((k : Nat) : Int)) < (((n : Nat) : Int))))) ?_
 refine .done ?_
 refine .seq ?_
 refine .cond (b := decide ((((k : Nat) : Int)) < (((n : Nat) : Int)))) rfl (fun h9 => ?_) (fun h9 => ?_)
 ·have p9 := h9; try simp only [bs] at p9
  have hltk : k < n := by omega
  obtain ⟨ba, oa, rfl⟩ := ha.opn (by omega)
  refine .skip ?_
  refine .seq ?_
  refine .block ?_
  refine .sr ?_
  iterate 2 refine .m ?_
  refine .dsr ?_
  refine .w (.func (.func 64) #[] #[.pointer (some ⟨p, 0, none⟩)]) ?_
  iterate 2 refine .m ?_
  refine .u (.pointer (some ⟨ba, oa + k * 2, none⟩)) (.ix k Tsl_26) ?_
  refine .u (.agg #[.int .i64 ((ndx L k).1), .int .i64 ((ndx L k).2)]) (.loadN (cs := [.int .i64 ((ndx L k).1), .int .i64 ((ndx L k).2)]) Tagg_52 rfl (Cells.arg (k := k * 2) ha rfl (by omega) (preN (k := k) (by omega)))) ?_
  refine Run.q (v := .bool (!isNd Q (ndx L k))) rfl (OpQ.call (vs := [.agg #[.int .i64 ((ndx L k).1), .int .i64 ((ndx L k).2)], .pointer (some ⟨p, 0, none⟩)]) (caps := [.pointer (some ⟨p, 0, none⟩)]) Tcall_64 rfl rfl (fun w hs => isNClo_spec hQ (hs.sl hc))) ?_
  refine .done ?_
  refine .cond (b := !isNd Q (ndx L k)) rfl (fun h16 => ?_) (fun h16 => ?_)
  ·have p16 := h16; try simp only [bs] at p16
   refine .seq ?_
   have hres : findI (fun i => !isNd Q (ndx L i)) n = k := findI_hit hinv.2 h16 hltk
   refine .region ?_
   iterate 2 refine .m ?_
   refine .done ?_
   refine .ret ?_
   refine ⟨.int .i64 (((k : Nat) : Int)), [], Out.one rfl rfl, (Some'.weak (.nil _)), ?_⟩
   show _ = _; rw [hres]
  have p16 := h16; try simp only [bs] at p16
  refine .skip ?_
  refine .blockEnd ?_
  have hgood : (!isNd Q (ndx L k)) = false := h16
  refine .region ?_
  refine .u (.int .i64 ((((k : Nat) : Int)) + 1)) (.add rfl rfl rfl (by omega) (by omega)) ?_
  refine .m ?_
  refine .done ?_
  refine .goal ⟨(by repeat (first | exact Same.refl _ _ | refine Same.put rfl ?_ | refine Same.over rfl rfl ?_)), k + 1, ?_, ?_, ?_, ?_⟩
  ·refine ⟨by omega, ?_⟩
   intro i hi
   rcases Nat.lt_succ_iff_lt_or_eq.1 hi with h | h
   ·exact hinv.2 i h
   ·rw [h]; exact hgood
  ·omega
  ·exact ⟨(by first | rfl | (congr 1; omega) | simp), trivial⟩
  ·exact (Some'.weak (.nil _))
 have p9 := h9; try simp only [bs] at p9
 have hknk : k = n := by omega
 have hres : findI (fun i => !isNd Q (ndx L i)) n = -1 := by rw [← hknk]; exact findI_none hinv.2
 refine .exit rfl ?_
 refine .sr ?_
 refine .m ?_
 refine .done ?_
 refine .ret ?_
 refine ⟨.int .i64 (-1), [], Out.one rfl rfl, (Some'.weak (.nil _)), ?_⟩
 show _ = _; rw [hres]

set_option maxHeartbeats 1000000 in
set_option maxRecDepth 20000 in
theorem ContainsFuncNode_spec {Q : Nat} {p : Nat} {vn vw : Value} {t r : Int} {va : Value} {n : Nat} {L : List N2} {w : World} (ha : Sl w va 2 n (nds L)) (hQ : 1 ≤ Q ∧ Q ≤ 5) (hc : Sl w (.slice (some ⟨p, 0, none⟩) 1 1) 5 1 [.int .i64 (Q : Nat), vn, vw, .int .i64 t, .int .i64 r]) : Calls Try.prog 63 #[va, .func (.func 64) #[] #[.pointer (some ⟨p, 0, none⟩)]] w (Post No w fun v _ => v = .bool (anyI (fun i => !isNd Q (ndx L i)) n)) := by
 refine enter (n := 9) (args := [va, .func (.func 64) #[] #[.pointer (some ⟨p, 0, none⟩)]]) Try.func63 rfl rfl (St.empty _ _) ?_
 refine .sr ?_
 refine .m ?_
 refine .dsr ?_
 refine .w va ?_
 refine .w (.func (.func 64) #[] #[.pointer (some ⟨p, 0, none⟩)]) ?_
 refine .c (.int .i64 (findI (fun i => !isNd Q (ndx L i)) n)) [va, .func (.func 64) #[] #[.pointer (some ⟨p, 0, none⟩)]] Tcall_80 (fun w hs => IndexFuncNode_spec (hs.sl ha) hQ (hs.sl hc)) ?_
 refine .w (.bool (decide ((findI (fun i => !isNd Q (ndx L i)) n) ≥ 0))) ?_
 refine .m ?_
 refine .done ?_
 refine .ret ?_
 refine ⟨.bool (decide ((findI (fun i => !isNd Q (ndx L i)) n) ≥ 0)), [], Out.one rfl rfl, (Some'.weak (.nil _)), ?_⟩
 show _ = _; rw [findI_ge]

set_option maxHeartbeats 1000000 in
set_option maxRecDepth 20000 in
theorem IndexNode_spec {va : Value} {n : Nat} {L : List N2} {x1 x2 : Int} {w : World} (ha : Sl w va 2 n (nds L)) : Calls Try.prog 93 #[va, .agg #[.int .i64 x1, .int .i64 x2]] w (Post No w fun v _ => v = .int .i64 (fdN L x1 x2)) := by
 have hLn : L.length = n := ha.nlen
 have hn := ha.le
 obtain ⟨A, c, rfl, _, _⟩ := ha.form0
 refine enter (n := 19) (args := [.slice A n c, .agg #[.int .i64 x1, .int .i64 x2]]) Try.func93 rfl rfl (St.empty _ _) ?_
 refine .sr ?_
 refine .step rfl (.box (us := [.int .i64 x1, .int .i64 x2]) rfl fun b1 => ?_)
 refine .m ?_
 refine .done ?_
 refine .seq ?_
 refine .sr ?_
 refine .m ?_
 refine .u (.int .i64 (((n : Nat) : Int))) (.len Tsl_26 rfl) ?_
 refine .m ?_
 refine .done ?_
 refine .block ?_
 refine Run.loop (ι := Nat) [4, 5, 8, 9, 10, 11, 12, 13, 14, 15, 16, 17, 18] (fun k => [(8, .int .i64 (((k : Nat) : Int)))]) (fun k => [.blk b1 52 [.int .i64 x1, .int .i64 x2]]) (fun k => k ≤ n ∧ (∀ i, i < k → isN x1 x2 (ndx L i) = false)) (fun k => n - k) 0 ?_ ?_ ?_ ?_
 ·exact ⟨Nat.zero_le _, by first | trivial | (intro i hi; omega)⟩
 ·exact ⟨rfl, trivial⟩
 ·exact (Some'.weak (.take (.nil _)))
 rintro k fr hinv
 show Run _ _ (over _ _ [(8, .int .i64 (((k : Nat) : Int)))] fr) [.blk b1 52 [.int .i64 x1, .int .i64 x2]]
 try dsimp only at hinv
 refine .sr ?_
 refine .w (.bool (decide ((((k : Nat) : Int)) < (((n : Nat) : Int))))) ?_
 refine .done ?_
 refine .seq ?_
 refine .cond (b := decide ((((k : Nat) : Int)) < (((n : Nat) : Int)))) rfl (fun h9 => ?_) (fun h9 => ?_)
 ·have p9 := h9; try simp only [bs] at p9
  have hltk : k < n := by omega
  obtain ⟨ba, oa, rfl⟩ := ha.opn (by omega)
  refine .skip ?_
  refine .seq ?_
  refine .block ?_
  refine .sr ?_
  iterate 2 refine .m ?_
  refine .done ?_
  refine .seq ?_
  refine .draws (by kernel_rfl) (by kernel_rfl) ?_
  refine .u (.agg #[.int .i64 x1, .int .i64 x2]) (.loadN (cs := [.int .i64 x1, .int .i64 x2]) Tagg_52 rfl (Cells.blk (.head _) ⟨rfl, rfl, trivial⟩)) ?_
  iterate 2 refine .m ?_
  refine .u (.pointer (some ⟨ba, oa + k * 2, none⟩)) (.ix k Tsl_26) ?_
  refine .u (.agg #[.int .i64 ((ndx L k).1), .int .i64 ((ndx L k).2)]) (.loadN (cs := [.int .i64 ((ndx L k).1), .int .i64 ((ndx L k).2)]) Tagg_52 rfl (Cells.arg (k := k * 2) ha rfl (by omega) (preN (k := k) (by omega)))) ?_
  refine .u (.bool (decide ([x1, x2] = [(ndx L k).1, (ndx L k).2]))) (.eqStruct (xs := [x1, x2]) (ys := [(ndx L k).1, (ndx L k).2]) Tns_52_2 rfl rfl rfl rfl) ?_
  refine .done ?_
  refine .cond (b := decide ([x1, x2] = [(ndx L k).1, (ndx L k).2])) rfl (fun h16 => ?_) (fun h16 => ?_)
  ·have p16 := h16; try simp only [bs] at p16
   refine .seq ?_
   have hres : fdN L x1 x2 = k := by rw [fdN, hLn]; exact findI_hit hinv.2 (by rw [isN_list] at h16; exact h16) hltk
   refine .region ?_
   iterate 2 refine .m ?_
   refine .done ?_
   refine .ret ?_
   refine ⟨.int .i64 (((k : Nat) : Int)), [], Out.one rfl rfl, (Some'.weak (.nil _)), ?_⟩
   show _ = _; rw [hres]
  have p16 := h16; try simp only [bs] at p16
  refine .skip ?_
  refine .blockEnd ?_
  have hgood : isN x1 x2 (ndx L k) = false := by rw [isN_list] at h16; exact h16
  refine .region ?_
  refine .u (.int .i64 ((((k : Nat) : Int)) + 1)) (.add rfl rfl rfl (by omega) (by omega)) ?_
  refine .m ?_
  refine .done ?_
  refine .goal ⟨(by repeat (first | exact Same.refl _ _ | refine Same.put rfl ?_ | refine Same.over rfl rfl ?_)), k + 1, ?_, ?_, ?_, ?_⟩
  ·refine ⟨by omega, ?_⟩
   intro i hi
   rcases Nat.lt_succ_iff_lt_or_eq.1 hi with h | h
   ·exact hinv.2 i h
   ·rw [h]; exact hgood
  ·omega
  ·exact ⟨(by first | rfl | (congr 1; omega) | simp), trivial⟩
  ·exact (Some'.weak (.take (.nil _)))
 have p9 := h9; try simp only [bs] at p9
 have hknk : k = n := by omega
 have hres : fdN L x1 x2 = -1 := by rw [fdN, hLn, ← hknk]; exact findI_none hinv.2
 refine .exit rfl ?_
 refine .sr ?_
 refine .m ?_
 refine .done ?_
 refine .ret ?_
 refine ⟨.int .i64 (-1), [], Out.one rfl rfl, (Some'.weak (.nil _)), ?_⟩
 show _ = _; rw [hres]

set_option maxHeartbeats 1000000 in
set_option maxRecDepth 20000 in
theorem find_spec {Q : Nat} {t r x1 x2 : Int} {va vw : Value} {n : Nat} {L : List N2} {w : World} (ha : Sl w va 2 n (nds L)) : Calls Try.prog 81 #[.agg #[.int .i64 (Q : Nat), va, vw, .int .i64 t, .int .i64 r], .int .i64 x1, .int .i64 x2] w (Post No w fun v _ => v = .int .i64 (fdN L x1 x2)) := by
 refine enter (n := 13) (args := [.agg #[.int .i64 (((Q : Nat) : Int)), va, vw, .int .i64 t, .int .i64 r], .int .i64 x1, .int .i64 x2]) Try.func81 rfl rfl (St.empty _ _) ?_
 refine .sr ?_
 refine .step rfl (.box (us := [.int .i64 (((Q : Nat) : Int)), va, vw, .int .i64 t, .int .i64 r]) rfl fun b1 => ?_)
 refine .m ?_
 refine .dsr ?_
 refine .fa Tfo_29_1 ?_
 refine .u va (.load1 Tone_26 rfl (.b (.head _))) ?_
 iterate 2 refine .m ?_
 refine .u (.agg #[.int .i64 x1, .int .i64 x2]) (.build (cs := [.int .i64 x1, .int .i64 x2]) (by kernel_rfl)) ?_
 refine .c (.int .i64 (fdN L x1 x2)) [va, .agg #[.int .i64 x1, .int .i64 x2]] Tcall_93 (fun w hs => IndexNode_spec (hs.sl ha)) ?_
 refine .m ?_
 refine .done ?_
 refine .ret ?_
 refine ⟨.int .i64 (fdN L x1 x2), [], Out.one rfl rfl, (Some'.weak (.nil _)), ?_⟩
 rfl

set_option maxHeartbeats 1000000 in
set_option maxRecDepth 20000 in
theorem hasEnds_spec {Q : Nat} {t r : Int} {va vw : Value} {n : Nat} {L : List N2} {w : World} (hQ : 1 ≤ Q ∧ Q ≤ 5) (ha : Sl w va 2 n (nds L)) (hn40 : n ≤ 40) : Calls Try.prog 66 #[.agg #[.int .i64 (Q : Nat), va, vw, .int .i64 t, .int .i64 r]] w (Post No w fun v _ => v = .bool (endsP Q L)) := by
 have hLn : L.length = n := ha.nlen
 have hn := ha.le
 obtain ⟨A, c, rfl, _, _⟩ := ha.form0
 refine enter (n := 46) (args := [.agg #[.int .i64 (((Q : Nat) : Int)), .slice A n c, vw, .int .i64 t, .int .i64 r]]) Try.func66 rfl rfl (St.empty _ _) ?_
 refine .sr ?_
 refine .step rfl (.box (us := [.int .i64 (((Q : Nat) : Int)), .slice A n c, vw, .int .i64 t, .int .i64 r]) rfl fun b1 => ?_)
 refine .m ?_
 refine .dsr ?_
 refine .m ?_
 refine .done ?_
 refine .seq ?_
 refine .sr ?_
 refine .fa Tfo_29_1 ?_
 refine .u (.slice A n c) (.load1 Tone_26 rfl (.b (.head _))) ?_
 refine .u (.int .i64 (((n : Nat) : Int))) (.len Tsl_26 rfl) ?_
 refine .m ?_
 refine .done ?_
 refine .block ?_
 refine Run.loop (ι := Nat) [3, 5, 10, 11, 12, 13, 14, 15, 16, 17, 18, 19, 20, 21, 22, 23, 24] (fun k => [(3, .int .i64 (((cntN (fun j => isE (ndx L j)) k : Nat) : Int))), (10, .int .i64 (((k : Nat) : Int)))]) (fun k => [.blk b1 29 [.int .i64 (((Q : Nat) : Int)), .slice A n c, vw, .int .i64 t, .int .i64 r]]) (fun k => k ≤ n ∧ (cntN (fun j => isE (ndx L j)) k ≤ k)) (fun k => n - k) 0 ?_ ?_ ?_ ?_
 ·exact ⟨Nat.zero_le _, Nat.le_refl _⟩
 ·exact ⟨rfl, rfl, trivial⟩
 ·exact (Some'.weak (.take (.nil _)))
 rintro k fr hinv
 show Run _ _ (over _ _ [(3, .int .i64 (((cntN (fun j => isE (ndx L j)) k : Nat) : Int))), (10, .int .i64 (((k : Nat) : Int)))] fr) [.blk b1 29 [.int .i64 (((Q : Nat) : Int)), .slice A n c, vw, .int .i64 t, .int .i64 r]]
 try dsimp only at hinv
 refine .sr ?_
 refine .w (.bool (decide ((((k : Nat) : Int)) < (((n : Nat) : Int))))) ?_
 refine .done ?_
 refine .seq ?_
 refine .cond (b := decide ((((k : Nat) : Int)) < (((n : Nat) : Int)))) rfl (fun h11 => ?_) (fun h11 => ?_)
 ·have p11 := h11; try simp only [bs] at p11
  have hltk : k < n := by omega
  obtain ⟨ba, oa, rfl⟩ := ha.opn (by omega)
  refine .skip ?_
  refine .seq ?_
  refine .block ?_
  refine .sr ?_
  refine .u (.pointer (some ⟨ba, oa + k * 2, none⟩)) (.ix k Tsl_26) ?_
  refine .u (.agg #[.int .i64 ((ndx L k).1), .int .i64 ((ndx L k).2)]) (.loadN (cs := [.int .i64 ((ndx L k).1), .int .i64 ((ndx L k).2)]) Tagg_52 rfl (Cells.arg (k := k * 2) ha rfl (by omega) (preN (k := k) (by omega)))) ?_
  refine .step rfl (.alloc (zs := [.int .i64 0, .int .i64 0]) Tzero_52 fun b2 => ?_)
  refine .step rfl (.storeAll (us := [.int .i64 ((ndx L k).1), .int .i64 ((ndx L k).2)]) Tsize_52 rfl rfl rfl (.here _) rfl ?_)
  refine .dsr ?_
  refine .fa Tfo_52_0 ?_
  refine .u (.int .i64 ((ndx L k).1)) (.load1 Tone_3 rfl (.b (.head _))) ?_
  refine .w (.bool (((ndx L k).1) == 1)) ?_
  rcases Bool.eq_false_or_eq_true (((ndx L k).1) == 1) with h17 | h17
  ·refine .mb h17 ?_
   have p17 := h17; try simp only [bs] at p17
   iterate 3 refine .pass rfl ?_
   refine .w (.bool true) ?_
   refine .done ?_
   refine .cond (b := true) rfl (fun _ => ?_) (fun h => nomatch h)
   refine .region ?_
   refine .m ?_
   refine .u (.int .i64 ((((cntN (fun j => isE (ndx L j)) k : Nat) : Int)) + 1)) (.add rfl rfl rfl (by omega) (by omega)) ?_
   refine .m ?_
   refine .done ?_
   refine .blockEnd ?_
   refine .region ?_
   refine .u (.int .i64 ((((k : Nat) : Int)) + 1)) (.add rfl rfl rfl (by omega) (by omega)) ?_
   refine .m ?_
   refine .done ?_
   refine .goal ⟨(by repeat (first | exact Same.refl _ _ | refine Same.put rfl ?_ | refine Same.over rfl rfl ?_)), k + 1, ?_, ?_, ?_, ?_⟩
   ·refine ⟨by omega, ?_⟩
    exact cntN_le _ _
   ·omega
   ·exact ⟨(by show Value.int _ _ = Value.int _ _; congr 1; first | (rw [cntN_yes (p := (fun j => isE (ndx L j))) (by simp_all [isE])]; omega) | rw [cntN_no (p := (fun j => isE (ndx L j))) (by simp_all [isE])]), (by first | rfl | (congr 1; omega) | simp), trivial⟩
   ·exact (Some'.weak (.skip (.takeEq (by first | rfl | simp) (.nil _))))
  refine .mb h17 ?_
  have p17 := h17; try simp only [bs] at p17
  refine .fa Tfo_52_0 ?_
  refine .u (.int .i64 ((ndx L k).1)) (.load1 Tone_3 rfl (.b (.head _))) ?_
  refine .w (.bool (((ndx L k).1) == 2)) ?_
  refine .w (.bool (((ndx L k).1) == 2)) ?_
  refine .done ?_
  refine .cond (b := ((ndx L k).1) == 2) rfl (fun h21 => ?_) (fun h21 => ?_)
  ·have p21 := h21; try simp only [bs] at p21
   refine .region ?_
   refine .m ?_
   refine .u (.int .i64 ((((cntN (fun j => isE (ndx L j)) k : Nat) : Int)) + 1)) (.add rfl rfl rfl (by omega) (by omega)) ?_
   refine .m ?_
   refine .done ?_
   refine .blockEnd ?_
   refine .region ?_
   refine .u (.int .i64 ((((k : Nat) : Int)) + 1)) (.add rfl rfl rfl (by omega) (by omega)) ?_
   refine .m ?_
   refine .done ?_
   refine .goal ⟨(by repeat (first | exact Same.refl _ _ | refine Same.put rfl ?_ | refine Same.over rfl rfl ?_)), k + 1, ?_, ?_, ?_, ?_⟩
   ·refine ⟨by omega, ?_⟩
    exact cntN_le _ _
   ·omega
   ·exact ⟨(by show Value.int _ _ = Value.int _ _; congr 1; first | (rw [cntN_yes (p := (fun j => isE (ndx L j))) (by simp_all [isE])]; omega) | rw [cntN_no (p := (fun j => isE (ndx L j))) (by simp_all [isE])]), (by first | rfl | (congr 1; omega) | simp), trivial⟩
   ·exact (Some'.weak (.skip (.takeEq (by first | rfl | simp) (.nil _))))
  have p21 := h21; try simp only [bs] at p21
  refine .skip ?_
  refine .blockEnd ?_
  refine .region ?_
  refine .u (.int .i64 ((((k : Nat) : Int)) + 1)) (.add rfl rfl rfl (by omega) (by omega)) ?_
  refine .m ?_
  refine .done ?_
  refine .goal ⟨(by repeat (first | exact Same.refl _ _ | refine Same.put rfl ?_ | refine Same.over rfl rfl ?_)), k + 1, ?_, ?_, ?_, ?_⟩
  ·refine ⟨by omega, ?_⟩
   exact cntN_le _ _
  ·omega
  ·exact ⟨(by show Value.int _ _ = Value.int _ _; congr 1; first | (rw [cntN_yes (p := (fun j => isE (ndx L j))) (by simp_all [isE])]; omega) | rw [cntN_no (p := (fun j => isE (ndx L j))) (by simp_all [isE])]), (by first | rfl | (congr 1; omega) | simp), trivial⟩
  ·exact (Some'.weak (.skip (.takeEq (by first | rfl | simp) (.nil _))))
 have p11 := h11; try simp only [bs] at p11
 have hknk : k = n := by omega
 have hce : cntN (fun j => isE (ndx L j)) k = cntE L := by rw [cntE, hLn, hknk]
 refine .exit rfl ?_
 refine .seq ?_
 refine .sr ?_
 refine .fa Tfo_29_0 ?_
 refine .u (.int .i64 (((Q : Nat) : Int))) (.load1 Tone_3 rfl (.b (.head _))) ?_
 refine .m ?_
 refine .done ?_
 refine .block ?_
 refine Run.loop (ι := Nat) [2, 6, 27, 28, 29, 30, 31, 32, 33, 34, 35, 36, 37, 38, 39, 40] (fun q => [(27, .int .i64 (((q : Nat) : Int)))]) (fun q => [.blk b1 29 [.int .i64 (((Q : Nat) : Int)), .slice A n c, vw, .int .i64 t, .int .i64 r]]) (fun q => q ≤ Q ∧ ∀ i, i < q → (fun q : Nat => decide (0 ≤ fdN L 1 (q : Int)) && decide (0 ≤ fdN L 2 (q : Int))) i = true) (fun q => Q - q) 0 ?_ ?_ ?_ ?_
 ·exact ⟨Nat.zero_le _, fun i hi => by omega⟩
 ·exact ⟨rfl, trivial⟩
 ·exact (Some'.weak (.take (.nil _)))
 rintro q fr hinv
 show Run _ _ (over _ _ [(27, .int .i64 (((q : Nat) : Int)))] fr) [.blk b1 29 [.int .i64 (((Q : Nat) : Int)), .slice A n c, vw, .int .i64 t, .int .i64 r]]
 try dsimp only at hinv
 refine .sr ?_
 refine .w (.bool (decide ((((q : Nat) : Int)) < (((Q : Nat) : Int))))) ?_
 refine .done ?_
 refine .seq ?_
 refine .cond (b := decide ((((q : Nat) : Int)) < (((Q : Nat) : Int)))) rfl (fun h28 => ?_) (fun h28 => ?_)
 ·have p28 := h28; try simp only [bs] at p28
  refine .skip ?_
  refine .seq ?_
  refine .block ?_
  refine .sr ?_
  iterate 2 refine .m ?_
  refine .dsr ?_
  refine .u (.agg #[.int .i64 (((Q : Nat) : Int)), .slice A n c, vw, .int .i64 t, .int .i64 r]) (.loadN (cs := [.int .i64 (((Q : Nat) : Int)), .slice A n c, vw, .int .i64 t, .int .i64 r]) Tagg_29 rfl (Cells.blk (.head _) ⟨rfl, rfl, rfl, rfl, rfl, trivial⟩)) ?_
  refine .m ?_
  refine .c (.int .i64 (fdN L 1 (((q : Nat) : Int)))) [.agg #[.int .i64 (((Q : Nat) : Int)), .slice A n c, vw, .int .i64 t, .int .i64 r], .int .i64 1, .int .i64 (((q : Nat) : Int))] Tcall_81 (fun w hs => find_spec (hs.sl ha)) ?_
  refine .w (.bool (decide ((fdN L 1 (((q : Nat) : Int))) < 0))) ?_
  rcases Bool.eq_false_or_eq_true (decide ((fdN L 1 (((q : Nat) : Int))) < 0)) with h34 | h34
  ·refine .mb h34 ?_
   have p34 := h34; try simp only [bs] at p34
   iterate 4 refine .pass rfl ?_
   refine .w (.bool true) ?_
   refine .done ?_
   refine .cond (b := true) rfl (fun _ => ?_) (fun h => nomatch h)
   refine .seq ?_
   have hres : endsP Q L = false := by rw [endsP, allI_false (i := q) (by omega) (by simp only [Bool.and_eq_false_iff, decide_eq_false_iff_not]; omega)]; rfl
   refine .region ?_
   refine .m ?_
   refine .done ?_
   refine .ret ?_
   refine ⟨.bool false, [], Out.one rfl rfl, (Some'.weak (.nil _)), ?_⟩
   show _ = _; first | (rw [hres]; done) | (rw [hres, ← hce]; done)
  refine .mb h34 ?_
  have p34 := h34; try simp only [bs] at p34
  refine .u (.agg #[.int .i64 (((Q : Nat) : Int)), .slice A n c, vw, .int .i64 t, .int .i64 r]) (.loadN (cs := [.int .i64 (((Q : Nat) : Int)), .slice A n c, vw, .int .i64 t, .int .i64 r]) Tagg_29 rfl (Cells.blk (.head _) ⟨rfl, rfl, rfl, rfl, rfl, trivial⟩)) ?_
  refine .m ?_
  refine .c (.int .i64 (fdN L 2 (((q : Nat) : Int)))) [.agg #[.int .i64 (((Q : Nat) : Int)), .slice A n c, vw, .int .i64 t, .int .i64 r], .int .i64 2, .int .i64 (((q : Nat) : Int))] Tcall_81 (fun w hs => find_spec (hs.sl ha)) ?_
  refine .w (.bool (decide ((fdN L 2 (((q : Nat) : Int))) < 0))) ?_
  refine .w (.bool (decide ((fdN L 2 (((q : Nat) : Int))) < 0))) ?_
  refine .done ?_
  refine .cond (b := decide ((fdN L 2 (((q : Nat) : Int))) < 0)) rfl (fun h39 => ?_) (fun h39 => ?_)
  ·have p39 := h39; try simp only [bs] at p39
   refine .seq ?_
   have hres : endsP Q L = false := by rw [endsP, allI_false (i := q) (by omega) (by simp only [Bool.and_eq_false_iff, decide_eq_false_iff_not]; omega)]; rfl
   refine .region ?_
   refine .m ?_
   refine .done ?_
   refine .ret ?_
   refine ⟨.bool false, [], Out.one rfl rfl, (Some'.weak (.nil _)), ?_⟩
   show _ = _; first | (rw [hres]; done) | (rw [hres, ← hce]; done)
  have p39 := h39; try simp only [bs] at p39
  refine .skip ?_
  refine .blockEnd ?_
  refine .region ?_
  refine .u (.int .i64 ((((q : Nat) : Int)) + 1)) (.add rfl rfl rfl (by omega) (by omega)) ?_
  refine .m ?_
  refine .done ?_
  refine .goal ⟨(by repeat (first | exact Same.refl _ _ | refine Same.put rfl ?_ | refine Same.over rfl rfl ?_)), q + 1, ?_, ?_, ?_, ?_⟩
  ·refine ⟨by omega, fun i hi => ?_⟩
   rcases Nat.lt_succ_iff_lt_or_eq.1 hi with h | h
   ·exact hinv.2 i h
   ·rw [h]; simp only [Bool.and_eq_true, decide_eq_true_eq]; exact ⟨by omega, by omega⟩
  ·omega
  ·exact ⟨(by first | rfl | (congr 1; omega) | simp), trivial⟩
  ·exact (Some'.weak (.take (.nil _)))
 have p28 := h28; try simp only [bs] at p28
 have hqQ : q = Q := by omega
 have hres : endsP Q L = ((cntE L : Int) == 2 * ((Q : Nat) : Int)) := by rw [endsP, allI_iff.2 (by rw [← hqQ]; exact hinv.2), Bool.true_and]
 refine .exit rfl ?_
 refine .sr ?_
 refine .m ?_
 refine .fa Tfo_29_0 ?_
 refine .u (.int .i64 (((Q : Nat) : Int))) (.load1 Tone_3 rfl (.b (.head _))) ?_
 refine .u (.int .i64 (2 * ((Q : Nat) : Int))) (.mul rfl rfl (by first | rfl | grind) (by omega) (by omega)) ?_
 refine .w (.bool ((((cntN (fun j => isE (ndx L j)) k : Nat) : Int)) == (2 * ((Q : Nat) : Int)))) ?_
 refine .m ?_
 refine .done ?_
 refine .ret ?_
 refine ⟨.bool ((((cntN (fun j => isE (ndx L j)) k : Nat) : Int)) == (2 * ((Q : Nat) : Int))), [], Out.one rfl rfl, (Some'.weak (.nil _)), ?_⟩
 show _ = _; first | (rw [hres]; done) | (rw [hres, ← hce]; done)

end Go.Proofs.Ytnnkoeknejeieaa
