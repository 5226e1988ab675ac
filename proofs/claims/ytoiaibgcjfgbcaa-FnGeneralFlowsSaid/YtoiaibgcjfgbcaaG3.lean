/- Walks: the generator of draws. -/
import Derived.Test.YtoiaibgcjfgbcaaG2
import Derived.Test.YtoiaibgcjfgbcaaProg
import Derived.Deep.Slices
import Derived.ChangeShapes
import Derived.WideShapes
import Derived.ChangeArms
set_option linter.unusedSimpArgs false
set_option linter.unusedVariables false
namespace Go.Proofs.Ytoiaibgcjfgbcaa
open Go Go.RowKit
namespace DrT
theorem Tcall_43 : callable Try.prog 43 = true := by kernel_rfl
theorem Tcall_71 : callable Try.prog 71 = true := by kernel_rfl
theorem Tfo_64_0 : fieldOff Try.prog 64 0 = some 0 := by kernel_rfl
theorem Tfo_64_1 : fieldOff Try.prog 64 1 = some 1 := by kernel_rfl
theorem Tfo_64_2 : fieldOff Try.prog 64 2 = some 2 := by kernel_rfl
theorem Tint_3 : Try.prog.underlying 3 = some (.int .i64) := by kernel_rfl
theorem Tint_62 : Try.prog.underlying 62 = some (.int .u64) := by kernel_rfl
theorem Tone_22 : oneOf Try.prog 22 = true := by kernel_rfl
theorem Tone_3 : oneOf Try.prog 3 = true := by kernel_rfl
theorem Tone_5 : oneOf Try.prog 5 = true := by kernel_rfl
theorem Tone_62 : oneOf Try.prog 62 = true := by kernel_rfl
theorem Tsize_3 : (Try.prog.info? 3).map (·.size) = some 1 := by kernel_rfl
theorem Tsize_62 : (Try.prog.info? 62).map (·.size) = some 1 := by kernel_rfl
theorem Tsl_22 : sliceOf Try.prog 22 = some (5, 1, 1, [.int .u8 0]) := by kernel_rfl
theorem Tsl_24 : sliceOf Try.prog 24 = some (3, 1, 8, [.int .i64 0]) := by kernel_rfl
theorem Tsome_3 : (Try.prog.underlying 3).isSome = true := by kernel_rfl
theorem Tsome_5 : (Try.prog.underlying 5).isSome = true := by kernel_rfl
theorem Tsome_62 : (Try.prog.underlying 62).isSome = true := by kernel_rfl
end DrT
open DrT
/-- Bytes as cells. -/
def u8s (cs : List Int) : List Value := cs.map (Value.int .u8)
theorem preB {cs : List Int} {i : Nat} (h : i < cs.length) : Pre (u8s cs) i [.int .u8 (ix cs i)] := ⟨by simp [u8s, ix, List.getD, h], trivial⟩
/-- The bytes from which is drawn; they do not lie in the generator's own block. -/
structure Cur (w : World) (bc : Nat) (vc : Value) (n : Nat) (cs : List Int) : Prop where
  sl : Sl w vc 1 n (u8s cs)
  off : 0 < n → ∀ k, vc.ownBlock = some k → k ≠ bc
  by_ : ∀ x ∈ cs, 0 ≤ x ∧ x < 256
theorem Cur.go {w0 w : World} {bc : Nat} {vc : Value} {n : Nat} {cs : List Int} {t : TypeId} {us : List Value} {H : List Res} (h : Cur w0 bc vc n cs) (hs : St (Of [.blk bc t us]) w0 w H) : Cur w bc vc n cs :=
  ⟨hs.slOff h.sl fun h0 k hk ⟨r, hr, hrk⟩ => by
    simp only [List.mem_singleton] at hr; subst hr
    exact h.off h0 k hk hrk.symm, h.off, h.by_⟩
theorem Cur.lt {w : World} {bc : Nat} {vc : Value} {n : Nat} {cs : List Int} (h : Cur w bc vc n cs) (h0 : 0 < n) {k : Nat} (hk : vc.ownBlock = some k) : k < w.heap.size := by
  obtain ⟨_, A, c, rfl, _, _, h4⟩ := h.sl
  obtain ⟨b, o, rfl, hb, _⟩ := h4 h0
  simp only [Value.ownBlock, Option.some.injEq] at hk; subst hk; exact hb
theorem Cur.apart {w0 w : World} {bc : Nat} {vc vl : Value} {n m size : Nat} {e : TypeId} {cs : List Int} {t : TypeId} {us ls : List Value} {H : List Res} (h : Cur w0 bc vc n cs) (hs : St (Of [.blk bc t us]) w0 w H) (hm : Res.own vl e size m ls ∈ H) : 0 < n → ∀ k, vc.ownBlock = some k → vl.ownBlock ≠ some k := by
  intro h0 k hk hl
  obtain ⟨r, hr, hrk⟩ := hs.fresh _ hm k hl (h.lt h0 hk)
  simp only [List.mem_singleton] at hr; subst hr
  exact h.off h0 k hk hrk.symm
theorem Cur.top {w0 w : World} {b : Nat} {va : Value} {n : Nat} {cs : List Int} {t : TypeId} {us : List Value} {H : List Res} (ha : Sl w0 va 1 n (u8s cs)) (hby : ∀ x ∈ cs, 0 ≤ x ∧ x < 256) (hs : St No w0 w H) (hm : Res.blk b t us ∈ H) : Cur w b va n cs := by
  refine ⟨hs.sl ha, fun h0 k hk e => ?_, hby⟩
  obtain ⟨_, A, c, rfl, _, _, h4⟩ := ha
  obtain ⟨b', o, rfl, hb, _⟩ := h4 h0
  simp only [Value.ownBlock, Option.some.injEq] at hk; subst hk; subst e
  exact hs.fresh _ hm b' rfl hb
theorem Cells.cur {E : Env} {H : List Res} {b o n c bc : Nat} {cs : List Int} {ys : List Value} {k : Nat} {t : TypeId} {us : List Value} (h : Cur E.w0 bc (.slice (some ⟨b, o, none⟩) n c) n cs) (hM : E.M = Of [.blk bc t us]) (hn : 0 < n) (hp : Pre (u8s cs) k ys) : Cells E H b (o + k) ys := by
  intro w hs
  have hs' : St (Of [.blk bc t us]) E.w0 w H := by rw [← hM]; exact hs
  obtain ⟨_, A, c', he, _, _, h4⟩ := (h.go hs').sl
  injection he with e1 _ _
  obtain ⟨b', o', hA, _, hr⟩ := h4 hn
  rw [hA] at e1
  injection e1 with e1
  injection e1 with e2 e3
  subst e2; subst e3
  intro j v hv
  have := hr (k + j) v (hp.get j v hv)
  rw [← Nat.add_assoc] at this; exact this
def nxB (cs : List Int) (n : Nat) (s : Nat × Int) : Int := if s.1 < n then ix cs s.1 else 0
def sdE (sd b : Int) : Int := IntKind.u64.wrap (IntKind.u64.wrap (IntKind.u64.wrap (sd * 6364136223846793005) + IntKind.u64.wrap b) + 1442695040888963407)
/-- The generator behind a draw, and what is drawn. -/
def nxS (cs : List Int) (n : Nat) (s : Nat × Int) : Nat × Int := (s.1 + 1, sdE s.2 (nxB cs n s))
def nxV (cs : List Int) (n : Nat) (s : Nat × Int) : Int := if s.1 + 1 ≤ n then nxB cs n s else IntKind.i64.wrap (bits .and .u64 ((sdE s.2 (nxB cs n s)) >>> (40 : Nat)) 255)
theorem nxV_range {cs : List Int} {n : Nat} (hl : cs.length = n) (h : ∀ x ∈ cs, 0 ≤ x ∧ x < 256) (s : Nat × Int) : 0 ≤ nxV cs n s ∧ nxV cs n s ≤ 255 := by
  unfold nxV
  split
  · unfold nxB
    split
    · have := h _ (ix_mem (xs := cs) (i := s.1) (by omega)); omega
    · omega
  · generalize (sdE s.2 (nxB cs n s)) >>> (40 : Nat) = a
    have h1 : (BitVec.ofInt 64 a &&& BitVec.ofInt 64 255).toNat ≤ 255 := by
      rw [BitVec.toNat_and]
      exact Nat.le_trans Nat.and_le_right (by decide)
    have h2 : bits .and .u64 a 255 = ((BitVec.ofInt 64 a &&& BitVec.ofInt 64 255).toNat : Int) := by
      show IntKind.u64.wrap ((BitVec.ofInt 64 a &&& BitVec.ofInt 64 255).toNat : Int) = _
      rw [IntKind.wrap_u64]; omega
    rw [h2, IntKind.wrap_i64]; omega
def pkV (cs : List Int) (n : Nat) (k : Int) (s : Nat × Int) : Int :=
  if k ≤ 1 then 0 else (if k > 200 then nxV cs n s * 256 + nxV cs n (nxS cs n s) else nxV cs n s) % k
def pkS (cs : List Int) (n : Nat) (k : Int) (s : Nat × Int) : Nat × Int := if k ≤ 1 then s else if k > 200 then nxS cs n (nxS cs n s) else nxS cs n s
theorem pkS_le (cs : List Int) (n : Nat) (k : Int) (s : Nat × Int) : (pkS cs n k s).1 ≤ s.1 + 2 := by
  unfold pkS; split
  · omega
  · split <;> simp only [nxS] <;> omega
theorem pkV_range (cs : List Int) (n : Nat) (k : Int) (s : Nat × Int) : 0 ≤ pkV cs n k s ∧ (pkV cs n k s < k ∨ pkV cs n k s = 0) := by
  unfold pkV; split
  · omega
  · have h1 := Int.emod_nonneg (if k > 200 then nxV cs n s * 256 + nxV cs n (nxS cs n s) else nxV cs n s) (show k ≠ 0 by omega)
    have h2 := Int.emod_lt_of_pos (if k > 200 then nxV cs n s * 256 + nxV cs n (nxS cs n s) else nxV cs n s) (show 0 < k by omega)
    exact ⟨h1, .inl h2⟩

set_option maxHeartbeats 1000000 in
set_option maxRecDepth 20000 in
theorem next_spec {bc n : Nat} {vc : Value} {cs : List Int} {s : Nat × Int} {w : World} (hat : s.1 < 2305843009213693952) (hc : Cur w bc vc n cs) (hst : St (Of [.blk bc 64 [vc, .int .i64 (((s.1 : Nat) : Int)), .int .u64 (s.2)]]) w w [.blk bc 64 [vc, .int .i64 (((s.1 : Nat) : Int)), .int .u64 (s.2)]]) : Calls Try.prog 71 #[.pointer (some ⟨bc, 0, none⟩)] w (Post (Of [.blk bc 64 [vc, .int .i64 (((s.1 : Nat) : Int)), .int .u64 (s.2)]]) w fun v H => v = .int .i64 (nxV cs n s) ∧ H = [.blk bc 64 [vc, .int .i64 ((((nxS cs n s).1 : Nat) : Int)), .int .u64 ((nxS cs n s).2)]]) := by
 have hcl : cs.length = n := by have := hc.sl.1; simpa [u8s] using this
 obtain ⟨Ac, cc, rfl, _, _⟩ := hc.sl.form0
 refine enter (n := 62) (args := [.pointer (some ⟨bc, 0, none⟩)]) Try.func71 rfl rfl (hst) ?_
 refine Run.sr ?_
 refine Run.p (.int .i64 0) rfl rfl ?_
 refine Run.dsr ?_
 refine Run.p (.int .i64 0) rfl rfl ?_
 refine Run.done ?_
 refine Run.seq ?_
 refine Run.seq ?_
 refine Run.draws (by kernel_rfl) (by kernel_rfl) ?_
 refine Lex.q (v := .pointer (some ⟨bc, 0, none⟩)) rfl (OpQ.y (OpY.pure rfl)) ?_
 refine Lex.q (v := .pointer (some ⟨bc, 0, none⟩)) rfl (OpQ.y (OpY.nilCheck rfl)) ?_
 refine Lex.q (v := .pointer (some ⟨bc, 1, none⟩)) rfl (OpQ.y (OpY.fieldAddr Tfo_64_1 rfl rfl)) ?_
 refine Lex.q (v := .int .i64 (((s.1 : Nat) : Int))) rfl (OpQ.y (OpY.load1 Tone_3 rfl (Cells.blk (.head _) ⟨rfl, trivial⟩))) ?_
 refine Lex.q (v := .pointer (some ⟨bc, 0, none⟩)) rfl (OpQ.y (OpY.pure rfl)) ?_
 refine Lex.q (v := .pointer (some ⟨bc, 0, none⟩)) rfl (OpQ.y (OpY.nilCheck rfl)) ?_
 refine Lex.q (v := .pointer (some ⟨bc, 0, none⟩)) rfl (OpQ.y (OpY.fieldAddr Tfo_64_0 rfl rfl)) ?_
 refine Lex.q (v := .slice Ac n cc) rfl (OpQ.y (OpY.load1 Tone_22 rfl (Cells.blk (.head _) ⟨rfl, trivial⟩))) ?_
 refine Lex.q (v := .int .i64 (((n : Nat) : Int))) rfl (OpQ.y (OpY.len Tsl_22 rfl)) ?_
 refine Lex.q (v := .bool (decide ((((s.1 : Nat) : Int)) < (((n : Nat) : Int))))) rfl (OpQ.y (OpY.pure rfl)) ?_
 refine Lex.done ?_
 refine Run.cond (b := decide ((((s.1 : Nat) : Int)) < (((n : Nat) : Int)))) rfl (fun h13 => ?_) (fun h13 => ?_)
 ·have p13 := h13; try simp only [bs] at p13
  have hlt : s.1 < n := by omega
  have hB : nxB cs n s = ix cs s.1 := if_pos hlt
  have hby := hc.by_ _ (ix_mem (xs := cs) (i := s.1) (by omega))
  obtain ⟨b, o, rfl⟩ : ∃ b o, Ac = some ⟨b, o, none⟩ := by
   obtain ⟨b, o, c2, he, _⟩ := hc.sl.form (by omega)
   injection he with e1
   exact ⟨b, o, e1⟩
  refine Run.draws (by kernel_rfl) (by kernel_rfl) ?_
  refine Lex.q (v := .pointer (some ⟨bc, 0, none⟩)) rfl (OpQ.y (OpY.pure rfl)) ?_
  refine Lex.q (v := .pointer (some ⟨bc, 0, none⟩)) rfl (OpQ.y (OpY.nilCheck rfl)) ?_
  refine Lex.q (v := .pointer (some ⟨bc, 0, none⟩)) rfl (OpQ.y (OpY.fieldAddr Tfo_64_0 rfl rfl)) ?_
  refine Lex.q (v := .slice (some ⟨b, o, none⟩) n cc) rfl (OpQ.y (OpY.load1 Tone_22 rfl (Cells.blk (.head _) ⟨rfl, trivial⟩))) ?_
  refine Lex.q (v := .pointer (some ⟨bc, 0, none⟩)) rfl (OpQ.y (OpY.pure rfl)) ?_
  refine Lex.q (v := .pointer (some ⟨bc, 0, none⟩)) rfl (OpQ.y (OpY.nilCheck rfl)) ?_
  refine Lex.q (v := .pointer (some ⟨bc, 1, none⟩)) rfl (OpQ.y (OpY.fieldAddr Tfo_64_1 rfl rfl)) ?_
  refine Lex.q (v := .int .i64 (((s.1 : Nat) : Int))) rfl (OpQ.y (OpY.load1 Tone_3 rfl (Cells.blk (.head _) ⟨rfl, trivial⟩))) ?_
  refine Lex.q (v := .pointer (some ⟨b, o + s.1, none⟩)) rfl (OpQ.y (OpY.index (kk := s.1) Tsl_22 rfl rfl (by omega) (by omega) (by first | rfl | omega))) ?_
  refine Lex.q (v := .int .u8 (ix cs s.1)) rfl (OpQ.y (OpY.load1 Tone_5 rfl (Cells.cur (k := s.1) hc rfl (by omega) (preB (by omega))))) ?_
  refine Lex.q (v := .int .i64 (ix cs s.1)) rfl (OpQ.y (OpY.convIntEq Tsome_5 Tint_3 rfl (by first | (rw [IntKind.wrap_i64]; omega) | (rw [IntKind.wrap_u64]; omega)))) ?_
  refine Lex.q (v := .int .i64 (ix cs s.1)) rfl (OpQ.y (OpY.pure rfl)) ?_
  refine Lex.done ?_
  refine Run.sr ?_
  refine Run.p (.pointer (some ⟨bc, 0, none⟩)) rfl rfl ?_
  refine Run.y (.pointer (some ⟨bc, 0, none⟩)) rfl (OpY.nilCheck rfl) ?_
  refine Run.y (.pointer (some ⟨bc, 1, none⟩)) rfl (OpY.fieldAddr Tfo_64_1 rfl rfl) ?_
  refine Run.y (.int .i64 (((s.1 : Nat) : Int))) rfl (OpY.load1 Tone_3 rfl (Cells.blk (.head _) ⟨rfl, trivial⟩)) ?_
  refine Run.y (.int .i64 ((((s.1 : Nat) : Int)) + 1)) rfl (OpY.add rfl rfl rfl (by omega) (by omega)) ?_
  refine Run.y (.pointer (some ⟨bc, 0, none⟩)) rfl (OpY.nilCheck rfl) ?_
  refine Run.y (.pointer (some ⟨bc, 1, none⟩)) rfl (OpY.fieldAddr Tfo_64_1 rfl rfl) ?_
  refine Run.step rfl (OpStep.store (us := [.int .i64 ((((s.1 : Nat) : Int)) + 1)]) Tsize_3 rfl rfl rfl (.here _) (by simp only [List.length_cons, List.length_nil]; omega) ?_)
  show Run _ _ _ [.blk bc 64 [.slice (some ⟨b, o, none⟩) n cc, .int .i64 ((((s.1 : Nat) : Int)) + 1), .int .u64 (s.2)]]
  refine Run.dsr ?_
  refine Run.p (.pointer (some ⟨bc, 0, none⟩)) rfl rfl ?_
  refine Run.p (.pointer (some ⟨bc, 0, none⟩)) rfl rfl ?_
  refine Run.y (.pointer (some ⟨bc, 0, none⟩)) rfl (OpY.nilCheck rfl) ?_
  refine Run.y (.pointer (some ⟨bc, 2, none⟩)) rfl (OpY.fieldAddr Tfo_64_2 rfl rfl) ?_
  refine Run.y (.int .u64 (s.2)) rfl (OpY.load1 Tone_62 rfl (Cells.blk (.head _) ⟨rfl, trivial⟩)) ?_
  refine Run.y (.int .u64 (IntKind.u64.wrap (s.2 * 6364136223846793005))) rfl (OpY.mulU rfl rfl) ?_
  refine Run.p (.int .i64 (ix cs s.1)) rfl rfl ?_
  refine Run.y (.int .u64 (IntKind.u64.wrap (ix cs s.1))) rfl (OpY.convInt Tsome_3 Tint_62 rfl) ?_
  refine Run.y (.int .u64 (IntKind.u64.wrap (IntKind.u64.wrap (s.2 * 6364136223846793005) + IntKind.u64.wrap (ix cs s.1)))) rfl (OpY.addU rfl rfl) ?_
  refine Run.y (.int .u64 (IntKind.u64.wrap (IntKind.u64.wrap (IntKind.u64.wrap (s.2 * 6364136223846793005) + IntKind.u64.wrap (ix cs s.1)) + 1442695040888963407))) rfl (OpY.addU rfl rfl) ?_
  refine Run.y (.pointer (some ⟨bc, 0, none⟩)) rfl (OpY.nilCheck rfl) ?_
  refine Run.y (.pointer (some ⟨bc, 2, none⟩)) rfl (OpY.fieldAddr Tfo_64_2 rfl rfl) ?_
  refine Run.step rfl (OpStep.store (us := [.int .u64 (IntKind.u64.wrap (IntKind.u64.wrap (IntKind.u64.wrap (s.2 * 6364136223846793005) + IntKind.u64.wrap (ix cs s.1)) + 1442695040888963407))]) Tsize_62 rfl rfl rfl (.here _) (by simp only [List.length_cons, List.length_nil]; omega) ?_)
  show Run _ _ _ [.blk bc 64 [.slice (some ⟨b, o, none⟩) n cc, .int .i64 ((((s.1 : Nat) : Int)) + 1), .int .u64 (IntKind.u64.wrap (IntKind.u64.wrap (IntKind.u64.wrap (s.2 * 6364136223846793005) + IntKind.u64.wrap (ix cs s.1)) + 1442695040888963407))]]
  refine Run.done ?_
  refine Run.seq ?_
  refine Run.seq ?_
  refine Run.draws (by kernel_rfl) (by kernel_rfl) ?_
  refine Lex.q (v := .pointer (some ⟨bc, 0, none⟩)) rfl (OpQ.y (OpY.pure rfl)) ?_
  refine Lex.q (v := .pointer (some ⟨bc, 0, none⟩)) rfl (OpQ.y (OpY.nilCheck rfl)) ?_
  refine Lex.q (v := .pointer (some ⟨bc, 1, none⟩)) rfl (OpQ.y (OpY.fieldAddr Tfo_64_1 rfl rfl)) ?_
  refine Lex.q (v := .int .i64 ((((s.1 : Nat) : Int)) + 1)) rfl (OpQ.y (OpY.load1 Tone_3 rfl (Cells.blk (.head _) ⟨rfl, trivial⟩))) ?_
  refine Lex.q (v := .pointer (some ⟨bc, 0, none⟩)) rfl (OpQ.y (OpY.pure rfl)) ?_
  refine Lex.q (v := .pointer (some ⟨bc, 0, none⟩)) rfl (OpQ.y (OpY.nilCheck rfl)) ?_
  refine Lex.q (v := .pointer (some ⟨bc, 0, none⟩)) rfl (OpQ.y (OpY.fieldAddr Tfo_64_0 rfl rfl)) ?_
  refine Lex.q (v := .slice (some ⟨b, o, none⟩) n cc) rfl (OpQ.y (OpY.load1 Tone_22 rfl (Cells.blk (.head _) ⟨rfl, trivial⟩))) ?_
  refine Lex.q (v := .int .i64 (((n : Nat) : Int))) rfl (OpQ.y (OpY.len Tsl_22 rfl)) ?_
  refine Lex.q (v := .bool (decide (((((s.1 : Nat) : Int)) + 1) ≤ (((n : Nat) : Int))))) rfl (OpQ.y (OpY.pure rfl)) ?_
  refine Lex.done ?_
  refine Run.cond (b := decide (((((s.1 : Nat) : Int)) + 1) ≤ (((n : Nat) : Int)))) rfl (fun h53 => ?_) (fun h53 => ?_)
  ·have p53 := h53; try simp only [bs] at p53
   have hV : nxV cs n s = nxB cs n s := if_pos (by omega)
   refine Run.sr ?_
   refine Run.p (.int .i64 (ix cs s.1)) rfl rfl ?_
   refine Run.p (.int .i64 (ix cs s.1)) rfl rfl ?_
   refine Run.done ?_
   refine Run.ret ?_
   refine ⟨.int .i64 (ix cs s.1), [.blk bc 64 [.slice (some ⟨b, o, none⟩) n cc, .int .i64 ((((nxS cs n s).1 : Nat) : Int)), .int .u64 ((nxS cs n s).2)]], Out.one rfl rfl, (Some'.weak (.takeEq (by rw [nxS, hB]; rfl) (.nil _))), ?_⟩
   exact ⟨by rw [hV, hB]; try rfl, rfl⟩
  ·have p53 := h53; try simp only [bs] at p53
   have hV : nxV cs n s = IntKind.i64.wrap (bits .and .u64 ((sdE s.2 (nxB cs n s)) >>> (40 : Nat)) 255) := if_neg (by omega)
   refine Run.skip ?_
   refine Run.sr ?_
   refine Run.p (.pointer (some ⟨bc, 0, none⟩)) rfl rfl ?_
   refine Run.y (.pointer (some ⟨bc, 0, none⟩)) rfl (OpY.nilCheck rfl) ?_
   refine Run.y (.pointer (some ⟨bc, 2, none⟩)) rfl (OpY.fieldAddr Tfo_64_2 rfl rfl) ?_
   refine Run.y (.int .u64 (IntKind.u64.wrap (IntKind.u64.wrap (IntKind.u64.wrap (s.2 * 6364136223846793005) + IntKind.u64.wrap (ix cs s.1)) + 1442695040888963407))) rfl (OpY.load1 Tone_62 rfl (Cells.blk (.head _) ⟨rfl, trivial⟩)) ?_
   refine Run.y (.int .u64 ((IntKind.u64.wrap (IntKind.u64.wrap (IntKind.u64.wrap (s.2 * 6364136223846793005) + IntKind.u64.wrap (ix cs s.1)) + 1442695040888963407)) >>> (40 : Nat))) rfl (OpY.shrU (n := 40) rfl rfl rfl (by decide)) ?_
   refine Run.y (.int .u64 (bits .and .u64 ((IntKind.u64.wrap (IntKind.u64.wrap (IntKind.u64.wrap (s.2 * 6364136223846793005) + IntKind.u64.wrap (ix cs s.1)) + 1442695040888963407)) >>> (40 : Nat)) 255)) rfl (OpY.and rfl rfl) ?_
   refine Run.y (.int .i64 (IntKind.i64.wrap (bits .and .u64 ((IntKind.u64.wrap (IntKind.u64.wrap (IntKind.u64.wrap (s.2 * 6364136223846793005) + IntKind.u64.wrap (ix cs s.1)) + 1442695040888963407)) >>> (40 : Nat)) 255))) rfl (OpY.convInt Tsome_62 Tint_3 rfl) ?_
   refine Run.p (.int .i64 (IntKind.i64.wrap (bits .and .u64 ((IntKind.u64.wrap (IntKind.u64.wrap (IntKind.u64.wrap (s.2 * 6364136223846793005) + IntKind.u64.wrap (ix cs s.1)) + 1442695040888963407)) >>> (40 : Nat)) 255))) rfl rfl ?_
   refine Run.done ?_
   refine Run.ret ?_
   refine ⟨.int .i64 (IntKind.i64.wrap (bits .and .u64 ((IntKind.u64.wrap (IntKind.u64.wrap (IntKind.u64.wrap (s.2 * 6364136223846793005) + IntKind.u64.wrap (ix cs s.1)) + 1442695040888963407)) >>> (40 : Nat)) 255)), [.blk bc 64 [.slice (some ⟨b, o, none⟩) n cc, .int .i64 ((((nxS cs n s).1 : Nat) : Int)), .int .u64 ((nxS cs n s).2)]], Out.one rfl rfl, (Some'.weak (.takeEq (by rw [nxS, hB]; rfl) (.nil _))), ?_⟩
   exact ⟨by rw [hV, hB]; try rfl, rfl⟩
 ·have p13 := h13; try simp only [bs] at p13
  have hB : nxB cs n s = 0 := if_neg (by omega)
  refine Run.skip ?_
  refine Run.sr ?_
  refine Run.p (.pointer (some ⟨bc, 0, none⟩)) rfl rfl ?_
  refine Run.y (.pointer (some ⟨bc, 0, none⟩)) rfl (OpY.nilCheck rfl) ?_
  refine Run.y (.pointer (some ⟨bc, 1, none⟩)) rfl (OpY.fieldAddr Tfo_64_1 rfl rfl) ?_
  refine Run.y (.int .i64 (((s.1 : Nat) : Int))) rfl (OpY.load1 Tone_3 rfl (Cells.blk (.head _) ⟨rfl, trivial⟩)) ?_
  refine Run.y (.int .i64 ((((s.1 : Nat) : Int)) + 1)) rfl (OpY.add rfl rfl rfl (by omega) (by omega)) ?_
  refine Run.y (.pointer (some ⟨bc, 0, none⟩)) rfl (OpY.nilCheck rfl) ?_
  refine Run.y (.pointer (some ⟨bc, 1, none⟩)) rfl (OpY.fieldAddr Tfo_64_1 rfl rfl) ?_
  refine Run.step rfl (OpStep.store (us := [.int .i64 ((((s.1 : Nat) : Int)) + 1)]) Tsize_3 rfl rfl rfl (.here _) (by simp only [List.length_cons, List.length_nil]; omega) ?_)
  show Run _ _ _ [.blk bc 64 [.slice Ac n cc, .int .i64 ((((s.1 : Nat) : Int)) + 1), .int .u64 (s.2)]]
  refine Run.dsr ?_
  refine Run.p (.pointer (some ⟨bc, 0, none⟩)) rfl rfl ?_
  refine Run.p (.pointer (some ⟨bc, 0, none⟩)) rfl rfl ?_
  refine Run.y (.pointer (some ⟨bc, 0, none⟩)) rfl (OpY.nilCheck rfl) ?_
  refine Run.y (.pointer (some ⟨bc, 2, none⟩)) rfl (OpY.fieldAddr Tfo_64_2 rfl rfl) ?_
  refine Run.y (.int .u64 (s.2)) rfl (OpY.load1 Tone_62 rfl (Cells.blk (.head _) ⟨rfl, trivial⟩)) ?_
  refine Run.y (.int .u64 (IntKind.u64.wrap (s.2 * 6364136223846793005))) rfl (OpY.mulU rfl rfl) ?_
  refine Run.p (.int .i64 0) rfl rfl ?_
  refine Run.y (.int .u64 (IntKind.u64.wrap (0))) rfl (OpY.convInt Tsome_3 Tint_62 rfl) ?_
  refine Run.y (.int .u64 (IntKind.u64.wrap (IntKind.u64.wrap (s.2 * 6364136223846793005) + IntKind.u64.wrap (0)))) rfl (OpY.addU rfl rfl) ?_
  refine Run.y (.int .u64 (IntKind.u64.wrap (IntKind.u64.wrap (IntKind.u64.wrap (s.2 * 6364136223846793005) + IntKind.u64.wrap (0)) + 1442695040888963407))) rfl (OpY.addU rfl rfl) ?_
  refine Run.y (.pointer (some ⟨bc, 0, none⟩)) rfl (OpY.nilCheck rfl) ?_
  refine Run.y (.pointer (some ⟨bc, 2, none⟩)) rfl (OpY.fieldAddr Tfo_64_2 rfl rfl) ?_
  refine Run.step rfl (OpStep.store (us := [.int .u64 (IntKind.u64.wrap (IntKind.u64.wrap (IntKind.u64.wrap (s.2 * 6364136223846793005) + IntKind.u64.wrap (0)) + 1442695040888963407))]) Tsize_62 rfl rfl rfl (.here _) (by simp only [List.length_cons, List.length_nil]; omega) ?_)
  show Run _ _ _ [.blk bc 64 [.slice Ac n cc, .int .i64 ((((s.1 : Nat) : Int)) + 1), .int .u64 (IntKind.u64.wrap (IntKind.u64.wrap (IntKind.u64.wrap (s.2 * 6364136223846793005) + IntKind.u64.wrap (0)) + 1442695040888963407))]]
  refine Run.done ?_
  refine Run.seq ?_
  refine Run.seq ?_
  refine Run.draws (by kernel_rfl) (by kernel_rfl) ?_
  refine Lex.q (v := .pointer (some ⟨bc, 0, none⟩)) rfl (OpQ.y (OpY.pure rfl)) ?_
  refine Lex.q (v := .pointer (some ⟨bc, 0, none⟩)) rfl (OpQ.y (OpY.nilCheck rfl)) ?_
  refine Lex.q (v := .pointer (some ⟨bc, 1, none⟩)) rfl (OpQ.y (OpY.fieldAddr Tfo_64_1 rfl rfl)) ?_
  refine Lex.q (v := .int .i64 ((((s.1 : Nat) : Int)) + 1)) rfl (OpQ.y (OpY.load1 Tone_3 rfl (Cells.blk (.head _) ⟨rfl, trivial⟩))) ?_
  refine Lex.q (v := .pointer (some ⟨bc, 0, none⟩)) rfl (OpQ.y (OpY.pure rfl)) ?_
  refine Lex.q (v := .pointer (some ⟨bc, 0, none⟩)) rfl (OpQ.y (OpY.nilCheck rfl)) ?_
  refine Lex.q (v := .pointer (some ⟨bc, 0, none⟩)) rfl (OpQ.y (OpY.fieldAddr Tfo_64_0 rfl rfl)) ?_
  refine Lex.q (v := .slice Ac n cc) rfl (OpQ.y (OpY.load1 Tone_22 rfl (Cells.blk (.head _) ⟨rfl, trivial⟩))) ?_
  refine Lex.q (v := .int .i64 (((n : Nat) : Int))) rfl (OpQ.y (OpY.len Tsl_22 rfl)) ?_
  refine Lex.q (v := .bool (decide (((((s.1 : Nat) : Int)) + 1) ≤ (((n : Nat) : Int))))) rfl (OpQ.y (OpY.pure rfl)) ?_
  refine Lex.done ?_
  refine Run.cond (b := decide (((((s.1 : Nat) : Int)) + 1) ≤ (((n : Nat) : Int)))) rfl (fun h53 => ?_) (fun h53 => ?_)
  ·have p53 := h53; try simp only [bs] at p53
   have hV : nxV cs n s = nxB cs n s := if_pos (by omega)
   refine Run.sr ?_
   refine Run.p (.int .i64 0) rfl rfl ?_
   refine Run.p (.int .i64 0) rfl rfl ?_
   refine Run.done ?_
   refine Run.ret ?_
   refine ⟨.int .i64 0, [.blk bc 64 [.slice Ac n cc, .int .i64 ((((nxS cs n s).1 : Nat) : Int)), .int .u64 ((nxS cs n s).2)]], Out.one rfl rfl, (Some'.weak (.takeEq (by rw [nxS, hB]; rfl) (.nil _))), ?_⟩
   exact ⟨by rw [hV, hB]; try rfl, rfl⟩
  ·have p53 := h53; try simp only [bs] at p53
   have hV : nxV cs n s = IntKind.i64.wrap (bits .and .u64 ((sdE s.2 (nxB cs n s)) >>> (40 : Nat)) 255) := if_neg (by omega)
   refine Run.skip ?_
   refine Run.sr ?_
   refine Run.p (.pointer (some ⟨bc, 0, none⟩)) rfl rfl ?_
   refine Run.y (.pointer (some ⟨bc, 0, none⟩)) rfl (OpY.nilCheck rfl) ?_
   refine Run.y (.pointer (some ⟨bc, 2, none⟩)) rfl (OpY.fieldAddr Tfo_64_2 rfl rfl) ?_
   refine Run.y (.int .u64 (IntKind.u64.wrap (IntKind.u64.wrap (IntKind.u64.wrap (s.2 * 6364136223846793005) + IntKind.u64.wrap (0)) + 1442695040888963407))) rfl (OpY.load1 Tone_62 rfl (Cells.blk (.head _) ⟨rfl, trivial⟩)) ?_
   refine Run.y (.int .u64 ((IntKind.u64.wrap (IntKind.u64.wrap (IntKind.u64.wrap (s.2 * 6364136223846793005) + IntKind.u64.wrap (0)) + 1442695040888963407)) >>> (40 : Nat))) rfl (OpY.shrU (n := 40) rfl rfl rfl (by decide)) ?_
   refine Run.y (.int .u64 (bits .and .u64 ((IntKind.u64.wrap (IntKind.u64.wrap (IntKind.u64.wrap (s.2 * 6364136223846793005) + IntKind.u64.wrap (0)) + 1442695040888963407)) >>> (40 : Nat)) 255)) rfl (OpY.and rfl rfl) ?_
   refine Run.y (.int .i64 (IntKind.i64.wrap (bits .and .u64 ((IntKind.u64.wrap (IntKind.u64.wrap (IntKind.u64.wrap (s.2 * 6364136223846793005) + IntKind.u64.wrap (0)) + 1442695040888963407)) >>> (40 : Nat)) 255))) rfl (OpY.convInt Tsome_62 Tint_3 rfl) ?_
   refine Run.p (.int .i64 (IntKind.i64.wrap (bits .and .u64 ((IntKind.u64.wrap (IntKind.u64.wrap (IntKind.u64.wrap (s.2 * 6364136223846793005) + IntKind.u64.wrap (0)) + 1442695040888963407)) >>> (40 : Nat)) 255))) rfl rfl ?_
   refine Run.done ?_
   refine Run.ret ?_
   refine ⟨.int .i64 (IntKind.i64.wrap (bits .and .u64 ((IntKind.u64.wrap (IntKind.u64.wrap (IntKind.u64.wrap (s.2 * 6364136223846793005) + IntKind.u64.wrap (0)) + 1442695040888963407)) >>> (40 : Nat)) 255)), [.blk bc 64 [.slice Ac n cc, .int .i64 ((((nxS cs n s).1 : Nat) : Int)), .int .u64 ((nxS cs n s).2)]], Out.one rfl rfl, (Some'.weak (.takeEq (by rw [nxS, hB]; rfl) (.nil _))), ?_⟩
   exact ⟨by rw [hV, hB]; try rfl, rfl⟩

set_option maxHeartbeats 1000000 in
set_option maxRecDepth 20000 in
theorem pick_spec {k : Int} {bc n : Nat} {vc : Value} {cs : List Int} {s : Nat × Int} {w : World} (hat : s.1 < 2305843009213693950) (hc : Cur w bc vc n cs) (hst : St (Of [.blk bc 64 [vc, .int .i64 (((s.1 : Nat) : Int)), .int .u64 (s.2)]]) w w [.blk bc 64 [vc, .int .i64 (((s.1 : Nat) : Int)), .int .u64 (s.2)]]) : Calls Try.prog 43 #[.pointer (some ⟨bc, 0, none⟩), .int .i64 k] w (Post (Of [.blk bc 64 [vc, .int .i64 (((s.1 : Nat) : Int)), .int .u64 (s.2)]]) w fun v H => v = .int .i64 (pkV cs n k s) ∧ H = [.blk bc 64 [vc, .int .i64 ((((pkS cs n k s).1 : Nat) : Int)), .int .u64 ((pkS cs n k s).2)]]) := by
 have hcl : cs.length = n := by have := hc.sl.1; simpa [u8s] using this
 refine enter (n := 20) (args := [.pointer (some ⟨bc, 0, none⟩), .int .i64 k]) Try.func43 rfl rfl (hst) ?_
 refine Run.sr ?_
 refine Run.p (.int .i64 0) rfl rfl ?_
 refine Run.done ?_
 refine Run.seq ?_
 refine Run.sr ?_
 refine Run.p (.int .i64 k) rfl rfl ?_
 refine Run.p (.bool (decide (k ≤ 1))) rfl rfl ?_
 refine Run.done ?_
 refine Run.cond (b := decide (k ≤ 1)) rfl (fun h7 => ?_) (fun h7 => ?_)
 ·have p7 := h7; try simp only [bs] at p7
  have hV : pkV cs n k s = 0 := if_pos p7
  have hS : pkS cs n k s = s := if_pos p7
  refine Run.sr ?_
  refine Run.p (.int .i64 0) rfl rfl ?_
  refine Run.done ?_
  refine Run.ret ?_
  refine ⟨.int .i64 0, [.blk bc 64 [vc, .int .i64 ((((pkS cs n k s).1 : Nat) : Int)), .int .u64 ((pkS cs n k s).2)]], Out.one rfl rfl, (Some'.weak (.takeEq (by rw [hS]) (.nil _))), ?_⟩
  exact ⟨by rw [hV], rfl⟩
 ·have p7 := h7; try simp only [bs] at p7
  refine Run.skip ?_
  refine Run.sr ?_
  refine Run.p (.pointer (some ⟨bc, 0, none⟩)) rfl rfl ?_
  refine Run.step rfl (OpStep.callM (H1 := [.blk bc 64 [vc, .int .i64 (((s.1 : Nat) : Int)), .int .u64 (s.2)]]) (H2 := []) (vs := [.pointer (some ⟨bc, 0, none⟩)]) (caps := []) Tcall_71 rfl rfl (Weak.refl _) (fun w hs => next_spec (s := s) (by first | omega | (show s.1 + 1 < _; omega)) (hc.go hs) (hs.sub (List.sublist_append_left _ _)).self) ?_)
  rintro _ _ ⟨rfl, rfl⟩
  show Run _ _ (putF _ _ _ (.int .i64 (nxV cs n s))) [.blk bc 64 [vc, .int .i64 ((((nxS cs n s).1 : Nat) : Int)), .int .u64 ((nxS cs n s).2)]]
  have hr1 := nxV_range hcl hc.by_ s
  refine Run.p (.int .i64 (nxV cs n s)) rfl rfl ?_
  refine Run.done ?_
  refine Run.seq ?_
  refine Run.sr ?_
  refine Run.p (.int .i64 k) rfl rfl ?_
  refine Run.p (.bool (decide (k > 200))) rfl rfl ?_
  refine Run.done ?_
  refine Run.cond (b := decide (k > 200)) rfl (fun h11 => ?_) (fun h11 => ?_)
  ·have p11 := h11; try simp only [bs] at p11
   have hV : pkV cs n k s = (nxV cs n s * 256 + nxV cs n (nxS cs n s)) % k := by rw [pkV, if_neg (by omega), if_pos p11]
   have hS : pkS cs n k s = nxS cs n (nxS cs n s) := by rw [pkS, if_neg (by omega), if_pos p11]
   refine Run.region ?_
   refine Run.p (.int .i64 (nxV cs n s)) rfl rfl ?_
   refine Run.y (.int .i64 ((nxV cs n s) * 256)) rfl (OpY.mul rfl rfl (by first | rfl | grind) (by omega) (by omega)) ?_
   refine Run.p (.pointer (some ⟨bc, 0, none⟩)) rfl rfl ?_
   refine Run.step rfl (OpStep.callM (H1 := [.blk bc 64 [vc, .int .i64 ((((nxS cs n s).1 : Nat) : Int)), .int .u64 ((nxS cs n s).2)]]) (H2 := []) (vs := [.pointer (some ⟨bc, 0, none⟩)]) (caps := []) Tcall_71 rfl rfl (Weak.refl _) (fun w hs => next_spec (s := (nxS cs n s)) (by first | omega | (show s.1 + 1 < _; omega)) (hc.go hs) (hs.sub (List.sublist_append_left _ _)).self) ?_)
   rintro _ _ ⟨rfl, rfl⟩
   show Run _ _ (putF _ _ _ (.int .i64 (nxV cs n (nxS cs n s)))) [.blk bc 64 [vc, .int .i64 ((((nxS cs n (nxS cs n s)).1 : Nat) : Int)), .int .u64 ((nxS cs n (nxS cs n s)).2)]]
   have hr2 := nxV_range hcl hc.by_ (nxS cs n s)
   refine Run.y (.int .i64 (((nxV cs n s) * 256) + (nxV cs n (nxS cs n s)))) rfl (OpY.add rfl rfl rfl (by omega) (by omega)) ?_
   refine Run.p (.int .i64 (((nxV cs n s) * 256) + (nxV cs n (nxS cs n s)))) rfl rfl ?_
   refine Run.dsr ?_
   refine Run.p (.int .i64 (((nxV cs n s) * 256) + (nxV cs n (nxS cs n s)))) rfl rfl ?_
   refine Run.p (.int .i64 k) rfl rfl ?_
   refine Run.y (.int .i64 ((((nxV cs n s) * 256) + (nxV cs n (nxS cs n s))) % k)) rfl (OpY.rem rfl rfl (by omega) (by omega)) ?_
   refine Run.p (.int .i64 ((((nxV cs n s) * 256) + (nxV cs n (nxS cs n s))) % k)) rfl rfl ?_
   refine Run.done ?_
   refine Run.ret ?_
   refine ⟨.int .i64 ((((nxV cs n s) * 256) + (nxV cs n (nxS cs n s))) % k), [.blk bc 64 [vc, .int .i64 ((((pkS cs n k s).1 : Nat) : Int)), .int .u64 ((pkS cs n k s).2)]], Out.one rfl rfl, (Some'.weak (.takeEq (by rw [hS]) (.nil _))), ?_⟩
   exact ⟨by rw [hV], rfl⟩
  ·have p11 := h11; try simp only [bs] at p11
   have hV : pkV cs n k s = nxV cs n s % k := by rw [pkV, if_neg (by omega), if_neg (by omega)]
   have hS : pkS cs n k s = nxS cs n s := by rw [pkS, if_neg (by omega), if_neg (by omega)]
   refine Run.skip ?_
   refine Run.sr ?_
   refine Run.p (.int .i64 (nxV cs n s)) rfl rfl ?_
   refine Run.p (.int .i64 k) rfl rfl ?_
   refine Run.y (.int .i64 ((nxV cs n s) % k)) rfl (OpY.rem rfl rfl (by omega) (by omega)) ?_
   refine Run.p (.int .i64 ((nxV cs n s) % k)) rfl rfl ?_
   refine Run.done ?_
   refine Run.ret ?_
   refine ⟨.int .i64 ((nxV cs n s) % k), [.blk bc 64 [vc, .int .i64 ((((pkS cs n k s).1 : Nat) : Int)), .int .u64 ((pkS cs n k s).2)]], Out.one rfl rfl, (Some'.weak (.takeEq (by rw [hS]) (.nil _))), ?_⟩
   exact ⟨by rw [hV], rfl⟩

theorem pick_ex {k : Int} {bc n : Nat} {vc : Value} {cs : List Int} {s : Nat × Int} {w : World} (hat : s.1 < 2305843009213693950) (hc : Cur w bc vc n cs) (hst : St (Of [.blk bc 64 [vc, .int .i64 (((s.1 : Nat) : Int)), .int .u64 (s.2)]]) w w [.blk bc 64 [vc, .int .i64 (((s.1 : Nat) : Int)), .int .u64 (s.2)]]) : Calls Try.prog 43 #[.pointer (some ⟨bc, 0, none⟩), .int .i64 k] w (Post (Of [.blk bc 64 [vc, .int .i64 (((s.1 : Nat) : Int)), .int .u64 (s.2)]]) w fun v H => ∃ (x : Int) (s1 : Nat × Int), (0 ≤ x ∧ (x < k ∨ x = 0)) ∧ s1.1 ≤ s.1 + 2 ∧ v = .int .i64 x ∧ H = [.blk bc 64 [vc, .int .i64 (((s1.1 : Nat) : Int)), .int .u64 (s1.2)]]) :=
  (pick_spec hat hc hst).mono fun e w1 ⟨v, H, h1, h2, h3, h4⟩ => ⟨v, H, h1, h2, _, _, pkV_range cs n k s, pkS_le cs n k s, h3, h4⟩

set_option maxHeartbeats 1000000 in
set_option maxRecDepth 20000 in
theorem one_spec {k : Int} {bc n : Nat} {vc : Value} {cs : List Int} {s : Nat × Int} {w : World} (hat : s.1 < 2305843009213693950) (hc : Cur w bc vc n cs) (hst : St (Of [.blk bc 64 [vc, .int .i64 (((s.1 : Nat) : Int)), .int .u64 (s.2)]]) w w [.blk bc 64 [vc, .int .i64 (((s.1 : Nat) : Int)), .int .u64 (s.2)]]) : Calls Try.prog 42 #[.pointer (some ⟨bc, 0, none⟩), .int .i64 k] w (Post (Of [.blk bc 64 [vc, .int .i64 (((s.1 : Nat) : Int)), .int .u64 (s.2)]]) w fun v H => v = .bool (pkV cs n k s == 0) ∧ H = [.blk bc 64 [vc, .int .i64 ((((pkS cs n k s).1 : Nat) : Int)), .int .u64 ((pkS cs n k s).2)]]) := by
 refine enter (n := 9) (args := [.pointer (some ⟨bc, 0, none⟩), .int .i64 k]) Try.func42 rfl rfl (hst) ?_
 refine Run.sr ?_
 refine Run.p (.bool false) rfl rfl ?_
 refine Run.dsr ?_
 refine Run.p (.pointer (some ⟨bc, 0, none⟩)) rfl rfl ?_
 refine Run.p (.int .i64 k) rfl rfl ?_
 refine Run.step rfl (OpStep.callM (H1 := [.blk bc 64 [vc, .int .i64 (((s.1 : Nat) : Int)), .int .u64 (s.2)]]) (H2 := []) (vs := [.pointer (some ⟨bc, 0, none⟩), .int .i64 k]) (caps := []) Tcall_43 rfl rfl (Weak.refl _) (fun w hs => pick_spec (s := s) hat (hc.go hs) (hs.sub (List.sublist_append_left _ _)).self) ?_)
 rintro _ _ ⟨rfl, rfl⟩
 show Run _ _ (putF _ _ _ (.int .i64 (pkV cs n k s))) [.blk bc 64 [vc, .int .i64 ((((pkS cs n k s).1 : Nat) : Int)), .int .u64 ((pkS cs n k s).2)]]
 refine Run.p (.bool ((pkV cs n k s) == 0)) rfl rfl ?_
 refine Run.p (.bool ((pkV cs n k s) == 0)) rfl rfl ?_
 refine Run.done ?_
 refine Run.ret ?_
 refine ⟨.bool ((pkV cs n k s) == 0), [.blk bc 64 [vc, .int .i64 ((((pkS cs n k s).1 : Nat) : Int)), .int .u64 ((pkS cs n k s).2)]], Out.one rfl rfl, (Some'.weak (.take (.nil _))), ?_⟩
 exact ⟨rfl, rfl⟩

theorem one_ex {k : Int} {bc n : Nat} {vc : Value} {cs : List Int} {s : Nat × Int} {w : World} (hat : s.1 < 2305843009213693950) (hc : Cur w bc vc n cs) (hst : St (Of [.blk bc 64 [vc, .int .i64 (((s.1 : Nat) : Int)), .int .u64 (s.2)]]) w w [.blk bc 64 [vc, .int .i64 (((s.1 : Nat) : Int)), .int .u64 (s.2)]]) : Calls Try.prog 42 #[.pointer (some ⟨bc, 0, none⟩), .int .i64 k] w (Post (Of [.blk bc 64 [vc, .int .i64 (((s.1 : Nat) : Int)), .int .u64 (s.2)]]) w fun v H => ∃ (x : Bool) (s1 : Nat × Int), s1.1 ≤ s.1 + 2 ∧ v = .bool x ∧ H = [.blk bc 64 [vc, .int .i64 (((s1.1 : Nat) : Int)), .int .u64 (s1.2)]]) :=
  (one_spec hat hc hst).mono fun e w1 ⟨v, H, h1, h2, h3, h4⟩ => ⟨v, H, h1, h2, _, _, pkS_le cs n k s, h3, h4⟩


theorem Cur.go2 {w0 w : World} {bc : Nat} {vc vl : Value} {n m size : Nat} {e : TypeId} {cs : List Int} {t : TypeId} {us ls : List Value} {H : List Res} (h : Cur w0 bc vc n cs) (ho : 0 < n → ∀ k, vc.ownBlock = some k → vl.ownBlock ≠ some k) (hs : St (Of [.blk bc t us, .own vl e size m ls]) w0 w H) : Cur w bc vc n cs :=
  ⟨hs.slOff h.sl fun h0 k hk ⟨r, hr, hrk⟩ => by
    simp only [List.mem_cons, List.not_mem_nil, or_false] at hr
    rcases hr with rfl | rfl
    · exact h.off h0 k hk hrk.symm
    · exact ho h0 k hk hrk, h.off, h.by_⟩

set_option maxHeartbeats 1000000 in
set_option maxRecDepth 20000 in
theorem among_spec {vl : Value} {m : Nat} {ls : List Int} {bc n : Nat} {vc : Value} {cs : List Int} {s : Nat × Int} {w : World} (hat : s.1 < 2305843009213693950) (hm : 0 < m) (hc : Cur w bc vc n cs) (hoff : 0 < n → ∀ k, vc.ownBlock = some k → vl.ownBlock ≠ some k) (hst : St (Of [.blk bc 64 [vc, .int .i64 (((s.1 : Nat) : Int)), .int .u64 (s.2)], .own vl 3 1 m (ints ls)]) w w [.blk bc 64 [vc, .int .i64 (((s.1 : Nat) : Int)), .int .u64 (s.2)], .own vl 3 1 m (ints ls)]) : Calls Try.prog 44 #[.pointer (some ⟨bc, 0, none⟩), vl] w (Post (Of [.blk bc 64 [vc, .int .i64 (((s.1 : Nat) : Int)), .int .u64 (s.2)], .own vl 3 1 m (ints ls)]) w fun v H => ∃ (i : Nat) (s1 : Nat × Int), i < m ∧ s1.1 ≤ s.1 + 2 ∧ v = .int .i64 (ix ls i) ∧ H = [.blk bc 64 [vc, .int .i64 (((s1.1 : Nat) : Int)), .int .u64 (s1.2)]]) := by
 have hll : ls.length = m := by have h := (hst.slOwn (.tail _ (.head _))).len; omega
 refine enter (n := 12) (args := [.pointer (some ⟨bc, 0, none⟩), vl]) Try.func44 rfl rfl (hst) ?_
 refine Run.sr ?_
 refine Run.p (.int .i64 0) rfl rfl ?_
 refine Run.dsr ?_
 refine Run.p (vl) rfl rfl ?_
 refine Run.p (.pointer (some ⟨bc, 0, none⟩)) rfl rfl ?_
 refine Run.p (vl) rfl rfl ?_
 refine Run.formOwn (.tail _ (List.Mem.head _)) (fun A_vl1 c_vl1 hv hcapc_vl1 hmaxc_vl1 => ?_) (fun _ _ _ => ⟨nofun, nofun, nofun⟩)
 subst hv
 refine Run.y (.int .i64 (((m : Nat) : Int))) rfl (OpY.len Tsl_24 rfl) ?_
 have hoff2 := hoff
 refine Run.step rfl (OpStep.callM (H1 := [.blk bc 64 [vc, .int .i64 (((s.1 : Nat) : Int)), .int .u64 (s.2)]]) (H2 := [.own (.slice A_vl1 m c_vl1) 3 1 m (ints ls)]) (vs := [.pointer (some ⟨bc, 0, none⟩), .int .i64 (((m : Nat) : Int))]) (caps := []) Tcall_43 rfl rfl (Weak.refl _) (fun w hs => pick_ex (s := s) hat (Cur.go2 hc hoff2 hs) (hs.sub (List.sublist_append_left _ _)).self) ?_)
 rintro _ _ ⟨x1, s1, hx1, hs1, rfl, rfl⟩
 show Run _ _ (putF _ _ _ (.int .i64 x1)) [.blk bc 64 [vc, .int .i64 (((s1.1 : Nat) : Int)), .int .u64 (s1.2)], .own (.slice A_vl1 m c_vl1) 3 1 m (ints ls)]
 refine Run.openOwn (.tail _ (List.Mem.head _)) (by omega) (fun gl cl hvgl hcapgl _ => ?_) (fun _ _ _ => ⟨nofun, nofun, nofun⟩)
 injection hvgl with hAgl _ hcgl; subst hAgl; subst hcgl
 refine Run.y (.pointer (some ⟨gl, x1.toNat, none⟩)) rfl (OpY.index (kk := x1.toNat) Tsl_24 rfl rfl (by omega) (by omega) (by first | rfl | omega)) ?_
 refine Run.y (.int .i64 (ix ls (x1.toNat))) rfl (OpY.load1 Tone_3 rfl (Cells.own0 (.tail _ (List.Mem.head _)) (pre1 (by omega)))) ?_
 refine Run.p (.int .i64 (ix ls (x1.toNat))) rfl rfl ?_
 refine Run.done ?_
 refine Run.ret ?_
 refine ⟨.int .i64 (ix ls (x1.toNat)), [.blk bc 64 [vc, .int .i64 (((s1.1 : Nat) : Int)), .int .u64 (s1.2)]], Out.one rfl rfl, (Some'.weak (.take (.nil _))), ?_⟩
 exact ⟨x1.toNat, s1, by omega, hs1, rfl, rfl⟩

end Go.Proofs.Ytoiaibgcjfgbcaa
/- How the laws' slices of bytes are read. -/
set_option linter.unusedSimpArgs false
set_option linter.unusedVariables false
namespace Go.Proofs.Ytoiaibgcjfgbcaa
open Go Go.RowKit
open Go.ChangeShapes Go.WideShapes Go.Deep
theorem byte_wf {n : Int} (h : (Lit.int .u8 n).wf = true) : 0 ≤ n ∧ n < 256 := by
  have h' : (decide (0 ≤ n) && decide (n ≤ 255)) = true := by
    first | exact h | simpa [Lit.wf, IntKind.min, IntKind.max] using h
  simp only [Bool.and_eq_true, decide_eq_true_eq] at h'
  omega
theorem open_bytes {H : Type} {enc : TypeId × Value → H} {P : Program} {w : World} {base : Nat} {spare : Nat → Bool} {held : Bool} {t e : TypeId} {fuel : Nat} {v : Value} {x : DataW H × List MemPlace}
    (ht : P.underlying t = some (.slice e)) (hu : P.underlying e = some (.int .u8)) (hc : P.cellsOf e = 1) (h : DataW.trod enc P w base spare held fuel t [v] = some x) :
    ∃ n cs, Sl w v 1 n (u8s cs) ∧ ∀ i ∈ cs, 0 ≤ i ∧ i < 256 := by
  rcases open_slice1 ht hc h with ⟨hv, _⟩ | ⟨a, len, cap, m, n, V, D, Pl, hcs, hb, hl, hm, hmm, hx, hi⟩
  · simp only [List.cons.injEq, and_true] at hv
    subst hv
    exact ⟨0, [], ⟨by simp [u8s], none, 0, rfl, Nat.le_refl _, by simp, fun h => absurd h (by omega)⟩, by simp⟩
  · simp only [List.cons.injEq, and_true] at hcs
    subst hcs
    have hle : len ≤ m := by rw [hmm]; split <;> omega
    have key : ∀ j, j < len → ∃ n, w.cell? (a.add j) = some (.int .u8 n) ∧ 0 ≤ n ∧ n < 256 := by
      intro j hj
      obtain ⟨h1, h2⟩ := hi j (by omega)
      obtain ⟨n', he, _, hw⟩ := DataW.trod_int hu h2
      simp only [List.cons.injEq, and_true] at he
      rw [he] at h1
      exact ⟨n', h1, byte_wf hw⟩
    have hnil : ∀ {a : Addr} {u : Value}, w.cell? a = some u → ∃ b o, a = ⟨b, o, none⟩ ∧ b < w.heap.size := by
      rintro ⟨b, o, sp⟩ u hu
      unfold World.cell? at hu
      split at hu
      · rename_i c _ _ hb
        cases sp with
        | none => exact ⟨b, o, rfl, (Array.getElem?_eq_some_iff.1 hb).1⟩
        | some s => simp at hu
      · cases hu
    rcases Nat.eq_zero_or_pos len with hl0 | hl0
    · subst hl0
      exact ⟨0, [], ⟨by simp [u8s], some a, cap, rfl, by omega, hm, fun h => absurd h (by omega)⟩, by simp⟩
    · obtain ⟨n0, h0, _⟩ := key 0 hl0
      have h00 : w.cell? a = some (.int .u8 n0) := by simpa [Addr.add] using h0
      obtain ⟨b, o, rfl, hbs⟩ := hnil h00
      let g : Nat → Int := fun j => match w.cell? ⟨b, o + j, none⟩ with | some (.int _ n) => n | _ => 0
      have hg : ∀ j, j < len → w.cell? ⟨b, o + j, none⟩ = some (.int .u8 (g j)) ∧ 0 ≤ g j ∧ g j < 256 := by
        intro j hj
        obtain ⟨n, h1, h2⟩ := key j hj
        rw [Addr.add_mid] at h1
        have : g j = n := by simp only [g, h1]
        rw [this]; exact ⟨h1, h2⟩
      refine ⟨len, (List.range len).map g, ⟨by simp [u8s], some ⟨b, o, none⟩, cap, rfl, hl, hm, fun _ => ⟨b, o, rfl, hbs, ?_⟩⟩, ?_⟩
      · intro j v hv
        have hj : j < len := by
          have := (List.getElem?_eq_some_iff.1 hv).1
          simpa [u8s] using this
        have : v = .int .u8 (g j) := by simpa [u8s, hj] using hv.symm
        rw [this]; exact (hg j hj).1
      · intro i hi'
        obtain ⟨j, hj, rfl⟩ := List.mem_map.1 hi'
        exact (hg j (by simpa using hj)).2

end Go.Proofs.Ytoiaibgcjfgbcaa
/- Walks: small functions. -/
set_option linter.unusedSimpArgs false
set_option linter.unusedVariables false
namespace Go.Proofs.Ytoiaibgcjfgbcaa
open Go Go.RowKit
set_option maxHeartbeats 1000000 in
set_option maxRecDepth 20000 in
theorem within_spec (x lo hi : Int) (w : World) : Calls Try.prog 48 #[.int .i64 x, .int .i64 lo, .int .i64 hi] w (Post No w fun v _ => v = .bool (within x lo hi)) := by
 refine enter (n := 15) (args := [.int .i64 x, .int .i64 lo, .int .i64 hi]) Try.func48 rfl rfl (St.empty _ _) ?_
 refine Run.sr ?_
 refine Run.p (.bool false) rfl rfl ?_
 refine Run.dsr ?_
 refine Run.p (.int .i64 lo) rfl rfl ?_
 refine Run.p (.int .i64 x) rfl rfl ?_
 refine Run.p (.bool (decide (lo ≤ x))) rfl rfl ?_
 rcases Bool.eq_false_or_eq_true (decide (lo ≤ x)) with h10 | h10
 ·refine Run.q (v := .bool true) rfl (OpQ.y (OpY.moveB rfl h10)) ?_
  have p10 := h10; try simp only [bs] at p10
  refine Run.p (.int .i64 x) rfl rfl ?_
  refine Run.p (.int .i64 hi) rfl rfl ?_
  refine Run.p (.bool (decide (x ≤ hi))) rfl rfl ?_
  refine Run.p (.bool (decide (x ≤ hi))) rfl rfl ?_
  refine Run.p (.bool (decide (x ≤ hi))) rfl rfl ?_
  refine Run.done ?_
  refine Run.ret ?_
  refine ⟨.bool (decide (x ≤ hi)), [], Out.one rfl rfl, (Some'.weak (.nil _)), ?_⟩
  show _ = _; simp [within, *]
 ·refine Run.q (v := .bool false) rfl (OpQ.y (OpY.moveB rfl h10)) ?_
  have p10 := h10; try simp only [bs] at p10
  refine Run.pass rfl ?_
  refine Run.pass rfl ?_
  refine Run.pass rfl ?_
  refine Run.p (.bool false) rfl rfl ?_
  refine Run.p (.bool false) rfl rfl ?_
  refine Run.done ?_
  refine Run.ret ?_
  refine ⟨.bool false, [], Out.one rfl rfl, (Some'.weak (.nil _)), ?_⟩
  show _ = _; simp [within, *]

set_option maxHeartbeats 1000000 in
set_option maxRecDepth 20000 in
theorem l1In_spec (x lo hi : Int) (w : World) : Calls Try.prog 55 #[.int .i64 x, .int .i64 lo, .int .i64 hi] w (Post No w fun v _ => v = .bool (within x lo hi)) := by
 refine enter (n := 15) (args := [.int .i64 x, .int .i64 lo, .int .i64 hi]) Try.func55 rfl rfl (St.empty _ _) ?_
 refine Run.sr ?_
 refine Run.p (.bool false) rfl rfl ?_
 refine Run.dsr ?_
 refine Run.p (.int .i64 x) rfl rfl ?_
 refine Run.p (.int .i64 lo) rfl rfl ?_
 refine Run.p (.bool (decide (x ≥ lo))) rfl rfl ?_
 rcases Bool.eq_false_or_eq_true (decide (x ≥ lo)) with h10 | h10
 ·refine Run.q (v := .bool true) rfl (OpQ.y (OpY.moveB rfl h10)) ?_
  have p10 := h10; try simp only [bs] at p10
  refine Run.p (.int .i64 x) rfl rfl ?_
  refine Run.p (.int .i64 hi) rfl rfl ?_
  refine Run.p (.bool (decide (x ≤ hi))) rfl rfl ?_
  refine Run.p (.bool (decide (x ≤ hi))) rfl rfl ?_
  refine Run.p (.bool (decide (x ≤ hi))) rfl rfl ?_
  refine Run.done ?_
  refine Run.ret ?_
  refine ⟨.bool (decide (x ≤ hi)), [], Out.one rfl rfl, (Some'.weak (.nil _)), ?_⟩
  show _ = _; simp_all [within] <;> omega
 ·refine Run.q (v := .bool false) rfl (OpQ.y (OpY.moveB rfl h10)) ?_
  have p10 := h10; try simp only [bs] at p10
  refine Run.pass rfl ?_
  refine Run.pass rfl ?_
  refine Run.pass rfl ?_
  refine Run.p (.bool false) rfl rfl ?_
  refine Run.p (.bool false) rfl rfl ?_
  refine Run.done ?_
  refine Run.ret ?_
  refine ⟨.bool false, [], Out.one rfl rfl, (Some'.weak (.nil _)), ?_⟩
  show _ = _; simp_all [within] <;> omega

end Go.Proofs.Ytoiaibgcjfgbcaa
/- Walks: the laws' own functions on edges and coupling graphs. -/
set_option linter.unusedSimpArgs false
set_option linter.unusedVariables false
namespace Go.Proofs.Ytoiaibgcjfgbcaa
open Go Go.RowKit
end Go.Proofs.Ytoiaibgcjfgbcaa
/- Walks: valid edges, valid coupling graphs; the law FnExactIsValidCouplingGraph. -/
set_option linter.unusedSimpArgs false
set_option linter.unusedVariables false
namespace Go.Proofs.Ytoiaibgcjfgbcaa
open Go Go.RowKit
namespace Cg2T
theorem Tagg_80 : aggOf Try.prog 80 = some 2 := by kernel_rfl
theorem Tfo_80_0 : fieldOff Try.prog 80 0 = some 0 := by kernel_rfl
theorem Tfo_80_1 : fieldOff Try.prog 80 1 = some 1 := by kernel_rfl
theorem Tone_3 : oneOf Try.prog 3 = true := by kernel_rfl
theorem Tsize_80 : (Try.prog.info? 80).map (·.size) = some 2 := by kernel_rfl
theorem Tsl_23 : sliceOf Try.prog 23 = some (80, 2, 16, [.int .i64 0, .int .i64 0]) := by kernel_rfl
theorem Tzero_80 : zeroOf Try.prog 80 = some [.int .i64 0, .int .i64 0] := by kernel_rfl
end Cg2T
open Cg2T
/-- Edge i of a flat list of edges is in range and behind the one before it. -/
def edgeOk (N : Int) (xs : List Int) (i : Nat) : Prop :=
  0 ≤ ix xs (i * 2) ∧ ix xs (i * 2) < ix xs (i * 2 + 1) ∧ ix xs (i * 2 + 1) < N ∧ (0 < i → ix xs ((i - 1) * 2) < ix xs (i * 2) ∨ (ix xs ((i - 1) * 2) = ix xs (i * 2) ∧ ix xs ((i - 1) * 2 + 1) < ix xs (i * 2 + 1)))
instance (N : Int) (xs : List Int) (i : Nat) : Decidable (edgeOk N xs i) := by unfold edgeOk; infer_instance
def edgesOk (N : Int) (xs : List Int) (n : Nat) : Bool := decide (∀ i, i < n → edgeOk N xs i)
set_option maxHeartbeats 1000000 in
set_option maxRecDepth 20000 in
theorem areEdges_spec {N : Int} {va : Value} {n : Nat} {xs : List Int} {w : World} (ha : Sl w va 2 n (ints xs)) : Calls Try.prog 50 #[.int .i64 N, va] w (Post No w fun v _ => v = .bool (edgesOk N xs n)) := by
 have hxl := ha.len
 have hn := ha.le
 obtain ⟨A, c, rfl, _, _⟩ := ha.form0
 refine enter (n := 68) (args := [.int .i64 N, .slice A n c]) Try.func50 rfl rfl (St.empty _ _) ?_
 refine Run.sr ?_
 refine Run.p (.bool false) rfl rfl ?_
 refine Run.done ?_
 refine Run.seq ?_
 refine Run.sr ?_
 refine Run.p (.slice A n c) rfl rfl ?_
 refine Run.y (.int .i64 (((n : Nat) : Int))) rfl (OpY.len Tsl_23 rfl) ?_
 refine Run.p (.int .i64 0) rfl rfl ?_
 refine Run.done ?_
 refine Run.block ?_
 refine Run.loop (ι := Nat) ([4, 5, 6, 9, 10, 11, 12, 13, 14, 15, 16, 17, 18, 19, 20, 21, 22, 23, 24, 25, 26, 27, 28, 29, 30, 31, 32, 33, 34, 35, 36, 37, 38, 39, 40, 41, 42, 43, 44, 45, 46, 47, 48, 49, 50, 51, 52, 53, 54, 55] ++ [56, 57, 58, 59, 60, 61, 62, 63, 64, 65, 66, 67]) (fun k => [(9, .int .i64 (((k : Nat) : Int)))]) (fun k => []) (fun k => k ≤ n ∧ ∀ i, i < k → edgeOk N xs i) (fun k => n - k) 0 ?_ ?_ ?_ ?_
 ·exact ⟨Nat.zero_le _, fun i hi => by omega⟩
 ·exact ⟨rfl, trivial⟩
 ·exact (Some'.weak (.nil _))
 ·rintro k fr hinv
  show Run _ _ (over _ _ [(9, .int .i64 (((k : Nat) : Int)))] fr) []
  try dsimp only at hinv
  refine Run.sr ?_
  refine Run.p (.bool (decide ((((k : Nat) : Int)) < (((n : Nat) : Int))))) rfl rfl ?_
  refine Run.done ?_
  refine Run.seq ?_
  refine Run.cond (b := decide ((((k : Nat) : Int)) < (((n : Nat) : Int)))) rfl (fun h10 => ?_) (fun h10 => ?_)
  ·have p10 := h10; try simp only [bs] at p10
   have hlt : k < n := by simp at h10; omega
   obtain ⟨b, o, rfl⟩ := ha.opn (by omega)
   refine Run.skip ?_
   refine Run.seq ?_
   refine Run.block ?_
   refine Run.sr ?_
   refine Run.p (.int .i64 (((k : Nat) : Int))) rfl rfl ?_
   refine Run.y (.pointer (some ⟨b, o + k * 2, none⟩)) rfl (OpY.index (kk := k) Tsl_23 rfl rfl (by omega) (by omega) (by first | rfl | omega)) ?_
   refine Run.y (.agg #[.int .i64 (ix xs (k * 2)), .int .i64 (ix xs (k * 2 + 1))]) rfl (OpY.loadN (cs := [.int .i64 (ix xs (k * 2)), .int .i64 (ix xs (k * 2 + 1))]) Tagg_80 rfl (Cells.arg (k := k * 2) ha rfl (by omega) (pre2 (by omega)))) ?_
   refine Run.step rfl (OpStep.alloc (zs := [.int .i64 0, .int .i64 0]) Tzero_80 fun b1 => ?_)
   refine Run.p (.int .i64 (((k : Nat) : Int))) rfl rfl ?_
   refine Run.step rfl (OpStep.storeAll (us := [.int .i64 (ix xs (k * 2)), .int .i64 (ix xs (k * 2 + 1))]) Tsize_80 rfl rfl rfl (.here _) rfl ?_)
   refine Run.done ?_
   refine Run.seq ?_
   refine Run.draws (by kernel_rfl) (by kernel_rfl) ?_
   refine Lex.q (v := .pointer (some ⟨b1, 0, none⟩)) rfl (OpQ.y (OpY.fieldAddr Tfo_80_0 rfl rfl)) ?_
   refine Lex.q (v := .int .i64 (ix xs (k * 2))) rfl (OpQ.y (OpY.load1 Tone_3 rfl (Cells.blk (.head _) ⟨rfl, trivial⟩))) ?_
   refine Lex.q (v := .bool (decide ((ix xs (k * 2)) < 0))) rfl (OpQ.y (OpY.pure rfl)) ?_
   rcases Bool.eq_false_or_eq_true (decide ((ix xs (k * 2)) < 0)) with h17 | h17
   ·refine Lex.q (v := .bool true) rfl (OpQ.y (OpY.moveB rfl h17)) ?_
    have p17 := h17; try simp only [bs] at p17
    refine Lex.pass rfl ?_
    refine Lex.pass rfl ?_
    refine Lex.pass rfl ?_
    refine Lex.pass rfl ?_
    refine Lex.pass rfl ?_
    refine Lex.q (v := .bool true) rfl (OpQ.y (OpY.pure rfl)) ?_
    refine Lex.q (v := .bool true) rfl (OpQ.y (OpY.pure rfl)) ?_
    refine Lex.pass rfl ?_
    refine Lex.pass rfl ?_
    refine Lex.pass rfl ?_
    refine Lex.pass rfl ?_
    refine Lex.q (v := .bool true) rfl (OpQ.y (OpY.pure rfl)) ?_
    refine Lex.q (v := .bool true) rfl (OpQ.y (OpY.pure rfl)) ?_
    refine Lex.pass rfl ?_
    refine Lex.pass rfl ?_
    refine Lex.pass rfl ?_
    refine Lex.pass rfl ?_
    refine Lex.pass rfl ?_
    refine Lex.pass rfl ?_
    refine Lex.pass rfl ?_
    refine Lex.pass rfl ?_
    refine Lex.pass rfl ?_
    refine Lex.pass rfl ?_
    refine Lex.pass rfl ?_
    refine Lex.pass rfl ?_
    refine Lex.pass rfl ?_
    refine Lex.pass rfl ?_
    refine Lex.pass rfl ?_
    refine Lex.pass rfl ?_
    refine Lex.pass rfl ?_
    refine Lex.pass rfl ?_
    refine Lex.pass rfl ?_
    refine Lex.pass rfl ?_
    refine Lex.pass rfl ?_
    refine Lex.pass rfl ?_
    refine Lex.pass rfl ?_
    refine Lex.pass rfl ?_
    refine Lex.pass rfl ?_
    refine Lex.pass rfl ?_
    refine Lex.pass rfl ?_
    refine Lex.pass rfl ?_
    refine Lex.pass rfl ?_
    refine Lex.pass rfl ?_
    refine Lex.pass rfl ?_
    refine Lex.pass rfl ?_
    refine Lex.pass rfl ?_
    refine Lex.pass rfl ?_
    refine Lex.pass rfl ?_
    refine Lex.q (v := .bool true) rfl (OpQ.y (OpY.pure rfl)) ?_
    refine Lex.done ?_
    refine Run.cond (b := true) rfl (fun _ => ?_) (fun h => nomatch h)
    refine Run.seq ?_
    have hbad : edgesOk N xs n = false := by
     simp only [edgesOk, decide_eq_false_iff_not]; intro h; have h1 := h k hlt; simp only [edgeOk] at *; omega
    refine Run.region ?_
    refine Run.p (.bool false) rfl rfl ?_
    refine Run.done ?_
    refine Run.ret ?_
    refine ⟨.bool false, [], Out.one rfl rfl, (Some'.weak (.nil _)), ?_⟩
    show _ = _; simp_all
   ·refine Lex.q (v := .bool false) rfl (OpQ.y (OpY.moveB rfl h17)) ?_
    have p17 := h17; try simp only [bs] at p17
    refine Lex.q (v := .pointer (some ⟨b1, 0, none⟩)) rfl (OpQ.y (OpY.fieldAddr Tfo_80_0 rfl rfl)) ?_
    refine Lex.q (v := .int .i64 (ix xs (k * 2))) rfl (OpQ.y (OpY.load1 Tone_3 rfl (Cells.blk (.head _) ⟨rfl, trivial⟩))) ?_
    refine Lex.q (v := .pointer (some ⟨b1, 1, none⟩)) rfl (OpQ.y (OpY.fieldAddr Tfo_80_1 rfl rfl)) ?_
    refine Lex.q (v := .int .i64 (ix xs (k * 2 + 1))) rfl (OpQ.y (OpY.load1 Tone_3 rfl (Cells.blk (.head _) ⟨rfl, trivial⟩))) ?_
    refine Lex.q (v := .bool (decide ((ix xs (k * 2)) ≥ (ix xs (k * 2 + 1))))) rfl (OpQ.y (OpY.pure rfl)) ?_
    refine Lex.q (v := .bool (decide ((ix xs (k * 2)) ≥ (ix xs (k * 2 + 1))))) rfl (OpQ.y (OpY.pure rfl)) ?_
    rcases Bool.eq_false_or_eq_true (decide ((ix xs (k * 2)) ≥ (ix xs (k * 2 + 1)))) with h24 | h24
    ·refine Lex.q (v := .bool true) rfl (OpQ.y (OpY.moveB rfl h24)) ?_
     have p24 := h24; try simp only [bs] at p24
     refine Lex.pass rfl ?_
     refine Lex.pass rfl ?_
     refine Lex.pass rfl ?_
     refine Lex.pass rfl ?_
     refine Lex.q (v := .bool true) rfl (OpQ.y (OpY.pure rfl)) ?_
     refine Lex.q (v := .bool true) rfl (OpQ.y (OpY.pure rfl)) ?_
     refine Lex.pass rfl ?_
     refine Lex.pass rfl ?_
     refine Lex.pass rfl ?_
     refine Lex.pass rfl ?_
     refine Lex.pass rfl ?_
     refine Lex.pass rfl ?_
     refine Lex.pass rfl ?_
     refine Lex.pass rfl ?_
     refine Lex.pass rfl ?_
     refine Lex.pass rfl ?_
     refine Lex.pass rfl ?_
     refine Lex.pass rfl ?_
     refine Lex.pass rfl ?_
     refine Lex.pass rfl ?_
     refine Lex.pass rfl ?_
     refine Lex.pass rfl ?_
     refine Lex.pass rfl ?_
     refine Lex.pass rfl ?_
     refine Lex.pass rfl ?_
     refine Lex.pass rfl ?_
     refine Lex.pass rfl ?_
     refine Lex.pass rfl ?_
     refine Lex.pass rfl ?_
     refine Lex.pass rfl ?_
     refine Lex.pass rfl ?_
     refine Lex.pass rfl ?_
     refine Lex.pass rfl ?_
     refine Lex.pass rfl ?_
     refine Lex.pass rfl ?_
     refine Lex.pass rfl ?_
     refine Lex.pass rfl ?_
     refine Lex.pass rfl ?_
     refine Lex.pass rfl ?_
     refine Lex.pass rfl ?_
     refine Lex.pass rfl ?_
     refine Lex.q (v := .bool true) rfl (OpQ.y (OpY.pure rfl)) ?_
     refine Lex.done ?_
     refine Run.cond (b := true) rfl (fun _ => ?_) (fun h => nomatch h)
     refine Run.seq ?_
     have hbad : edgesOk N xs n = false := by
      simp only [edgesOk, decide_eq_false_iff_not]; intro h; have h1 := h k hlt; simp only [edgeOk] at *; omega
     refine Run.region ?_
     refine Run.p (.bool false) rfl rfl ?_
     refine Run.done ?_
     refine Run.ret ?_
     refine ⟨.bool false, [], Out.one rfl rfl, (Some'.weak (.nil _)), ?_⟩
     show _ = _; simp_all
    ·refine Lex.q (v := .bool false) rfl (OpQ.y (OpY.moveB rfl h24)) ?_
     have p24 := h24; try simp only [bs] at p24
     refine Lex.q (v := .pointer (some ⟨b1, 1, none⟩)) rfl (OpQ.y (OpY.fieldAddr Tfo_80_1 rfl rfl)) ?_
     refine Lex.q (v := .int .i64 (ix xs (k * 2 + 1))) rfl (OpQ.y (OpY.load1 Tone_3 rfl (Cells.blk (.head _) ⟨rfl, trivial⟩))) ?_
     refine Lex.q (v := .int .i64 N) rfl (OpQ.y (OpY.pure rfl)) ?_
     refine Lex.q (v := .bool (decide ((ix xs (k * 2 + 1)) ≥ N))) rfl (OpQ.y (OpY.pure rfl)) ?_
     refine Lex.q (v := .bool (decide ((ix xs (k * 2 + 1)) ≥ N))) rfl (OpQ.y (OpY.pure rfl)) ?_
     rcases Bool.eq_false_or_eq_true (decide ((ix xs (k * 2 + 1)) ≥ N)) with h30 | h30
     ·refine Lex.q (v := .bool true) rfl (OpQ.y (OpY.moveB rfl h30)) ?_
      have p30 := h30; try simp only [bs] at p30
      refine Lex.pass rfl ?_
      refine Lex.pass rfl ?_
      refine Lex.pass rfl ?_
      refine Lex.pass rfl ?_
      refine Lex.pass rfl ?_
      refine Lex.pass rfl ?_
      refine Lex.pass rfl ?_
      refine Lex.pass rfl ?_
      refine Lex.pass rfl ?_
      refine Lex.pass rfl ?_
      refine Lex.pass rfl ?_
      refine Lex.pass rfl ?_
      refine Lex.pass rfl ?_
      refine Lex.pass rfl ?_
      refine Lex.pass rfl ?_
      refine Lex.pass rfl ?_
      refine Lex.pass rfl ?_
      refine Lex.pass rfl ?_
      refine Lex.pass rfl ?_
      refine Lex.pass rfl ?_
      refine Lex.pass rfl ?_
      refine Lex.pass rfl ?_
      refine Lex.pass rfl ?_
      refine Lex.pass rfl ?_
      refine Lex.pass rfl ?_
      refine Lex.pass rfl ?_
      refine Lex.pass rfl ?_
      refine Lex.pass rfl ?_
      refine Lex.pass rfl ?_
      refine Lex.pass rfl ?_
      refine Lex.pass rfl ?_
      refine Lex.pass rfl ?_
      refine Lex.pass rfl ?_
      refine Lex.pass rfl ?_
      refine Lex.pass rfl ?_
      refine Lex.q (v := .bool true) rfl (OpQ.y (OpY.pure rfl)) ?_
      refine Lex.done ?_
      refine Run.cond (b := true) rfl (fun _ => ?_) (fun h => nomatch h)
      refine Run.seq ?_
      have hbad : edgesOk N xs n = false := by
       simp only [edgesOk, decide_eq_false_iff_not]; intro h; have h1 := h k hlt; simp only [edgeOk] at *; omega
      refine Run.region ?_
      refine Run.p (.bool false) rfl rfl ?_
      refine Run.done ?_
      refine Run.ret ?_
      refine ⟨.bool false, [], Out.one rfl rfl, (Some'.weak (.nil _)), ?_⟩
      show _ = _; simp_all
     ·refine Lex.q (v := .bool false) rfl (OpQ.y (OpY.moveB rfl h30)) ?_
      have p30 := h30; try simp only [bs] at p30
      refine Lex.q (v := .int .i64 (((k : Nat) : Int))) rfl (OpQ.y (OpY.pure rfl)) ?_
      refine Lex.q (v := .bool (decide ((((k : Nat) : Int)) > 0))) rfl (OpQ.y (OpY.pure rfl)) ?_
      rcases Bool.eq_false_or_eq_true (decide ((((k : Nat) : Int)) > 0)) with h33 | h33
      ·have hk0 : 0 < k := by simp at h33; omega
       refine Lex.q (v := .bool true) rfl (OpQ.y (OpY.moveB rfl h33)) ?_
       have p33 := h33; try simp only [bs] at p33
       refine Lex.q (v := .slice (some ⟨b, o, none⟩) n c) rfl (OpQ.y (OpY.pure rfl)) ?_
       refine Lex.q (v := .int .i64 (((k : Nat) : Int))) rfl (OpQ.y (OpY.pure rfl)) ?_
       refine Lex.q (v := .int .i64 ((((k : Nat) : Int)) - 1)) rfl (OpQ.y (OpY.sub rfl rfl rfl (by omega) (by omega))) ?_
       refine Lex.q (v := .pointer (some ⟨b, o + (k - 1) * 2, none⟩)) rfl (OpQ.y (OpY.index (kk := k - 1) Tsl_23 rfl rfl (by omega) (by omega) (by first | rfl | omega))) ?_
       refine Lex.q (v := .pointer (some ⟨b, o + (k - 1) * 2, none⟩)) rfl (OpQ.y (OpY.fieldAddr Tfo_80_0 rfl rfl)) ?_
       refine Lex.q (v := .int .i64 (ix xs ((k - 1) * 2))) rfl (OpQ.y (OpY.load1 Tone_3 rfl (Cells.arg (k := (k - 1) * 2) ha rfl (by omega) (pre1 (by omega))))) ?_
       refine Lex.q (v := .pointer (some ⟨b1, 0, none⟩)) rfl (OpQ.y (OpY.fieldAddr Tfo_80_0 rfl rfl)) ?_
       refine Lex.q (v := .int .i64 (ix xs (k * 2))) rfl (OpQ.y (OpY.load1 Tone_3 rfl (Cells.blk (.head _) ⟨rfl, trivial⟩))) ?_
       refine Lex.q (v := .bool (decide ((ix xs ((k - 1) * 2)) > (ix xs (k * 2))))) rfl (OpQ.y (OpY.pure rfl)) ?_
       rcases Bool.eq_false_or_eq_true (decide ((ix xs ((k - 1) * 2)) > (ix xs (k * 2)))) with h43 | h43
       ·refine Lex.q (v := .bool true) rfl (OpQ.y (OpY.moveB rfl h43)) ?_
        have p43 := h43; try simp only [bs] at p43
        refine Lex.pass rfl ?_
        refine Lex.pass rfl ?_
        refine Lex.pass rfl ?_
        refine Lex.pass rfl ?_
        refine Lex.pass rfl ?_
        refine Lex.pass rfl ?_
        refine Lex.pass rfl ?_
        refine Lex.pass rfl ?_
        refine Lex.pass rfl ?_
        refine Lex.pass rfl ?_
        refine Lex.pass rfl ?_
        refine Lex.pass rfl ?_
        refine Lex.pass rfl ?_
        refine Lex.pass rfl ?_
        refine Lex.pass rfl ?_
        refine Lex.pass rfl ?_
        refine Lex.pass rfl ?_
        refine Lex.pass rfl ?_
        refine Lex.pass rfl ?_
        refine Lex.pass rfl ?_
        refine Lex.q (v := .bool true) rfl (OpQ.y (OpY.pure rfl)) ?_
        refine Lex.q (v := .bool true) rfl (OpQ.y (OpY.pure rfl)) ?_
        refine Lex.q (v := .bool true) rfl (OpQ.y (OpY.pure rfl)) ?_
        refine Lex.done ?_
        refine Run.cond (b := true) rfl (fun _ => ?_) (fun h => nomatch h)
        refine Run.seq ?_
        have hbad : edgesOk N xs n = false := by
         simp only [edgesOk, decide_eq_false_iff_not]; intro h; have h1 := h k hlt; simp only [edgeOk] at *; omega
        refine Run.region ?_
        refine Run.p (.bool false) rfl rfl ?_
        refine Run.done ?_
        refine Run.ret ?_
        refine ⟨.bool false, [], Out.one rfl rfl, (Some'.weak (.nil _)), ?_⟩
        show _ = _; simp_all
       ·refine Lex.q (v := .bool false) rfl (OpQ.y (OpY.moveB rfl h43)) ?_
        have p43 := h43; try simp only [bs] at p43
        refine Lex.q (v := .slice (some ⟨b, o, none⟩) n c) rfl (OpQ.y (OpY.pure rfl)) ?_
        refine Lex.q (v := .int .i64 (((k : Nat) : Int))) rfl (OpQ.y (OpY.pure rfl)) ?_
        refine Lex.q (v := .int .i64 ((((k : Nat) : Int)) - 1)) rfl (OpQ.y (OpY.sub rfl rfl rfl (by omega) (by omega))) ?_
        refine Lex.q (v := .pointer (some ⟨b, o + (k - 1) * 2, none⟩)) rfl (OpQ.y (OpY.index (kk := k - 1) Tsl_23 rfl rfl (by omega) (by omega) (by first | rfl | omega))) ?_
        refine Lex.q (v := .pointer (some ⟨b, o + (k - 1) * 2, none⟩)) rfl (OpQ.y (OpY.fieldAddr Tfo_80_0 rfl rfl)) ?_
        refine Lex.q (v := .int .i64 (ix xs ((k - 1) * 2))) rfl (OpQ.y (OpY.load1 Tone_3 rfl (Cells.arg (k := (k - 1) * 2) ha rfl (by omega) (pre1 (by omega))))) ?_
        refine Lex.q (v := .pointer (some ⟨b1, 0, none⟩)) rfl (OpQ.y (OpY.fieldAddr Tfo_80_0 rfl rfl)) ?_
        refine Lex.q (v := .int .i64 (ix xs (k * 2))) rfl (OpQ.y (OpY.load1 Tone_3 rfl (Cells.blk (.head _) ⟨rfl, trivial⟩))) ?_
        refine Lex.q (v := .bool ((ix xs ((k - 1) * 2)) == (ix xs (k * 2)))) rfl (OpQ.y (OpY.pure rfl)) ?_
        rcases Bool.eq_false_or_eq_true ((ix xs ((k - 1) * 2)) == (ix xs (k * 2))) with h53 | h53
        ·refine Lex.q (v := .bool true) rfl (OpQ.y (OpY.moveB rfl h53)) ?_
         have p53 := h53; try simp only [bs] at p53
         refine Lex.q (v := .slice (some ⟨b, o, none⟩) n c) rfl (OpQ.y (OpY.pure rfl)) ?_
         refine Lex.q (v := .int .i64 (((k : Nat) : Int))) rfl (OpQ.y (OpY.pure rfl)) ?_
         refine Lex.q (v := .int .i64 ((((k : Nat) : Int)) - 1)) rfl (OpQ.y (OpY.sub rfl rfl rfl (by omega) (by omega))) ?_
         refine Lex.q (v := .pointer (some ⟨b, o + (k - 1) * 2, none⟩)) rfl (OpQ.y (OpY.index (kk := k - 1) Tsl_23 rfl rfl (by omega) (by omega) (by first | rfl | omega))) ?_
         refine Lex.q (v := .pointer (some ⟨b, o + (k - 1) * 2 + 1, none⟩)) rfl (OpQ.y (OpY.fieldAddr Tfo_80_1 rfl rfl)) ?_
         refine Lex.q (v := .int .i64 (ix xs ((k - 1) * 2 + 1))) rfl (OpQ.y (OpY.load1 Tone_3 rfl (Cells.arg (k := (k - 1) * 2 + 1) ha rfl (by omega) (pre1 (by omega))))) ?_
         refine Lex.q (v := .pointer (some ⟨b1, 1, none⟩)) rfl (OpQ.y (OpY.fieldAddr Tfo_80_1 rfl rfl)) ?_
         refine Lex.q (v := .int .i64 (ix xs (k * 2 + 1))) rfl (OpQ.y (OpY.load1 Tone_3 rfl (Cells.blk (.head _) ⟨rfl, trivial⟩))) ?_
         refine Lex.q (v := .bool (decide ((ix xs ((k - 1) * 2 + 1)) ≥ (ix xs (k * 2 + 1))))) rfl (OpQ.y (OpY.pure rfl)) ?_
         refine Lex.q (v := .bool (decide ((ix xs ((k - 1) * 2 + 1)) ≥ (ix xs (k * 2 + 1))))) rfl (OpQ.y (OpY.pure rfl)) ?_
         refine Lex.q (v := .bool (decide ((ix xs ((k - 1) * 2 + 1)) ≥ (ix xs (k * 2 + 1))))) rfl (OpQ.y (OpY.pure rfl)) ?_
         refine Lex.q (v := .bool (decide ((ix xs ((k - 1) * 2 + 1)) ≥ (ix xs (k * 2 + 1))))) rfl (OpQ.y (OpY.pure rfl)) ?_
         refine Lex.q (v := .bool (decide ((ix xs ((k - 1) * 2 + 1)) ≥ (ix xs (k * 2 + 1))))) rfl (OpQ.y (OpY.pure rfl)) ?_
         refine Lex.done ?_
         refine Run.cond (b := decide ((ix xs ((k - 1) * 2 + 1)) ≥ (ix xs (k * 2 + 1)))) rfl (fun h66 => ?_) (fun h66 => ?_)
         ·have p66 := h66; try simp only [bs] at p66
          refine Run.seq ?_
          have hbad : edgesOk N xs n = false := by
           simp only [edgesOk, decide_eq_false_iff_not]; intro h; have h1 := h k hlt; simp only [edgeOk] at *; omega
          refine Run.region ?_
          refine Run.p (.bool false) rfl rfl ?_
          refine Run.done ?_
          refine Run.ret ?_
          refine ⟨.bool false, [], Out.one rfl rfl, (Some'.weak (.nil _)), ?_⟩
          show _ = _; simp_all
         ·have p66 := h66; try simp only [bs] at p66
          refine Run.skip ?_
          refine Run.blockEnd ?_
          have hgood : edgeOk N xs k := by
           simp only [edgeOk] at *; omega
          refine Run.region ?_
          refine Run.y (.int .i64 ((((k : Nat) : Int)) + 1)) rfl (OpY.add rfl rfl rfl (by omega) (by omega)) ?_
          refine Run.p (.int .i64 ((((k : Nat) : Int)) + 1)) rfl rfl ?_
          refine Run.done ?_
          refine Run.goal ⟨(by repeat (first | exact Same.refl _ _ | refine Same.put rfl ?_ | refine Same.over rfl rfl ?_)), k + 1, ?_, ?_, ?_, ?_⟩
          ·refine ⟨by omega, fun i hi => ?_⟩
           rcases Nat.lt_succ_iff_lt_or_eq.1 hi with h | h
           ·exact hinv.2 i h
           ·rw [h]; exact hgood
          ·omega
          ·exact ⟨(by first | rfl | (congr 1; omega) | simp), trivial⟩
          ·exact (Some'.weak (.nil _))
        ·refine Lex.q (v := .bool false) rfl (OpQ.y (OpY.moveB rfl h53)) ?_
         have p53 := h53; try simp only [bs] at p53
         refine Lex.pass rfl ?_
         refine Lex.pass rfl ?_
         refine Lex.pass rfl ?_
         refine Lex.pass rfl ?_
         refine Lex.pass rfl ?_
         refine Lex.pass rfl ?_
         refine Lex.pass rfl ?_
         refine Lex.pass rfl ?_
         refine Lex.pass rfl ?_
         refine Lex.q (v := .bool false) rfl (OpQ.y (OpY.pure rfl)) ?_
         refine Lex.q (v := .bool false) rfl (OpQ.y (OpY.pure rfl)) ?_
         refine Lex.q (v := .bool false) rfl (OpQ.y (OpY.pure rfl)) ?_
         refine Lex.q (v := .bool false) rfl (OpQ.y (OpY.pure rfl)) ?_
         refine Lex.done ?_
         refine Run.cond (b := false) rfl (fun h => nomatch h) (fun _ => ?_)
         refine Run.skip ?_
         refine Run.blockEnd ?_
         have hgood : edgeOk N xs k := by
          simp only [edgeOk] at *; omega
         refine Run.region ?_
         refine Run.y (.int .i64 ((((k : Nat) : Int)) + 1)) rfl (OpY.add rfl rfl rfl (by omega) (by omega)) ?_
         refine Run.p (.int .i64 ((((k : Nat) : Int)) + 1)) rfl rfl ?_
         refine Run.done ?_
         refine Run.goal ⟨(by repeat (first | exact Same.refl _ _ | refine Same.put rfl ?_ | refine Same.over rfl rfl ?_)), k + 1, ?_, ?_, ?_, ?_⟩
         ·refine ⟨by omega, fun i hi => ?_⟩
          rcases Nat.lt_succ_iff_lt_or_eq.1 hi with h | h
          ·exact hinv.2 i h
          ·rw [h]; exact hgood
         ·omega
         ·exact ⟨(by first | rfl | (congr 1; omega) | simp), trivial⟩
         ·exact (Some'.weak (.nil _))
      ·refine Lex.q (v := .bool false) rfl (OpQ.y (OpY.moveB rfl h33)) ?_
       have p33 := h33; try simp only [bs] at p33
       refine Lex.pass rfl ?_
       refine Lex.pass rfl ?_
       refine Lex.pass rfl ?_
       refine Lex.pass rfl ?_
       refine Lex.pass rfl ?_
       refine Lex.pass rfl ?_
       refine Lex.pass rfl ?_
       refine Lex.pass rfl ?_
       refine Lex.pass rfl ?_
       refine Lex.pass rfl ?_
       refine Lex.pass rfl ?_
       refine Lex.pass rfl ?_
       refine Lex.pass rfl ?_
       refine Lex.pass rfl ?_
       refine Lex.pass rfl ?_
       refine Lex.pass rfl ?_
       refine Lex.pass rfl ?_
       refine Lex.pass rfl ?_
       refine Lex.pass rfl ?_
       refine Lex.pass rfl ?_
       refine Lex.pass rfl ?_
       refine Lex.pass rfl ?_
       refine Lex.pass rfl ?_
       refine Lex.pass rfl ?_
       refine Lex.pass rfl ?_
       refine Lex.pass rfl ?_
       refine Lex.pass rfl ?_
       refine Lex.pass rfl ?_
       refine Lex.pass rfl ?_
       refine Lex.pass rfl ?_
       refine Lex.pass rfl ?_
       refine Lex.q (v := .bool false) rfl (OpQ.y (OpY.pure rfl)) ?_
       refine Lex.q (v := .bool false) rfl (OpQ.y (OpY.pure rfl)) ?_
       refine Lex.done ?_
       refine Run.cond (b := false) rfl (fun h => nomatch h) (fun _ => ?_)
       refine Run.skip ?_
       refine Run.blockEnd ?_
       have hgood : edgeOk N xs k := by
        simp only [edgeOk] at *; omega
       refine Run.region ?_
       refine Run.y (.int .i64 ((((k : Nat) : Int)) + 1)) rfl (OpY.add rfl rfl rfl (by omega) (by omega)) ?_
       refine Run.p (.int .i64 ((((k : Nat) : Int)) + 1)) rfl rfl ?_
       refine Run.done ?_
       refine Run.goal ⟨(by repeat (first | exact Same.refl _ _ | refine Same.put rfl ?_ | refine Same.over rfl rfl ?_)), k + 1, ?_, ?_, ?_, ?_⟩
       ·refine ⟨by omega, fun i hi => ?_⟩
        rcases Nat.lt_succ_iff_lt_or_eq.1 hi with h | h
        ·exact hinv.2 i h
        ·rw [h]; exact hgood
       ·omega
       ·exact ⟨(by first | rfl | (congr 1; omega) | simp), trivial⟩
       ·exact (Some'.weak (.nil _))
  ·have p10 := h10; try simp only [bs] at p10
   have hkn : k = n := by simp at h10; omega
   have hall : edgesOk N xs n = true := by simp only [edgesOk, decide_eq_true_eq]; rw [← hkn]; exact hinv.2
   refine Run.exit rfl ?_
   refine Run.sr ?_
   refine Run.p (.bool true) rfl rfl ?_
   refine Run.done ?_
   refine Run.ret ?_
   refine ⟨.bool true, [], Out.one rfl rfl, (Some'.weak (.nil _)), ?_⟩
   show _ = _; simp_all

end Go.Proofs.Ytoiaibgcjfgbcaa
/- Walks: searches in slices, placements, neighbours in a coupling graph. -/
set_option linter.unusedSimpArgs false
set_option linter.unusedVariables false
namespace Go.Proofs.Ytoiaibgcjfgbcaa
open Go Go.RowKit
namespace Cg3T
theorem Tcall_53 : callable Try.prog 53 = true := by kernel_rfl
theorem Tone_3 : oneOf Try.prog 3 = true := by kernel_rfl
theorem Tsl_24 : sliceOf Try.prog 24 = some (3, 1, 8, [.int .i64 0]) := by kernel_rfl
end Cg3T
open Cg3T
set_option maxHeartbeats 1000000 in
set_option maxRecDepth 20000 in
theorem l1Has_spec {va : Value} {n : Nat} {xs : List Int} {x : Int} {w : World} (ha : Sl w va 1 n (ints xs)) : Calls Try.prog 62 #[va, .int .i64 x] w (Post No w fun v _ => v = .bool (hasI xs x n)) := by
 have hxl := ha.len
 have hn := ha.le
 obtain ⟨A, c, rfl, _, _⟩ := ha.form0
 refine enter (n := 17) (args := [.slice A n c, .int .i64 x]) Try.func62 rfl rfl (St.empty _ _) ?_
 refine Run.sr ?_
 refine Run.p (.bool false) rfl rfl ?_
 refine Run.done ?_
 refine Run.seq ?_
 refine Run.sr ?_
 refine Run.p (.slice A n c) rfl rfl ?_
 refine Run.y (.int .i64 (((n : Nat) : Int))) rfl (OpY.len Tsl_24 rfl) ?_
 refine Run.p (.int .i64 0) rfl rfl ?_
 refine Run.done ?_
 refine Run.block ?_
 refine Run.loop (ι := Nat) [4, 6, 9, 10, 11, 12, 13, 14, 15, 16] (fun k => [(9, .int .i64 (((k : Nat) : Int)))]) (fun k => []) (fun k => k ≤ n ∧ (∀ i, i < k → decide (ix xs i = x) = false)) (fun k => n - k) 0 ?_ ?_ ?_ ?_
 ·exact ⟨Nat.zero_le _, by first | trivial | (intro i hi; omega)⟩
 ·exact ⟨rfl, trivial⟩
 ·exact (Some'.weak (.nil _))
 ·rintro k fr hinv
  show Run _ _ (over _ _ [(9, .int .i64 (((k : Nat) : Int)))] fr) []
  try dsimp only at hinv
  refine Run.sr ?_
  refine Run.p (.bool (decide ((((k : Nat) : Int)) < (((n : Nat) : Int))))) rfl rfl ?_
  refine Run.done ?_
  refine Run.seq ?_
  refine Run.cond (b := decide ((((k : Nat) : Int)) < (((n : Nat) : Int)))) rfl (fun h10 => ?_) (fun h10 => ?_)
  ·have p10 := h10; try simp only [bs] at p10
   have hltk : k < n := by omega
   obtain ⟨b, o, rfl⟩ := ha.opn (by omega)
   refine Run.skip ?_
   refine Run.seq ?_
   refine Run.block ?_
   refine Run.sr ?_
   refine Run.y (.pointer (some ⟨b, o + k, none⟩)) rfl (OpY.index (kk := k) Tsl_24 rfl rfl (by omega) (by omega) (by first | rfl | omega)) ?_
   refine Run.y (.int .i64 (ix xs (k))) rfl (OpY.load1 Tone_3 rfl (Cells.arg (k := k) ha rfl (by omega) (pre1 (by omega)))) ?_
   refine Run.p (.int .i64 (ix xs (k))) rfl rfl ?_
   refine Run.dsr ?_
   refine Run.p (.int .i64 (ix xs (k))) rfl rfl ?_
   refine Run.p (.int .i64 x) rfl rfl ?_
   refine Run.p (.bool ((ix xs (k)) == x)) rfl rfl ?_
   refine Run.done ?_
   refine Run.cond (b := (ix xs (k)) == x) rfl (fun h15 => ?_) (fun h15 => ?_)
   ·have p15 := h15; try simp only [bs] at p15
    refine Run.seq ?_
    have hres : hasI xs x n = true := anyI_true hltk (by simpa using p15)
    refine Run.region ?_
    refine Run.p (.bool true) rfl rfl ?_
    refine Run.done ?_
    refine Run.ret ?_
    refine ⟨.bool true, [], Out.one rfl rfl, (Some'.weak (.nil _)), ?_⟩
    show _ = _; rw [hres]
   ·have p15 := h15; try simp only [bs] at p15
    refine Run.skip ?_
    refine Run.blockEnd ?_
    have hgood : decide (ix xs k = x) = false := by simpa using p15
    refine Run.region ?_
    refine Run.y (.int .i64 ((((k : Nat) : Int)) + 1)) rfl (OpY.add rfl rfl rfl (by omega) (by omega)) ?_
    refine Run.p (.int .i64 ((((k : Nat) : Int)) + 1)) rfl rfl ?_
    refine Run.done ?_
    refine Run.goal ⟨(by repeat (first | exact Same.refl _ _ | refine Same.put rfl ?_ | refine Same.over rfl rfl ?_)), k + 1, ?_, ?_, ?_, ?_⟩
    ·refine ⟨by omega, ?_⟩
     intro i hi
     rcases Nat.lt_succ_iff_lt_or_eq.1 hi with h | h
     ·exact hinv.2 i h
     ·rw [h]; exact hgood
    ·omega
    ·exact ⟨(by first | rfl | (congr 1; omega) | simp), trivial⟩
    ·exact (Some'.weak (.nil _))
  ·have p10 := h10; try simp only [bs] at p10
   have hknk : k = n := by omega
   have hres : hasI xs x n = false := by rw [← hknk]; exact anyI_false hinv.2
   refine Run.exit rfl ?_
   refine Run.sr ?_
   refine Run.p (.bool false) rfl rfl ?_
   refine Run.done ?_
   refine Run.ret ?_
   refine ⟨.bool false, [], Out.one rfl rfl, (Some'.weak (.nil _)), ?_⟩
   show _ = _; rw [hres]

set_option maxHeartbeats 1000000 in
set_option maxRecDepth 20000 in
theorem IndexInt_spec {va : Value} {n : Nat} {xs : List Int} {x : Int} {w : World} (ha : Sl w va 1 n (ints xs)) : Calls Try.prog 53 #[va, .int .i64 x] w (Post No w fun v _ => v = .int .i64 (findI (fun i => decide (ix xs i = x)) n)) := by
 have hxl := ha.len
 have hn := ha.le
 obtain ⟨A, c, rfl, _, _⟩ := ha.form0
 refine enter (n := 19) (args := [.slice A n c, .int .i64 x]) Try.func53 rfl rfl (St.empty _ _) ?_
 refine Run.sr ?_
 refine Run.p (.int .i64 0) rfl rfl ?_
 refine Run.done ?_
 refine Run.seq ?_
 refine Run.sr ?_
 refine Run.p (.slice A n c) rfl rfl ?_
 refine Run.y (.int .i64 (((n : Nat) : Int))) rfl (OpY.len Tsl_24 rfl) ?_
 refine Run.p (.int .i64 0) rfl rfl ?_
 refine Run.done ?_
 refine Run.block ?_
 refine Run.loop (ι := Nat) [4, 5, 8, 9, 10, 11, 12, 13, 14, 15, 16, 17, 18] (fun k => [(8, .int .i64 (((k : Nat) : Int)))]) (fun k => []) (fun k => k ≤ n ∧ (∀ i, i < k → decide (ix xs i = x) = false)) (fun k => n - k) 0 ?_ ?_ ?_ ?_
 ·exact ⟨Nat.zero_le _, by first | trivial | (intro i hi; omega)⟩
 ·exact ⟨rfl, trivial⟩
 ·exact (Some'.weak (.nil _))
 ·rintro k fr hinv
  show Run _ _ (over _ _ [(8, .int .i64 (((k : Nat) : Int)))] fr) []
  try dsimp only at hinv
  refine Run.sr ?_
  refine Run.p (.bool (decide ((((k : Nat) : Int)) < (((n : Nat) : Int))))) rfl rfl ?_
  refine Run.done ?_
  refine Run.seq ?_
  refine Run.cond (b := decide ((((k : Nat) : Int)) < (((n : Nat) : Int)))) rfl (fun h9 => ?_) (fun h9 => ?_)
  ·have p9 := h9; try simp only [bs] at p9
   have hltk : k < n := by omega
   obtain ⟨b, o, rfl⟩ := ha.opn (by omega)
   refine Run.skip ?_
   refine Run.seq ?_
   refine Run.block ?_
   refine Run.sr ?_
   refine Run.p (.int .i64 (((k : Nat) : Int))) rfl rfl ?_
   refine Run.p (.int .i64 (((k : Nat) : Int))) rfl rfl ?_
   refine Run.dsr ?_
   refine Run.p (.int .i64 x) rfl rfl ?_
   refine Run.p (.slice (some ⟨b, o, none⟩) n c) rfl rfl ?_
   refine Run.p (.int .i64 (((k : Nat) : Int))) rfl rfl ?_
   refine Run.y (.pointer (some ⟨b, o + k, none⟩)) rfl (OpY.index (kk := k) Tsl_24 rfl rfl (by omega) (by omega) (by first | rfl | omega)) ?_
   refine Run.y (.int .i64 (ix xs (k))) rfl (OpY.load1 Tone_3 rfl (Cells.arg (k := k) ha rfl (by omega) (pre1 (by omega)))) ?_
   refine Run.p (.bool (x == (ix xs (k)))) rfl rfl ?_
   refine Run.done ?_
   refine Run.cond (b := x == (ix xs (k))) rfl (fun h16 => ?_) (fun h16 => ?_)
   ·have p16 := h16; try simp only [bs] at p16
    refine Run.seq ?_
    have hres : findI (fun i => decide (ix xs i = x)) n = k := findI_hit hinv.2 (by simp; omega) hltk
    refine Run.region ?_
    refine Run.p (.int .i64 (((k : Nat) : Int))) rfl rfl ?_
    refine Run.p (.int .i64 (((k : Nat) : Int))) rfl rfl ?_
    refine Run.done ?_
    refine Run.ret ?_
    refine ⟨.int .i64 (((k : Nat) : Int)), [], Out.one rfl rfl, (Some'.weak (.nil _)), ?_⟩
    show _ = _; rw [hres]
   ·have p16 := h16; try simp only [bs] at p16
    refine Run.skip ?_
    refine Run.blockEnd ?_
    have hgood : decide (ix xs k = x) = false := by simp; omega
    refine Run.region ?_
    refine Run.y (.int .i64 ((((k : Nat) : Int)) + 1)) rfl (OpY.add rfl rfl rfl (by omega) (by omega)) ?_
    refine Run.p (.int .i64 ((((k : Nat) : Int)) + 1)) rfl rfl ?_
    refine Run.done ?_
    refine Run.goal ⟨(by repeat (first | exact Same.refl _ _ | refine Same.put rfl ?_ | refine Same.over rfl rfl ?_)), k + 1, ?_, ?_, ?_, ?_⟩
    ·refine ⟨by omega, ?_⟩
     intro i hi
     rcases Nat.lt_succ_iff_lt_or_eq.1 hi with h | h
     ·exact hinv.2 i h
     ·rw [h]; exact hgood
    ·omega
    ·exact ⟨(by first | rfl | (congr 1; omega) | simp), trivial⟩
    ·exact (Some'.weak (.nil _))
  ·have p9 := h9; try simp only [bs] at p9
   have hknk : k = n := by omega
   have hres : findI (fun i => decide (ix xs i = x)) n = -1 := by rw [← hknk]; exact findI_none hinv.2
   refine Run.exit rfl ?_
   refine Run.sr ?_
   refine Run.p (.int .i64 (-1)) rfl rfl ?_
   refine Run.done ?_
   refine Run.ret ?_
   refine ⟨.int .i64 (-1), [], Out.one rfl rfl, (Some'.weak (.nil _)), ?_⟩
   show _ = _; rw [hres]

set_option maxHeartbeats 1000000 in
set_option maxRecDepth 20000 in
theorem ContainsInt_spec {va : Value} {n : Nat} {xs : List Int} {x : Int} {w : World} (ha : Sl w va 1 n (ints xs)) : Calls Try.prog 30 #[va, .int .i64 x] w (Post No w fun v _ => v = .bool (hasI xs x n)) := by
 refine enter (n := 9) (args := [va, .int .i64 x]) Try.func30 rfl rfl (St.empty _ _) ?_
 refine Run.sr ?_
 refine Run.p (.bool false) rfl rfl ?_
 refine Run.dsr ?_
 refine Run.p (va) rfl rfl ?_
 refine Run.p (.int .i64 x) rfl rfl ?_
 refine Run.q (v := .int .i64 (findI (fun i => decide (ix xs i = x)) n)) rfl (OpQ.call (vs := [va, .int .i64 x]) (caps := []) Tcall_53 rfl rfl (fun w hs => IndexInt_spec (hs.sl ha))) ?_
 refine Run.p (.bool (decide ((findI (fun i => decide (ix xs i = x)) n) ≥ 0))) rfl rfl ?_
 refine Run.p (.bool (decide ((findI (fun i => decide (ix xs i = x)) n) ≥ 0))) rfl rfl ?_
 refine Run.done ?_
 refine Run.ret ?_
 refine ⟨.bool (decide ((findI (fun i => decide (ix xs i = x)) n) ≥ 0)), [], Out.one rfl rfl, (Some'.weak (.nil _)), ?_⟩
 show _ = _; rw [findI_ge]; rfl


end Go.Proofs.Ytoiaibgcjfgbcaa
/- Plain laws: causal flows and generalised flows. -/
set_option linter.unusedSimpArgs false
set_option linter.unusedVariables false
namespace Go.Proofs.Ytoiaibgcjfgbcaa
open Go Go.RowKit
theorem findI_sat' {p : Nat → Bool} : ∀ {n : Nat}, 0 ≤ findI p n → (findI p n).toNat < n ∧ p (findI p n).toNat = true := by
  intro n h
  obtain ⟨i, hi, hp⟩ := anyI_iff.1 (findI_nonneg.1 h)
  have key : ∀ k, (∃ i, i < k ∧ i < n ∧ p i = true) → ∃ i, i < n ∧ p i = true ∧ ∀ j, j < i → p j = false := by
    intro k
    induction k with
    | zero => rintro ⟨i, hi, _⟩; omega
    | succ k ihk =>
      rintro ⟨i, hi, hin, hg⟩
      by_cases h2 : ∃ i, i < k ∧ i < n ∧ p i = true
      · exact ihk h2
      · refine ⟨i, hin, hg, fun j hj => ?_⟩
        cases hgj : p j with
        | false => rfl
        | true => exact absurd ⟨j, by omega, by omega, hgj⟩ h2
  obtain ⟨j, h1, h2, h3⟩ := key (i + 1) ⟨i, by omega, hi, hp⟩
  rw [findI_hit h3 h2 h1, Int.toNat_natCast]
  exact ⟨h1, h2⟩
theorem or_bit {a k i : Nat} : (a ||| 2 ^ k).testBit i = (a.testBit i || decide (k = i)) := by rw [Nat.testBit_or, Nat.testBit_two_pow]
theorem or_pow_lt {a k n : Nat} (h : a < 2 ^ n) (hk : k < n) : a ||| 2 ^ k < 2 ^ n := Nat.or_lt_two_pow h (Nat.pow_lt_pow_right (by omega) hk)
/-- Nodes u and v are joined by one of the first k edges. -/
def jn (es : List Int) (u v : Nat) : Nat → Bool
  | 0 => false
  | k + 1 => jn es u v k || ((decide (ix es (k * 2) = (u : Int)) && decide (ix es (k * 2 + 1) = (v : Int))) || (decide (ix es (k * 2) = (v : Int)) && decide (ix es (k * 2 + 1) = (u : Int))))
theorem jn_comm (es : List Int) (u v : Nat) : ∀ k, jn es u v k = jn es v u k
  | 0 => rfl
  | k + 1 => by rw [jn, jn, jn_comm es u v k, Bool.or_comm (decide (ix es (k * 2) = (u : Int)) && decide (ix es (k * 2 + 1) = (v : Int)))]
/-- The neighbours of v over the first k edges, as a set. -/
def ngK (es : List Int) (v : Nat) : Nat → Nat
  | 0 => 0
  | k + 1 => if ix es (k * 2) = (v : Int) then ngK es v k ||| 2 ^ (ix es (k * 2 + 1)).toNat else if ix es (k * 2 + 1) = (v : Int) then ngK es v k ||| 2 ^ (ix es (k * 2)).toNat else ngK es v k
theorem edge_at {N : Int} {es : List Int} {m k : Nat} (h : edgesOk N es m = true) (hk : k < m) : 0 ≤ ix es (k * 2) ∧ ix es (k * 2) < ix es (k * 2 + 1) ∧ ix es (k * 2 + 1) < N := by
  have := of_decide_eq_true h k hk
  simp only [edgeOk] at this
  exact ⟨this.1, this.2.1, this.2.2.1⟩
theorem ng_bit {N : Int} {es : List Int} {m : Nat} (h : edgesOk N es m = true) (u v : Nat) : ∀ k, k ≤ m → (ngK es v k).testBit u = jn es u v k
  | 0, _ => by simp [ngK, jn]
  | k + 1, hk => by
    have he := edge_at h (show k < m by omega)
    have ih := ng_bit h u v k (by omega)
    rw [ngK, jn]
    split
    · rename_i h1
      rw [or_bit, ih]
      congr 1
      by_cases e : ix es (k * 2 + 1) = (u : Int)
      · rw [decide_eq_true (show (ix es (k * 2 + 1)).toNat = u by omega), decide_eq_true h1, decide_eq_true e]; simp
      · rw [decide_eq_false (show ¬ (ix es (k * 2 + 1)).toNat = u by omega), decide_eq_false e, decide_eq_false (show ¬ ix es (k * 2 + 1) = (v : Int) by omega)]; simp
    · rename_i h1
      split
      · rename_i h2
        rw [or_bit, ih]
        congr 1
        by_cases e : ix es (k * 2) = (u : Int)
        · rw [decide_eq_true (show (ix es (k * 2)).toNat = u by omega), decide_eq_true h2, decide_eq_true e]; simp
        · rw [decide_eq_false (show ¬ (ix es (k * 2)).toNat = u by omega), decide_eq_false e, decide_eq_false h1]; simp
      · rename_i h2
        rw [ih, decide_eq_false h1, decide_eq_false h2]; simp
theorem ng_lt {es : List Int} {n m : Nat} (h : edgesOk (n : Int) es m = true) (v : Nat) : ∀ k, k ≤ m → ngK es v k < 2 ^ n
  | 0, _ => Nat.two_pow_pos n
  | k + 1, hk => by
    have he := edge_at h (show k < m by omega)
    have ih := ng_lt h v k (by omega)
    rw [ngK]
    split
    · exact or_pow_lt ih (by omega)
    · split
      · exact or_pow_lt ih (by omega)
      · exact ih
/-- A list as a set. -/
def mskK (l : List Int) : Nat → Nat
  | 0 => 0
  | k + 1 => mskK l k ||| 2 ^ (ix l k).toNat
theorem hasI_succ (l : List Int) (x : Int) (k : Nat) : hasI l x (k + 1) = (hasI l x k || decide (ix l k = x)) := rfl
theorem mskK_bit {l : List Int} {k : Nat} (h : ∀ i, i < k → 0 ≤ ix l i) (u : Nat) : (mskK l k).testBit u = hasI l u k := by
  induction k with
  | zero => simp [mskK, hasI, anyI]
  | succ k ih =>
    rw [mskK, or_bit, ih fun i hi => h i (by omega), hasI_succ]
    congr 1
    have := h k (by omega)
    rw [decide_eq_decide]; omega
theorem mskK_lt {l : List Int} {n k : Nat} (h : ∀ i, i < k → 0 ≤ ix l i ∧ ix l i < n) : mskK l k < 2 ^ n := by
  induction k with
  | zero => exact Nat.two_pow_pos n
  | succ k ih =>
    rw [mskK]
    have := h k (by omega)
    exact or_pow_lt (ih fun i hi => h i (by omega)) (by omega)
/-- The nodes without a layer. -/
def unl (ly : List Int) : Nat → Nat
  | 0 => 0
  | v + 1 => if ix ly v < 0 then unl ly v ||| 2 ^ v else unl ly v
theorem unl_bit (ly : List Int) (u : Nat) : ∀ k, (unl ly k).testBit u = (decide (u < k) && decide (ix ly u < 0))
  | 0 => by simp [unl]
  | k + 1 => by
    have ih := unl_bit ly u k
    rw [unl]
    split
    · rename_i h
      rw [or_bit, ih]
      by_cases e : k = u
      · subst e; simp [h]
      · have : (u < k + 1) ↔ (u < k) := by omega
        rw [decide_eq_false e, Bool.or_false]; simp only [this]
    · rename_i h
      rw [ih]
      by_cases e : k = u
      · subst e; simp [h]
      · have : (u < k + 1) ↔ (u < k) := by omega
        simp only [this]
theorem unl_lt (ly : List Int) : ∀ k, unl ly k < 2 ^ k
  | 0 => by simp [unl]
  | k + 1 => by
    have ih := unl_lt ly k
    have h2 : 2 ^ k < 2 ^ (k + 1) := Nat.pow_lt_pow_right (by omega) (by omega)
    rw [unl]
    split
    · exact or_pow_lt (by omega) (by omega)
    · omega
theorem unl_congr {ly ly' : List Int} {n : Nat} : unl ly n = unl ly' n ↔ ∀ v, v < n → (ix ly v < 0 ↔ ix ly' v < 0) := by
  constructor
  · intro h v hv
    have := congrArg (fun x => x.testBit v) h
    simp only [unl_bit, hv, decide_true, Bool.true_and, decide_eq_decide] at this
    exact this
  · intro h
    refine Nat.eq_of_testBit_eq fun u => ?_
    rw [unl_bit, unl_bit]
    by_cases hu : u < n
    · simp [hu, h u hu]
    · simp [hu]
theorem unl_zero {ly : List Int} {n : Nat} : unl ly n = 0 ↔ ∀ v, v < n → 0 ≤ ix ly v := by
  constructor
  · intro h v hv
    have := congrArg (fun x => x.testBit v) h
    simp only [unl_bit, hv, decide_true, Bool.true_and, Nat.zero_testBit, decide_eq_false_iff_not] at this
    omega
  · intro h
    refine Nat.eq_of_testBit_eq fun u => ?_
    rw [unl_bit, Nat.zero_testBit]
    by_cases hu : u < n
    · simp [hu]; exact h u hu
    · simp [hu]
/-- How many have no layer. -/
def cntU (ly : List Int) : Nat → Nat
  | 0 => 0
  | v + 1 => cntU ly v + if ix ly v < 0 then 1 else 0
theorem cntU_le {ly ly' : List Int} : ∀ {n : Nat}, (∀ v, v < n → ix ly' v < 0 → ix ly v < 0) → cntU ly' n ≤ cntU ly n
  | 0, _ => Nat.le_refl _
  | n + 1, h => by
    have ih := cntU_le (n := n) fun v hv => h v (by omega)
    have h1 := h n (by omega)
    simp only [cntU]
    split <;> split <;> omega
theorem cntU_lt {ly ly' : List Int} : ∀ {n : Nat}, (∀ v, v < n → ix ly' v < 0 → ix ly v < 0) → (∃ v, v < n ∧ ix ly v < 0 ∧ 0 ≤ ix ly' v) → cntU ly' n < cntU ly n
  | 0, _, ⟨v, hv, _⟩ => by omega
  | n + 1, h, ⟨v, hv, h1, h2⟩ => by
    have hle := cntU_le (n := n) fun v hv => h v (by omega)
    simp only [cntU]
    by_cases e : v = n
    · subst e
      rw [if_pos h1, if_neg (by omega)]; omega
    · have ih := cntU_lt (n := n) (fun v hv => h v (by omega)) ⟨v, by omega, h1, h2⟩
      have h3 := h n (by omega)
      split <;> split <;> omega
theorem cntU_le_n (ly : List Int) : ∀ n, cntU ly n ≤ n
  | 0 => Nat.le_refl _
  | n + 1 => by
    have := cntU_le_n ly n
    simp only [cntU]; split <;> omega
/-- v is before all of a set. -/
def befB (ly : List Int) (v set n : Nat) : Bool := allI (fun u => !(set.testBit u && decide (ix ly v ≤ ix ly u))) n
theorem bef_iff {ly : List Int} {v set n : Nat} : befB ly v set n = true ↔ ∀ u, u < n → set.testBit u = true → ix ly u < ix ly v := by
  unfold befB
  rw [allI_iff]
  constructor
  · intro h u hu hb
    have := h u hu
    rw [hb] at this
    simp only [Bool.true_and, Bool.not_eq_true', decide_eq_false_iff_not] at this
    omega
  · intro h u hu
    cases hb : set.testBit u with
    | false => rfl
    | true =>
      have := h u hu hb
      simp only [Bool.true_and, Bool.not_eq_true', decide_eq_false_iff_not]
      omega
def clr (a v : Nat) : Nat := a ^^^ (a &&& 2 ^ v)
theorem clr_bit (a v u : Nat) : (clr a v).testBit u = (a.testBit u && !decide (v = u)) := by
  unfold clr
  rw [Nat.testBit_xor, Nat.testBit_and, Nat.testBit_two_pow]
  cases a.testBit u <;> cases decide (v = u) <;> rfl
/-- The layers are in range. -/
def layB (ly : List Int) (nl n : Nat) : Bool := decide (nl = n) && allI (fun i => within (ix ly i) 0 100) nl
/-- u may follow v. -/
def gdB (es : List Int) (m n : Nat) (is : List Int) (ni : Nat) (nx ly : List Int) (u v : Nat) : Bool :=
  !(unl ly n).testBit u && !hasI is u ni && !hasI nx u n && decide (ngK es u m &&& unl ly n = 2 ^ v)
def nxZ (es : List Int) (m n : Nat) (is : List Int) (ni : Nat) (nx ly : List Int) (v : Nat) : Int := if (unl ly n).testBit v then findI (fun u => gdB es m n is ni nx ly u v) n else ix nx v
def lyV (es : List Int) (m n : Nat) (is : List Int) (ni : Nat) (k : Nat) (nx ly : List Int) (v : Nat) : Int := if (unl ly n).testBit v = true ∧ 0 ≤ findI (fun u => gdB es m n is ni nx ly u v) n then (k : Int) else ix ly v
def mapN (f : Nat → Int) (n : Nat) : List Int := (List.range n).map f
theorem ix_mapN {f : Nat → Int} {n v : Nat} (h : v < n) : ix (mapN f n) v = f v := by simp [ix, mapN, List.getD, h]
@[simp] theorem mapN_length (f : Nat → Int) (n : Nat) : (mapN f n).length = n := by simp [mapN]
/-- One step of the search for a causal flow. -/
def cfS (es : List Int) (m n : Nat) (is : List Int) (ni k : Nat) (s : List Int × List Int) : List Int × List Int := (mapN (nxZ es m n is ni s.1 s.2) n, mapN (lyV es m n is ni k s.1 s.2) n)
def cfR (es : List Int) (m n : Nat) (is : List Int) (ni : Nat) : Nat → Nat → List Int × List Int → Option (List Int × List Int)
  | 0, _, _ => none
  | f + 1, k, s => if unl s.2 n = 0 then some s else if unl (cfS es m n is ni k s).2 n = unl s.2 n then none else cfR es m n is ni f (k + 1) (cfS es m n is ni k s)
structure FlI (es : List Int) (m n : Nat) (is : List Int) (ni : Nat) (os : List Int) (no : Nat) (k : Nat) (nx ly : List Int) : Prop where
  ln : nx.length = n
  ll : ly.length = n
  dom : ∀ v, v < n → ix ly v = -1 ∨ (0 ≤ ix ly v ∧ ix ly v < k)
  out : ∀ v, v < n → (hasI os v no = true ↔ ix ly v = 0)
  nxo : ∀ v, v < n → ix ly v ≤ 0 → ix nx v = -1
  nxs : ∀ v, v < n → 1 ≤ ix ly v → ∃ u : Nat, u < n ∧ ix nx v = (u : Int) ∧ hasI is u ni = false ∧ jn es u v m = true ∧ (0 ≤ ix ly u ∧ ix ly u < ix ly v) ∧ ∀ w, w < n → jn es w u m = true → w ≠ v → 0 ≤ ix ly w ∧ ix ly w < ix ly v
  inj : ∀ v w, v < n → w < n → 0 ≤ ix nx v → ix nx v = ix nx w → v = w
theorem gd_iff {es : List Int} {m n : Nat} (hes : edgesOk (n : Int) es m = true) {is : List Int} {ni : Nat} {nx ly : List Int} {u v : Nat} (hu : u < n) : gdB es m n is ni nx ly u v = true ↔ (0 ≤ ix ly u ∧ hasI is u ni = false ∧ hasI nx u n = false ∧ ∀ w, w < n → ((jn es w u m = true ∧ ix ly w < 0) ↔ w = v)) ∧ (v < n ∨ n ≤ v ∧ False) := by
  unfold gdB
  simp only [Bool.and_eq_true, Bool.not_eq_true', decide_eq_true_eq]
  rw [unl_bit]
  simp only [hu, decide_true, Bool.true_and, decide_eq_false_iff_not]
  constructor
  · rintro ⟨⟨⟨h1, h2⟩, h3⟩, h4⟩
    have hb : ∀ w, (jn es w u m = true ∧ (w < n ∧ ix ly w < 0)) ↔ v = w := by
      intro w
      have := congrArg (fun x => x.testBit w) h4
      simp only [Nat.testBit_and, ng_bit hes w u m (Nat.le_refl _), unl_bit, Nat.testBit_two_pow] at this
      rw [Bool.eq_iff_iff] at this
      simpa [Bool.and_eq_true] using this
    have hvn : v < n := ((hb v).2 rfl).2.1
    refine ⟨⟨by omega, h2, h3, fun w hw => ?_⟩, .inl hvn⟩
    have := hb w
    constructor
    · rintro ⟨a, b⟩; exact (this.1 ⟨a, hw, b⟩).symm
    · rintro rfl
      obtain ⟨a, _, b⟩ := this.2 rfl
      exact ⟨a, b⟩
  · rintro ⟨⟨h1, h2, h3, h4⟩, h5⟩
    have hvn : v < n := by rcases h5 with h | ⟨_, h⟩; exact h; exact h.elim
    refine ⟨⟨⟨by omega, h2⟩, h3⟩, ?_⟩
    refine Nat.eq_of_testBit_eq fun w => ?_
    rw [Nat.testBit_and, ng_bit hes w u m (Nat.le_refl _), unl_bit, Nat.testBit_two_pow, Bool.eq_iff_iff]
    simp only [Bool.and_eq_true, decide_eq_true_eq]
    constructor
    · rintro ⟨a, b, c⟩; exact ((h4 w b).1 ⟨a, c⟩).symm
    · rintro rfl
      obtain ⟨a, b⟩ := (h4 v hvn).2 rfl
      exact ⟨a, hvn, b⟩
theorem hasI_iff {l : List Int} {x : Int} {n : Nat} : hasI l x n = true ↔ ∃ i, i < n ∧ ix l i = x := by
  unfold hasI; rw [anyI_iff]; simp
theorem hasI_no {l : List Int} {x : Int} {n : Nat} : hasI l x n = false ↔ ∀ i, i < n → ix l i ≠ x := by
  rw [← Bool.not_eq_true, hasI_iff]
  constructor
  · intro h i hi e; exact h ⟨i, hi, e⟩
  · rintro h ⟨i, hi, e⟩; exact h i hi e
/-- A step keeps the state right. -/
theorem FlI.step {es : List Int} {m n : Nat} {is : List Int} {ni : Nat} {os : List Int} {no k : Nat} {nx ly : List Int} (hes : edgesOk (n : Int) es m = true) (hk : 1 ≤ k) (h : FlI es m n is ni os no k nx ly) :
    FlI es m n is ni os no (k + 1) (cfS es m n is ni k (nx, ly)).1 (cfS es m n is ni k (nx, ly)).2 ∧ (∀ v, v < n → ix (cfS es m n is ni k (nx, ly)).2 v < 0 → ix ly v < 0) := by
  have hnx : ∀ v, v < n → ix (cfS es m n is ni k (nx, ly)).1 v = nxZ es m n is ni nx ly v := fun v hv => ix_mapN hv
  have hly : ∀ v, v < n → ix (cfS es m n is ni k (nx, ly)).2 v = lyV es m n is ni k nx ly v := fun v hv => ix_mapN hv
  have hold : ∀ v, v < n → 0 ≤ ix ly v → nxZ es m n is ni nx ly v = ix nx v ∧ lyV es m n is ni k nx ly v = ix ly v := by
    intro v hv h0
    have hb : (unl ly n).testBit v = false := by rw [unl_bit]; simp; omega
    exact ⟨by rw [nxZ, hb]; rfl, by rw [lyV, hb]; simp⟩
  have hnew : ∀ v, v < n → ix ly v < 0 → (lyV es m n is ni k nx ly v = -1 ∧ nxZ es m n is ni nx ly v = -1) ∨ ∃ u : Nat, u < n ∧ nxZ es m n is ni nx ly v = (u : Int) ∧ lyV es m n is ni k nx ly v = (k : Int) ∧ gdB es m n is ni nx ly u v = true := by
    intro v hv h0
    have hb : (unl ly n).testBit v = true := by rw [unl_bit]; simp [hv, h0]
    have hd : ix ly v = -1 := by rcases h.dom v hv with h1 | h1 <;> omega
    by_cases hf : 0 ≤ findI (fun u => gdB es m n is ni nx ly u v) n
    · obtain ⟨h1, h2⟩ := findI_sat' hf
      exact .inr ⟨_, h1, by rw [nxZ, hb, if_pos rfl]; omega, by rw [lyV, if_pos ⟨hb, hf⟩], h2⟩
    · left
      refine ⟨by rw [lyV, if_neg fun hc => hf hc.2]; exact hd, ?_⟩
      rw [nxZ, hb, if_pos rfl]
      refine findI_none fun i hi => ?_
      cases hg : gdB es m n is ni nx ly i v with
      | false => rfl
      | true => exact absurd (findI_nonneg.2 (anyI_true hi hg)) hf
  refine ⟨⟨mapN_length _ _, mapN_length _ _, ?_, ?_, ?_, ?_, ?_⟩, ?_⟩
  · intro v hv
    rw [hly v hv]
    by_cases h0 : ix ly v < 0
    · rcases hnew v hv h0 with ⟨h1, _⟩ | ⟨u, _, _, h1, _⟩ <;> rw [h1] <;> omega
    · rw [(hold v hv (by omega)).2]
      rcases h.dom v hv with h1 | h1 <;> omega
  · intro v hv
    rw [hly v hv, h.out v hv]
    by_cases h0 : ix ly v < 0
    · rcases hnew v hv h0 with ⟨h1, _⟩ | ⟨u, _, _, h1, _⟩ <;> rw [h1] <;> omega
    · rw [(hold v hv (by omega)).2]
  · intro v hv
    rw [hly v hv, hnx v hv]
    by_cases h0 : ix ly v < 0
    · rcases hnew v hv h0 with ⟨h1, h2⟩ | ⟨u, _, _, h1, _⟩
      · intro _; exact h2
      · rw [h1]; intro; omega
    · rw [(hold v hv (by omega)).2, (hold v hv (by omega)).1]; exact h.nxo v hv
  · intro v hv
    rw [hly v hv, hnx v hv]
    by_cases h0 : ix ly v < 0
    · rcases hnew v hv h0 with ⟨h1, h2⟩ | ⟨u, hu, h2, h1, hg⟩
      · rw [h1]; intro; omega
      · intro _
        obtain ⟨⟨g1, g2, g3, g4⟩, _⟩ := (gd_iff hes hu).1 hg
        have hlu := h.dom u hu
        refine ⟨u, hu, h2, g2, by rw [jn_comm]; exact ((g4 v hv).2 rfl).1, ?_, ?_⟩
        · rw [hly u hu, (hold u hu g1).2, h1]; omega
        · intro w hw hj hne
          have hw0 : 0 ≤ ix ly w := by
            refine Decidable.byContradiction fun hn => hne ((g4 w hw).1 ⟨hj, by omega⟩)
          have := h.dom w hw
          rw [hly w hw, (hold w hw hw0).2, h1]; omega
    · have ho := hold v hv (by omega)
      rw [ho.2, ho.1]
      intro h1
      obtain ⟨u, hu, h2, h3, h4, h5, h6⟩ := h.nxs v hv h1
      refine ⟨u, hu, h2, h3, h4, by rw [hly u hu, (hold u hu h5.1).2]; exact h5, fun w hw hj hne => ?_⟩
      have := h6 w hw hj hne
      rw [hly w hw, (hold w hw this.1).2]; exact this
  · intro v w hv hw
    rw [hnx v hv, hnx w hw]
    by_cases h0 : ix ly v < 0
    · rcases hnew v hv h0 with ⟨_, h2⟩ | ⟨u, hu, h2, h1, hg⟩
      · rw [h2]; intro; omega
      · obtain ⟨⟨g1, g2, g3, g4⟩, _⟩ := (gd_iff hes hu).1 hg
        rw [h2]
        intro _ he
        by_cases hw0 : ix ly w < 0
        · rcases hnew w hw hw0 with ⟨_, h3⟩ | ⟨u', hu', h3, _, hg'⟩
          · rw [h3] at he; omega
          · rw [h3] at he
            have : u = u' := by omega
            subst this
            obtain ⟨⟨_, _, _, g4'⟩, _⟩ := (gd_iff hes hu).1 hg'
            exact (g4' v hv).1 ((g4 v hv).2 rfl)
        · rw [(hold w hw (by omega)).1] at he
          exact absurd he.symm (hasI_no.1 g3 w hw)
    · rw [(hold v hv (by omega)).1]
      intro h1 he
      by_cases hw0 : ix ly w < 0
      · rcases hnew w hw hw0 with ⟨_, h3⟩ | ⟨u', hu', h3, _, hg'⟩
        · rw [h3] at he; omega
        · rw [h3] at he
          obtain ⟨⟨_, _, g3, _⟩, _⟩ := (gd_iff hes hu').1 hg'
          exact absurd he (hasI_no.1 g3 v hv)
      · rw [(hold w hw (by omega)).1] at he
        exact h.inj v w hv hw h1 he
  · intro v hv
    rw [hly v hv]
    intro h1
    refine Decidable.byContradiction fun hn => ?_
    rw [(hold v hv (by omega)).2] at h1; exact hn h1
/-- The least of some. -/
theorem least_of (f : Nat → Int) (P : Nat → Prop) [DecidablePred P] : ∀ (n : Nat), (∃ v, v < n ∧ P v) → ∃ v, v < n ∧ P v ∧ ∀ w, w < n → P w → f v ≤ f w
  | 0, ⟨v, hv, _⟩ => by omega
  | n + 1, h => by
    by_cases h2 : ∃ v, v < n ∧ P v
    · obtain ⟨v, hv, hp, hm⟩ := least_of f P n h2
      by_cases hn : P n
      · by_cases hc : f v ≤ f n
        · exact ⟨v, by omega, hp, fun w hw hpw => by
            by_cases e : w = n
            · subst e; exact hc
            · exact hm w (by omega) hpw⟩
        · exact ⟨n, by omega, hn, fun w hw hpw => by
            by_cases e : w = n
            · subst e; exact Int.le_refl _
            · have := hm w (by omega) hpw; omega⟩
      · exact ⟨v, by omega, hp, fun w hw hpw => by
          by_cases e : w = n
          · subst e; exact absurd hpw hn
          · exact hm w (by omega) hpw⟩
    · obtain ⟨v, hv, hp⟩ := h
      have e : v = n := by
        refine Decidable.byContradiction fun hne => h2 ⟨v, by omega, hp⟩
      subst e
      exact ⟨v, by omega, hp, fun w hw hpw => by
        by_cases e : w = v
        · subst e; exact Int.le_refl _
        · exact absurd ⟨w, by omega, hpw⟩ h2⟩
/-- The layers at the start. -/
def ly0 (os : List Int) (no n : Nat) : List Int := mapN (fun v => if hasI os v no then 0 else -1) n
theorem fl_start {es : List Int} {m n : Nat} {is : List Int} {ni : Nat} {os : List Int} {no : Nat} : FlI es m n is ni os no 1 (List.replicate n (-1)) (ly0 os no n) := by
  have hly : ∀ v, v < n → ix (ly0 os no n) v = if hasI os v no then 0 else -1 := fun v hv => ix_mapN hv
  have hnx : ∀ v, v < n → ix (List.replicate n (-1 : Int)) v = -1 := fun v hv => by simp [ix, List.getD, hv]
  refine ⟨by simp, by simp [ly0], ?_, ?_, fun v hv _ => hnx v hv, ?_, ?_⟩
  · intro v hv
    rw [hly v hv]; split <;> omega
  · intro v hv
    rw [hly v hv]; split <;> simp_all
  · intro v hv h1
    rw [hly v hv] at h1
    split at h1 <;> omega
  · intro v w hv hw h1
    rw [hnx v hv] at h1; omega
/-- u has an odd number of neighbours among the nodes of a set below k. -/
def oddB (es : List Int) (m set u : Nat) : Nat → Bool
  | 0 => false
  | k + 1 => oddB es m set u k ^^ (set.testBit k && jn es u k m)
def oddM (es : List Int) (m n set : Nat) : Nat → Nat
  | 0 => 0
  | v + 1 => if oddB es m set v n then oddM es m n set v ||| 2 ^ v else oddM es m n set v
theorem oddM_bit (es : List Int) (m n set u : Nat) : ∀ k, (oddM es m n set k).testBit u = (decide (u < k) && oddB es m set u n)
  | 0 => by simp [oddM]
  | k + 1 => by
    have ih := oddM_bit es m n set u k
    rw [oddM]
    split
    · rename_i h
      rw [or_bit, ih]
      by_cases e : k = u
      · subst e; simp [h]
      · have : (u < k + 1) ↔ (u < k) := by omega
        rw [decide_eq_false e, Bool.or_false]; simp only [this]
    · rename_i h
      rw [ih]
      by_cases e : k = u
      · subst e; simp [h]
      · have : (u < k + 1) ↔ (u < k) := by omega
        simp only [this]
theorem oddM_lt (es : List Int) (m n set : Nat) : ∀ k, oddM es m n set k < 2 ^ k
  | 0 => by simp [oddM]
  | k + 1 => by
    have ih := oddM_lt es m n set k
    have h2 : 2 ^ k < 2 ^ (k + 1) := Nat.pow_lt_pow_right (by omega) (by omega)
    rw [oddM]
    split
    · exact or_pow_lt (by omega) (by omega)
    · omega
theorem oddB_zero (es : List Int) (m u : Nat) : ∀ k, oddB es m 0 u k = false
  | 0 => rfl
  | k + 1 => by rw [oddB, oddB_zero es m u k]; simp
def gfAt (es : List Int) (m n : Nat) (is : List Int) (ni : Nat) (os : List Int) (no : Nat) (ss ly : List Int) (v : Nat) : Bool :=
  if hasI os v no = true then decide (ix ss v = 0) else
    within (ix ss v) 0 (((2 ^ n : Nat) : Int) - 1) && decide ((ix ss v).toNat &&& mskK is ni = 0) && !(ix ss v).toNat.testBit v && (oddM es m n (ix ss v).toNat n).testBit v && befB ly v ((ix ss v).toNat ||| clr (oddM es m n (ix ss v).toNat n) v) n
/-- A generalised flow. -/
def gfB (es : List Int) (m n : Nat) (is : List Int) (ni : Nat) (os : List Int) (no : Nat) (ss : List Int) (nn : Nat) (ly : List Int) (nl : Nat) : Bool :=
  (decide (nn = n) && layB ly nl n) && allI (gfAt es m n is ni os no ss ly) nn
/-- A set that serves v. -/
def svB (es : List Int) (m n al lf v set : Nat) : Bool := decide (0 < set) && decide (set &&& al = set) && decide (oddM es m n set n &&& lf = 2 ^ v)
def allw (is : List Int) (ni n lf : Nat) : Nat := (2 ^ n - 1) ^^^ ((2 ^ n - 1) &&& (lf ||| mskK is ni))
theorem allw_bit {is : List Int} {ni n lf u : Nat} (hi : ∀ i, i < ni → 0 ≤ ix is i) : (allw is ni n lf).testBit u = (decide (u < n) && !lf.testBit u && !hasI is u ni) := by
  unfold allw
  rw [Nat.testBit_xor, Nat.testBit_and, Nat.testBit_or, mskK_bit hi, Nat.testBit_two_pow_sub_one]
  cases decide (u < n) <;> cases lf.testBit u <;> cases hasI is u ni <;> rfl
def ssV (es : List Int) (m n : Nat) (is : List Int) (ni : Nat) (ss ly : List Int) (v : Nat) : Int := if (unl ly n).testBit v = true ∧ 0 ≤ findI (svB es m n (allw is ni n (unl ly n)) (unl ly n) v) (2 ^ n) then findI (svB es m n (allw is ni n (unl ly n)) (unl ly n) v) (2 ^ n) else ix ss v
def lgV (es : List Int) (m n : Nat) (is : List Int) (ni : Nat) (k : Nat) (ly : List Int) (v : Nat) : Int := if (unl ly n).testBit v = true ∧ 0 ≤ findI (svB es m n (allw is ni n (unl ly n)) (unl ly n) v) (2 ^ n) then (k : Int) else ix ly v
/-- One step of the search for a generalised flow. -/
def gfS (es : List Int) (m n : Nat) (is : List Int) (ni k : Nat) (s : List Int × List Int) : List Int × List Int := (mapN (ssV es m n is ni s.1 s.2) n, mapN (lgV es m n is ni k s.2) n)
def gfR (es : List Int) (m n : Nat) (is : List Int) (ni : Nat) : Nat → Nat → List Int × List Int → Option (List Int × List Int)
  | 0, _, _ => none
  | f + 1, k, s => if unl s.2 n = 0 then some s else if unl (gfS es m n is ni k s).2 n = unl s.2 n then none else gfR es m n is ni f (k + 1) (gfS es m n is ni k s)
structure GlI (es : List Int) (m n : Nat) (is : List Int) (ni : Nat) (os : List Int) (no : Nat) (k : Nat) (ss ly : List Int) : Prop where
  ln : ss.length = n
  ll : ly.length = n
  dom : ∀ v, v < n → ix ly v = -1 ∨ (0 ≤ ix ly v ∧ ix ly v < k)
  out : ∀ v, v < n → (hasI os v no = true ↔ ix ly v = 0)
  nxo : ∀ v, v < n → ix ly v ≤ 0 → ix ss v = 0
  nxs : ∀ v, v < n → 1 ≤ ix ly v → ∃ s : Nat, s < 2 ^ n ∧ ix ss v = (s : Int) ∧ oddB es m s v n = true ∧ (∀ u, u < n → s.testBit u = true → hasI is u ni = false ∧ 0 ≤ ix ly u ∧ ix ly u < ix ly v) ∧ ∀ u, u < n → oddB es m s u n = true → u ≠ v → 0 ≤ ix ly u ∧ ix ly u < ix ly v
theorem sv_iff {es : List Int} {m n : Nat} {is : List Int} {ni : Nat} (hi : ∀ i, i < ni → 0 ≤ ix is i) {ly : List Int} {s v : Nat} (hs : s < 2 ^ n) (hv : v < n) : svB es m n (allw is ni n (unl ly n)) (unl ly n) v s = true ↔ (0 < s ∧ (∀ u, u < n → s.testBit u = true → 0 ≤ ix ly u ∧ hasI is u ni = false) ∧ ∀ u, u < n → ((oddB es m s u n = true ∧ ix ly u < 0) ↔ u = v)) := by
  have hbig : ∀ u, n ≤ u → s.testBit u = false := fun u hu => Nat.testBit_lt_two_pow (Nat.lt_of_lt_of_le hs (Nat.pow_le_pow_right (by omega) hu))
  unfold svB
  simp only [Bool.and_eq_true, decide_eq_true_eq]
  constructor
  · rintro ⟨⟨h1, h2⟩, h3⟩
    refine ⟨h1, fun u hu hb => ?_, fun u hu => ?_⟩
    · have := congrArg (fun x => x.testBit u) h2
      simp only [Nat.testBit_and, hb, Bool.true_and, allw_bit hi, hu, decide_true, unl_bit] at this
      simp only [Bool.and_eq_true, Bool.not_eq_true', decide_eq_false_iff_not] at this
      exact ⟨by omega, this.2⟩
    · have := congrArg (fun x => x.testBit u) h3
      simp only [Nat.testBit_and, oddM_bit, unl_bit, hu, decide_true, Bool.true_and, Nat.testBit_two_pow] at this
      rw [Bool.eq_iff_iff] at this
      simp only [Bool.and_eq_true, decide_eq_true_eq] at this
      rw [this]; omega
  · rintro ⟨h1, h2, h3⟩
    refine ⟨⟨h1, Nat.eq_of_testBit_eq fun u => ?_⟩, Nat.eq_of_testBit_eq fun u => ?_⟩
    · rw [Nat.testBit_and, allw_bit hi, unl_bit]
      by_cases hu : u < n
      · cases hb : s.testBit u with
        | false => rfl
        | true =>
          have h4 := h2 u hu hb
          rw [h4.2]; simp [hu]; omega
      · rw [hbig u (by omega)]; rfl
    · rw [Nat.testBit_and, oddM_bit, unl_bit, Nat.testBit_two_pow, Bool.eq_iff_iff]
      simp only [Bool.and_eq_true, decide_eq_true_eq]
      constructor
      · rintro ⟨⟨a, b⟩, _, c⟩; exact ((h3 u a).1 ⟨b, c⟩).symm
      · rintro rfl
        obtain ⟨a, b⟩ := (h3 v hv).2 rfl
        exact ⟨⟨hv, a⟩, hv, b⟩
theorem GlI.step {es : List Int} {m n : Nat} {is : List Int} {ni : Nat} {os : List Int} {no k : Nat} {ss ly : List Int} (hi : ∀ i, i < ni → 0 ≤ ix is i) (hk : 1 ≤ k) (h : GlI es m n is ni os no k ss ly) :
    GlI es m n is ni os no (k + 1) (gfS es m n is ni k (ss, ly)).1 (gfS es m n is ni k (ss, ly)).2 ∧ (∀ v, v < n → ix (gfS es m n is ni k (ss, ly)).2 v < 0 → ix ly v < 0) := by
  have hss : ∀ v, v < n → ix (gfS es m n is ni k (ss, ly)).1 v = ssV es m n is ni ss ly v := fun v hv => ix_mapN hv
  have hly : ∀ v, v < n → ix (gfS es m n is ni k (ss, ly)).2 v = lgV es m n is ni k ly v := fun v hv => ix_mapN hv
  have hold : ∀ v, v < n → 0 ≤ ix ly v → ssV es m n is ni ss ly v = ix ss v ∧ lgV es m n is ni k ly v = ix ly v := by
    intro v hv h0
    have hb : (unl ly n).testBit v = false := by rw [unl_bit]; simp; omega
    exact ⟨by rw [ssV, hb]; simp, by rw [lgV, hb]; simp⟩
  have hnew : ∀ v, v < n → ix ly v < 0 → (lgV es m n is ni k ly v = -1 ∧ ssV es m n is ni ss ly v = ix ss v) ∨ ∃ s : Nat, s < 2 ^ n ∧ ssV es m n is ni ss ly v = (s : Int) ∧ lgV es m n is ni k ly v = (k : Int) ∧ svB es m n (allw is ni n (unl ly n)) (unl ly n) v s = true := by
    intro v hv h0
    have hb : (unl ly n).testBit v = true := by rw [unl_bit]; simp [hv, h0]
    have hd : ix ly v = -1 := by rcases h.dom v hv with h1 | h1 <;> omega
    by_cases hf : 0 ≤ findI (svB es m n (allw is ni n (unl ly n)) (unl ly n) v) (2 ^ n)
    · obtain ⟨h1, h2⟩ := findI_sat' hf
      exact .inr ⟨_, h1, by rw [ssV, if_pos ⟨hb, hf⟩]; omega, by rw [lgV, if_pos ⟨hb, hf⟩], h2⟩
    · left
      exact ⟨by rw [lgV, if_neg fun hc => hf hc.2]; exact hd, by rw [ssV, if_neg fun hc => hf hc.2]⟩
  refine ⟨⟨mapN_length _ _, mapN_length _ _, ?_, ?_, ?_, ?_⟩, ?_⟩
  · intro v hv
    rw [hly v hv]
    by_cases h0 : ix ly v < 0
    · rcases hnew v hv h0 with ⟨h1, _⟩ | ⟨u, _, _, h1, _⟩ <;> rw [h1] <;> omega
    · rw [(hold v hv (by omega)).2]
      rcases h.dom v hv with h1 | h1 <;> omega
  · intro v hv
    rw [hly v hv, h.out v hv]
    by_cases h0 : ix ly v < 0
    · rcases hnew v hv h0 with ⟨h1, _⟩ | ⟨u, _, _, h1, _⟩ <;> rw [h1] <;> omega
    · rw [(hold v hv (by omega)).2]
  · intro v hv
    rw [hly v hv, hss v hv]
    by_cases h0 : ix ly v < 0
    · rcases hnew v hv h0 with ⟨h1, h2⟩ | ⟨u, _, _, h1, _⟩
      · intro _; rw [h2]; exact h.nxo v hv (by omega)
      · rw [h1]; intro; omega
    · rw [(hold v hv (by omega)).2, (hold v hv (by omega)).1]; exact h.nxo v hv
  · intro v hv
    rw [hly v hv, hss v hv]
    by_cases h0 : ix ly v < 0
    · rcases hnew v hv h0 with ⟨h1, h2⟩ | ⟨s, hs, h2, h1, hg⟩
      · rw [h1]; intro; omega
      · intro _
        obtain ⟨_, g2, g3⟩ := (sv_iff hi hs hv).1 hg
        refine ⟨s, hs, h2, ((g3 v hv).2 rfl).1, fun u hu hb => ?_, fun u hu hb hne => ?_⟩
        · obtain ⟨g4, g5⟩ := g2 u hu hb
          have := h.dom u hu
          refine ⟨g5, ?_⟩
          rw [hly u hu, (hold u hu g4).2, h1]; omega
        · have hu0 : 0 ≤ ix ly u := by
            refine Decidable.byContradiction fun hn => hne ((g3 u hu).1 ⟨hb, by omega⟩)
          have := h.dom u hu
          rw [hly u hu, (hold u hu hu0).2, h1]; omega
    · have ho := hold v hv (by omega)
      rw [ho.2, ho.1]
      intro h1
      obtain ⟨s, hs, h2, h3, h4, h5⟩ := h.nxs v hv h1
      refine ⟨s, hs, h2, h3, fun u hu hb => ?_, fun u hu hb hne => ?_⟩
      · obtain ⟨g4, g5, g6⟩ := h4 u hu hb
        rw [hly u hu, (hold u hu g5).2]; exact ⟨g4, g5, g6⟩
      · have := h5 u hu hb hne
        rw [hly u hu, (hold u hu this.1).2]; exact this
  · intro v hv
    rw [hly v hv]
    intro h1
    refine Decidable.byContradiction fun hn => ?_
    rw [(hold v hv (by omega)).2] at h1; exact hn h1
theorem gf_at {es : List Int} {m n : Nat} {is : List Int} {ni : Nat} (hi : ∀ i, i < ni → 0 ≤ ix is i) {os : List Int} {no : Nat} {ss ly : List Int} {nn nl : Nat} (h : gfB es m n is ni os no ss nn ly nl = true) {v : Nat} (hv : v < n) (ho : hasI os v no = false) :
    ∃ s : Nat, s < 2 ^ n ∧ ix ss v = (s : Int) ∧ oddB es m s v n = true ∧ (∀ u, u < n → s.testBit u = true → hasI is u ni = false ∧ ix ly u < ix ly v) ∧ ∀ u, u < n → oddB es m s u n = true → u ≠ v → ix ly u < ix ly v := by
  simp only [gfB, Bool.and_eq_true, decide_eq_true_eq] at h
  have h1 := allI_iff.1 h.2 v (by omega)
  rw [gfAt, ho, if_neg (by decide)] at h1
  simp only [Bool.and_eq_true, Bool.not_eq_true', decide_eq_true_eq] at h1
  obtain ⟨⟨⟨⟨h2, h3⟩, h4⟩, h5⟩, h6⟩ := h1
  have h2 := within_iff.1 h2
  obtain ⟨s, hs⟩ : ∃ s : Nat, ix ss v = s := ⟨(ix ss v).toNat, by omega⟩
  rw [hs] at h2 h3 h4 h5 h6
  simp only [Int.toNat_natCast] at h3 h4 h5 h6
  rw [oddM_bit] at h5
  simp only [Bool.and_eq_true, decide_eq_true_eq] at h5
  have hp := Nat.two_pow_pos n
  refine ⟨s, by omega, hs, h5.2, fun u hu hb => ⟨?_, ?_⟩, fun u hu hb hne => ?_⟩
  · have := congrArg (fun x => x.testBit u) h3
    simp only [Nat.testBit_and, hb, Bool.true_and, mskK_bit hi, Nat.zero_testBit] at this
    exact this
  · exact bef_iff.1 h6 u hu (by rw [Nat.testBit_or, hb]; rfl)
  · refine bef_iff.1 h6 u hu ?_
    rw [Nat.testBit_or, clr_bit, oddM_bit, hb, show decide (v = u) = false from decide_eq_false fun e => hne e.symm]
    simp [hu]
theorem gf_more {es : List Int} {m n : Nat} {is : List Int} {ni : Nat} {os : List Int} {no k : Nat} {ss ly F L : List Int} {nn nl : Nat} (hi : ∀ i, i < ni → 0 ≤ ix is i) (hk : 1 ≤ k) (h : GlI es m n is ni os no k ss ly) (hf : gfB es m n is ni os no F nn L nl = true) (hl : unl ly n ≠ 0) :
    unl (gfS es m n is ni k (ss, ly)).2 n ≠ unl ly n := by
  have hex : ∃ v, v < n ∧ ix ly v < 0 := by
    refine Decidable.byContradiction fun hn => hl (unl_zero.2 fun v hv => ?_)
    refine Decidable.byContradiction fun h0 => hn ⟨v, hv, by omega⟩
  obtain ⟨v, hv, h0, hmin⟩ := least_of (fun v => ix L v) (fun v => ix ly v < 0) n hex
  have ho : hasI os v no = false := by
    cases hb : hasI os v no with
    | false => rfl
    | true => have := (h.out v hv).1 hb; omega
  obtain ⟨s, hs, _, g1, g2, g3⟩ := gf_at hi hf hv ho
  have hlab : ∀ w, w < n → ix L w < ix L v → 0 ≤ ix ly w := by
    intro w hw hlt
    refine Decidable.byContradiction fun hn => ?_
    have : ix L v ≤ ix L w := hmin w hw (by omega)
    omega
  have hs0 : 0 < s := by
    rcases Nat.eq_zero_or_pos s with h1 | h1
    · subst h1; rw [oddB_zero] at g1; cases g1
    · exact h1
  have hsv : svB es m n (allw is ni n (unl ly n)) (unl ly n) v s = true := by
    refine (sv_iff hi hs hv).2 ⟨hs0, fun u hu hb => ⟨hlab u hu (g2 u hu hb).2, (g2 u hu hb).1⟩, fun u hu => ⟨?_, ?_⟩⟩
    · rintro ⟨hb, hu0⟩
      refine Decidable.byContradiction fun hne => ?_
      have := hlab u hu (g3 u hu hb hne)
      omega
    · rintro rfl; exact ⟨g1, h0⟩
  intro he
  have h1 := (unl_congr.1 he v hv).2 h0
  have h2 : ix (gfS es m n is ni k (ss, ly)).2 v = lgV es m n is ni k ly v := ix_mapN hv
  have hb : (unl ly n).testBit v = true := by rw [unl_bit]; simp [hv, h0]
  rw [h2, lgV, if_pos ⟨hb, findI_nonneg.2 (anyI_true hs hsv)⟩] at h1
  omega
theorem gfR_ok {es : List Int} {m n : Nat} {is : List Int} {ni : Nat} {os : List Int} {no : Nat} (hi : ∀ i, i < ni → 0 ≤ ix is i) : ∀ (f k : Nat) (ss ly : List Int), 1 ≤ k → GlI es m n is ni os no k ss ly → cntU ly n < f →
    (∀ s, gfR es m n is ni f k (ss, ly) = some s → GlI es m n is ni os no (k + cntU ly n) s.1 s.2 ∧ unl s.2 n = 0) ∧
    (∀ F nn L nl, gfB es m n is ni os no F nn L nl = true → gfR es m n is ni f k (ss, ly) ≠ none)
  | 0, k, ss, ly, _, _, hc => by omega
  | f + 1, k, ss, ly, hk, h, hc => by
    rw [gfR]
    by_cases h0 : unl ly n = 0
    · rw [if_pos h0]
      refine ⟨fun s hs => ?_, fun F nn L nl hf => by simp⟩
      cases hs
      refine ⟨⟨h.ln, h.ll, fun v hv => ?_, h.out, h.nxo, h.nxs⟩, h0⟩
      have h1 := h.dom v hv
      show ix ly v = -1 ∨ (0 ≤ ix ly v ∧ ix ly v < ((k + cntU ly n : Nat) : Int))
      omega
    · rw [if_neg h0]
      obtain ⟨h1, h2⟩ := h.step hi hk
      by_cases h3 : unl (gfS es m n is ni k (ss, ly)).2 n = unl ly n
      · rw [if_pos h3]
        exact ⟨(fun s hs => nomatch hs), fun F nn L nl hf => absurd h3 (gf_more hi hk h hf h0)⟩
      · rw [if_neg h3]
        have hlt : cntU (gfS es m n is ni k (ss, ly)).2 n < cntU ly n := by
          refine cntU_lt h2 ?_
          refine Decidable.byContradiction fun hn => h3 (unl_congr.2 fun v hv => ⟨h2 v hv, fun hv0 => ?_⟩)
          refine Decidable.byContradiction fun hp => hn ⟨v, hv, hv0, by omega⟩
        obtain ⟨h4, h5⟩ := gfR_ok hi f (k + 1) _ _ (by omega) h1 (by omega)
        refine ⟨fun s hs => ?_, h5⟩
        obtain ⟨h6, h7⟩ := h4 s hs
        refine ⟨⟨h6.ln, h6.ll, fun v hv => ?_, h6.out, h6.nxo, h6.nxs⟩, h7⟩
        have h8 := h6.dom v hv
        omega
theorem gf_start {es : List Int} {m n : Nat} {is : List Int} {ni : Nat} {os : List Int} {no : Nat} : GlI es m n is ni os no 1 (List.replicate n 0) (ly0 os no n) := by
  have hly : ∀ v, v < n → ix (ly0 os no n) v = if hasI os v no then 0 else -1 := fun v hv => ix_mapN hv
  have hnx : ∀ v, v < n → ix (List.replicate n (0 : Int)) v = 0 := fun v hv => by simp [ix, List.getD, hv]
  refine ⟨by simp, by simp [ly0], ?_, ?_, fun v hv _ => hnx v hv, ?_⟩
  · intro v hv
    rw [hly v hv]; split <;> omega
  · intro v hv
    rw [hly v hv]; split <;> simp_all
  · intro v hv h1
    rw [hly v hv] at h1
    split at h1 <;> omega
theorem gf_sound {es : List Int} {m n : Nat} {is : List Int} {ni : Nat} (hi : ∀ i, i < ni → 0 ≤ ix is i) {os : List Int} {no k : Nat} {ss ly : List Int} (hk : k ≤ 101) (h : GlI es m n is ni os no k ss ly) (h0 : unl ly n = 0) : gfB es m n is ni os no ss n ly n = true := by
  have hp := unl_zero.1 h0
  simp only [gfB, layB, Bool.and_eq_true, decide_eq_true_eq, allI_iff]
  refine ⟨⟨trivial, trivial, fun v hv => within_iff.2 ?_⟩, fun v hv => ?_⟩
  · have := h.dom v hv
    have := hp v hv
    omega
  · unfold gfAt
    by_cases ho : hasI os v no = true
    · rw [if_pos ho, decide_eq_true_eq]
      exact h.nxo v hv (by have := (h.out v hv).1 ho; omega)
    · rw [if_neg ho]
      have hv1 : 1 ≤ ix ly v := by
        have h1 := hp v hv
        refine Decidable.byContradiction fun hn => ho ((h.out v hv).2 (by omega))
      obtain ⟨s, hs, h2, h3, h4, h5⟩ := h.nxs v hv hv1
      rw [h2]
      simp only [Bool.and_eq_true, Bool.not_eq_true', Int.toNat_natCast, decide_eq_true_eq]
      refine ⟨⟨⟨⟨within_iff.2 (by omega), Nat.eq_of_testBit_eq fun u => ?_⟩, ?_⟩, by rw [oddM_bit, h3]; simp [hv]⟩, bef_iff.2 fun u hu hb => ?_⟩
      · rw [Nat.testBit_and, mskK_bit hi, Nat.zero_testBit]
        cases hb : s.testBit u with
        | false => rfl
        | true =>
          by_cases hu : u < n
          · rw [(h4 u hu hb).1]; rfl
          · rw [Nat.testBit_lt_two_pow (Nat.lt_of_lt_of_le hs (Nat.pow_le_pow_right (by omega) (by omega)))] at hb; cases hb
      · cases hb : s.testBit v with
        | false => rfl
        | true => have := (h4 v hv hb).2; omega
      · rw [Nat.testBit_or, clr_bit, oddM_bit] at hb
        simp only [Bool.or_eq_true, Bool.and_eq_true, Bool.not_eq_true', decide_eq_false_iff_not, decide_eq_true_eq] at hb
        rcases hb with hb | ⟨⟨_, hb⟩, hne⟩
        · exact (h4 u hu hb).2.2
        · exact (h5 u hu hb fun e => hne e.symm).2
end Go.Proofs.Ytoiaibgcjfgbcaa
/- Plain laws: chains of a flow, how many nodes have no layer at the start. -/
set_option linter.unusedSimpArgs false
set_option linter.unusedVariables false
namespace Go.Proofs.Ytoiaibgcjfgbcaa
open Go Go.RowKit
def cntF (w : Int) (cs : List (List Int)) : Nat := (cs.map fun c => c.count w).sum
/-- A rising list of nodes. -/
def risB (l : List Int) (n k : Nat) : Bool := allI (fun i => within (ix l i) 0 ((n : Int) - 1) && decide (0 < i → ix l (i - 1) < ix l i)) k
theorem ris_at {l : List Int} {n k : Nat} (h : risB l n k = true) {i : Nat} (hi : i < k) : 0 ≤ ix l i ∧ ix l i < n ∧ (0 < i → ix l (i - 1) < ix l i) := by
  have := allI_iff.1 h i hi
  simp only [Bool.and_eq_true, decide_eq_true_eq] at this
  have h1 := within_iff.1 this.1
  exact ⟨h1.1, by omega, this.2⟩
theorem ris_lt {l : List Int} {n k : Nat} (h : risB l n k = true) : ∀ {i j : Nat}, i < j → j < k → ix l i < ix l j := by
  intro i j hij hj
  induction j with
  | zero => omega
  | succ j ih =>
    have h1 := (ris_at h hj).2.2 (by omega)
    rw [Nat.add_sub_cancel] at h1
    rcases Nat.lt_succ_iff_lt_or_eq.1 hij with h2 | rfl
    · have := ih h2 (by omega); omega
    · exact h1
theorem ris_len {l : List Int} {n k : Nat} (h : risB l n k = true) : ((List.range n).filter fun v : Nat => hasI l (v : Int) k).length = k := by
  have hperm : ((List.range k).map fun i => (ix l i).toNat).Perm ((List.range n).filter fun v : Nat => hasI l (v : Int) k) := by
    rw [List.perm_ext_iff_of_nodup]
    · intro a
      simp only [List.mem_map, List.mem_filter, List.mem_range]
      constructor
      · rintro ⟨i, hi, rfl⟩
        have := ris_at h hi
        exact ⟨by omega, hasI_iff.2 ⟨i, hi, by omega⟩⟩
      · rintro ⟨_, hh⟩
        obtain ⟨i, hi, he⟩ := hasI_iff.1 hh
        exact ⟨i, hi, by rw [he, Int.toNat_natCast]⟩
    · refine List.pairwise_map.2 (List.Pairwise.imp_of_mem ?_ List.pairwise_lt_range)
      intro a b ha hb hab e
      rw [List.mem_range] at ha hb
      have h1 := ris_lt h hab hb
      have h2 := ris_at h ha
      omega
    · exact List.nodup_range.sublist List.filter_sublist
  have := hperm.length_eq
  rw [List.length_map, List.length_range] at this
  omega
theorem ris_le {l : List Int} {n k : Nat} (h : risB l n k = true) : k ≤ n := by
  have h1 := ris_len h
  have h2 := List.length_filter_le (fun v : Nat => hasI l (v : Int) k) (List.range n)
  rw [List.length_range] at h2
  omega
theorem cntU_filter (ly : List Int) : ∀ n, cntU ly n = ((List.range n).filter fun v => decide (ix ly v < 0)).length
  | 0 => rfl
  | n + 1 => by
    rw [cntU, cntU_filter ly n, List.range_succ, List.filter_append, List.length_append]
    by_cases h : ix ly n < 0 <;> simp [h]
theorem cntU_start {os : List Int} {no n : Nat} (h : risB os n no = true) : cntU (ly0 os no n) n + no = n := by
  have h1 := ris_len h
  have h2 := List.filter_append_perm (fun v : Nat => hasI os (v : Int) no) (List.range n)
  have h3 := h2.length_eq
  rw [List.length_append, List.length_range, h1] at h3
  have h4 : ((List.range n).filter fun v => decide (ix (ly0 os no n) v < 0)) = (List.range n).filter fun v : Nat => !hasI os (v : Int) no := by
    refine List.filter_congr fun v hv => ?_
    rw [List.mem_range] at hv
    rw [ly0, ix_mapN hv]
    cases hasI os (v : Int) no <;> simp
  rw [cntU_filter, h4]; omega

end Go.Proofs.Ytoiaibgcjfgbcaa
