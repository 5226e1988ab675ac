/- Walks: the generator of draws. -/
import Derived.Test.YtoiaibgcjfgbcaaFind
import Derived.Test.YtoiaibgcjfgbcaaProg
set_option linter.unusedSimpArgs false
set_option linter.unusedVariables false
namespace Go.Proofs.Ytoiaibgcjfgbcaa
open Go Go.RowKit
namespace DrT
theorem Tcall_43 : callable Try.prog 43 = true := by kernel_rfl
theorem Tcall_71 : callable Try.prog 71 = true := by kernel_rfl
theorem Tfo_64_0 : fieldOff Try.prog 64 0 = some 0 := by kernel_rfl
theorem Tfo_64_1 : fieldOff Try.prog 64 1 = some 1 := by kernel_rfl
theorem Tfo_64_2 : fieldOff Try.prog 64 2 = some 2 := by kernel_rfl
theorem Tint_3 : Try.prog.underlying 3 = some (.int .i64) := by kernel_rfl
theorem Tint_62 : Try.prog.underlying 62 = some (.int .u64) := by kernel_rfl
theorem Tone_22 : oneOf Try.prog 22 = true := by kernel_rfl
theorem Tone_3 : oneOf Try.prog 3 = true := by kernel_rfl
theorem Tone_5 : oneOf Try.prog 5 = true := by kernel_rfl
theorem Tone_62 : oneOf Try.prog 62 = true := by kernel_rfl
theorem Tsize_3 : (Try.prog.info? 3).map (·.size) = some 1 := by kernel_rfl
theorem Tsize_62 : (Try.prog.info? 62).map (·.size) = some 1 := by kernel_rfl
theorem Tsl_22 : sliceOf Try.prog 22 = some (5, 1, 1, [.int .u8 0]) := by kernel_rfl
theorem Tsl_24 : sliceOf Try.prog 24 = some (3, 1, 8, [.int .i64 0]) := by kernel_rfl
theorem Tsome_3 : (Try.prog.underlying 3).isSome = true := by kernel_rfl
theorem Tsome_5 : (Try.prog.underlying 5).isSome = true := by kernel_rfl
theorem Tsome_62 : (Try.prog.underlying 62).isSome = true := by kernel_rfl
end DrT
open DrT

/-- Bytes as cells. -/
def u8s (cs : List Int) : List Value := cs.map (Value.int .u8)
theorem preB {cs : List Int} {i : Nat} (h : i < cs.length) : Pre (u8s cs) i [.int .u8 (ix cs i)] := ⟨by simp [u8s, ix, List.getD, h], trivial⟩
/-- The bytes from which is drawn; they do not lie in the generator's own block. -/
structure Cur (w : World) (bc : Nat) (vc : Value) (n : Nat) (cs : List Int) : Prop where
  sl : Sl w vc 1 n (u8s cs)
  off : 0 < n → ∀ k, vc.ownBlock = some k → k ≠ bc
  by_ : ∀ x ∈ cs, 0 ≤ x ∧ x < 256
theorem Cur.go {w0 w : World} {bc : Nat} {vc : Value} {n : Nat} {cs : List Int} {t : TypeId} {us : List Value} {H : List Res} (h : Cur w0 bc vc n cs) (hs : St (Of [.blk bc t us]) w0 w H) : Cur w bc vc n cs :=
  ⟨hs.slOff h.sl fun h0 k hk ⟨r, hr, hrk⟩ => by
    simp only [List.mem_singleton] at hr; subst hr
    exact h.off h0 k hk hrk.symm, h.off, h.by_⟩
theorem Cur.lt {w : World} {bc : Nat} {vc : Value} {n : Nat} {cs : List Int} (h : Cur w bc vc n cs) (h0 : 0 < n) {k : Nat} (hk : vc.ownBlock = some k) : k < w.heap.size := by
  obtain ⟨_, A, c, rfl, _, _, h4⟩ := h.sl
  obtain ⟨b, o, rfl, hb, _⟩ := h4 h0
  simp only [Value.ownBlock, Option.some.injEq] at hk; subst hk; exact hb
theorem Cur.apart {w0 w : World} {bc : Nat} {vc vl : Value} {n m size : Nat} {e : TypeId} {cs : List Int} {t : TypeId} {us ls : List Value} {H : List Res} (h : Cur w0 bc vc n cs) (hs : St (Of [.blk bc t us]) w0 w H) (hm : Res.own vl e size m ls ∈ H) : 0 < n → ∀ k, vc.ownBlock = some k → vl.ownBlock ≠ some k := by
  intro h0 k hk hl
  obtain ⟨r, hr, hrk⟩ := hs.fresh _ hm k hl (h.lt h0 hk)
  simp only [List.mem_singleton] at hr; subst hr
  exact h.off h0 k hk hrk.symm
theorem Cur.top {w0 w : World} {b : Nat} {va : Value} {n : Nat} {cs : List Int} {t : TypeId} {us : List Value} {H : List Res} (ha : Sl w0 va 1 n (u8s cs)) (hby : ∀ x ∈ cs, 0 ≤ x ∧ x < 256) (hs : St No w0 w H) (hm : Res.blk b t us ∈ H) : Cur w b va n cs := by
  refine ⟨hs.sl ha, fun h0 k hk e => ?_, hby⟩
  obtain ⟨_, A, c, rfl, _, _, h4⟩ := ha
  obtain ⟨b', o, rfl, hb, _⟩ := h4 h0
  simp only [Value.ownBlock, Option.some.injEq] at hk; subst hk; subst e
  exact hs.fresh _ hm b' rfl hb
theorem Cells.cur {E : Env} {H : List Res} {b o n c bc : Nat} {cs : List Int} {ys : List Value} {k : Nat} {t : TypeId} {us : List Value} (h : Cur E.w0 bc (.slice (some ⟨b, o, none⟩) n c) n cs) (hM : E.M = Of [.blk bc t us]) (hn : 0 < n) (hp : Pre (u8s cs) k ys) : Cells E H b (o + k) ys := by
  intro w hs
  have hs' : St (Of [.blk bc t us]) E.w0 w H := by rw [← hM]; exact hs
  obtain ⟨_, A, c', he, _, _, h4⟩ := (h.go hs').sl
  injection he with e1 _ _
  obtain ⟨b', o', hA, _, hr⟩ := h4 hn
  rw [hA] at e1
  injection e1 with e1
  injection e1 with e2 e3
  subst e2; subst e3
  intro j v hv
  have := hr (k + j) v (hp.get j v hv)
  rw [← Nat.add_assoc] at this; exact this
def nxB (cs : List Int) (n : Nat) (s : Nat × Int) : Int := if s.1 < n then ix cs s.1 else 0
def sdE (sd b : Int) : Int := IntKind.u64.wrap (IntKind.u64.wrap (IntKind.u64.wrap (sd * 6364136223846793005) + IntKind.u64.wrap b) + 1442695040888963407)
/-- The generator behind a draw, and what is drawn. -/
def nxS (cs : List Int) (n : Nat) (s : Nat × Int) : Nat × Int := (s.1 + 1, sdE s.2 (nxB cs n s))
def nxV (cs : List Int) (n : Nat) (s : Nat × Int) : Int := if s.1 + 1 ≤ n then nxB cs n s else IntKind.i64.wrap (bits .and .u64 ((sdE s.2 (nxB cs n s)) >>> (40 : Nat)) 255)
theorem nxV_range {cs : List Int} {n : Nat} (hl : cs.length = n) (h : ∀ x ∈ cs, 0 ≤ x ∧ x < 256) (s : Nat × Int) : 0 ≤ nxV cs n s ∧ nxV cs n s ≤ 255 := by
  unfold nxV
  split
  · unfold nxB
    split
    · have := h _ (ix_mem (xs := cs) (i := s.1) (by omega)); omega
    · omega
  · generalize (sdE s.2 (nxB cs n s)) >>> (40 : Nat) = a
    have h1 : (BitVec.ofInt 64 a &&& BitVec.ofInt 64 255).toNat ≤ 255 := by
      rw [BitVec.toNat_and]
      exact Nat.le_trans Nat.and_le_right (by decide)
    have h2 : bits .and .u64 a 255 = ((BitVec.ofInt 64 a &&& BitVec.ofInt 64 255).toNat : Int) := by
      show IntKind.u64.wrap ((BitVec.ofInt 64 a &&& BitVec.ofInt 64 255).toNat : Int) = _
      rw [IntKind.wrap_u64]; omega
    rw [h2, IntKind.wrap_i64]; omega
def pkV (cs : List Int) (n : Nat) (k : Int) (s : Nat × Int) : Int :=
  if k ≤ 1 then 0 else (if k > 200 then nxV cs n s * 256 + nxV cs n (nxS cs n s) else nxV cs n s) % k
def pkS (cs : List Int) (n : Nat) (k : Int) (s : Nat × Int) : Nat × Int := if k ≤ 1 then s else if k > 200 then nxS cs n (nxS cs n s) else nxS cs n s
theorem pkS_le (cs : List Int) (n : Nat) (k : Int) (s : Nat × Int) : (pkS cs n k s).1 ≤ s.1 + 2 := by
  unfold pkS; split
  · omega
  · split <;> simp only [nxS] <;> omega
theorem pkV_range (cs : List Int) (n : Nat) (k : Int) (s : Nat × Int) : 0 ≤ pkV cs n k s ∧ (pkV cs n k s < k ∨ pkV cs n k s = 0) := by
  unfold pkV; split
  · omega
  · have h1 := Int.emod_nonneg (if k > 200 then nxV cs n s * 256 + nxV cs n (nxS cs n s) else nxV cs n s) (show k ≠ 0 by omega)
    have h2 := Int.emod_lt_of_pos (if k > 200 then nxV cs n s * 256 + nxV cs n (nxS cs n s) else nxV cs n s) (show 0 < k by omega)
    exact ⟨h1, .inl h2⟩

set_option maxHeartbeats 1000000 in
set_option maxRecDepth 20000 in
theorem next_spec {bc n : Nat} {vc : Value} {cs : List Int} {s : Nat × Int} {w : World} (hat : s.1 < 2305843009213693952) (hc : Cur w bc vc n cs) (hst : St (Of [.blk bc 64 [vc, .int .i64 (((s.1 : Nat) : Int)), .int .u64 (s.2)]]) w w [.blk bc 64 [vc, .int .i64 (((s.1 : Nat) : Int)), .int .u64 (s.2)]]) : Calls Try.prog 71 #[.pointer (some ⟨bc, 0, none⟩)] w (Post (Of [.blk bc 64 [vc, .int .i64 (((s.1 : Nat) : Int)), .int .u64 (s.2)]]) w fun v H => v = .int .i64 (nxV cs n s) ∧ H = [.blk bc 64 [vc, .int .i64 ((((nxS cs n s).1 : Nat) : Int)), .int .u64 ((nxS cs n s).2)]]) := by
 have hcl : cs.length = n := by have := hc.sl.1; simpa [u8s] using this
 obtain ⟨Ac, cc, rfl, _, _⟩ := hc.sl.form0
 refine enter (n := 62) (args := [.pointer (some ⟨bc, 0, none⟩)]) Try.func71 rfl rfl (hst) ?_
 refine Run.sr ?_
 refine Run.p (.int .i64 0) rfl rfl ?_
 refine Run.dsr ?_
 refine Run.p (.int .i64 0) rfl rfl ?_
 refine Run.done ?_
 refine Run.seq ?_
 refine Run.seq ?_
 refine Run.draws (by kernel_rfl) (by kernel_rfl) ?_
 refine Lex.q (v := .pointer (some ⟨bc, 0, none⟩)) rfl (OpQ.y (OpY.pure rfl)) ?_
 refine Lex.q (v := .pointer (some ⟨bc, 0, none⟩)) rfl (OpQ.y (OpY.nilCheck rfl)) ?_
 refine Lex.q (v := .pointer (some ⟨bc, 1, none⟩)) rfl (OpQ.y (OpY.fieldAddr Tfo_64_1 rfl rfl)) ?_
 refine Lex.q (v := .int .i64 (((s.1 : Nat) : Int))) rfl (OpQ.y (OpY.load1 Tone_3 rfl (Cells.blk (.head _) ⟨rfl, trivial⟩))) ?_
 refine Lex.q (v := .pointer (some ⟨bc, 0, none⟩)) rfl (OpQ.y (OpY.pure rfl)) ?_
 refine Lex.q (v := .pointer (some ⟨bc, 0, none⟩)) rfl (OpQ.y (OpY.nilCheck rfl)) ?_
 refine Lex.q (v := .pointer (some ⟨bc, 0, none⟩)) rfl (OpQ.y (OpY.fieldAddr Tfo_64_0 rfl rfl)) ?_
 refine Lex.q (v := .slice Ac n cc) rfl (OpQ.y (OpY.load1 Tone_22 rfl (Cells.blk (.head _) ⟨rfl, trivial⟩))) ?_
 refine Lex.q (v := .int .i64 (((n : Nat) : Int))) rfl (OpQ.y (OpY.len Tsl_22 rfl)) ?_
 refine Lex.q (v := .bool (decide ((((s.1 : Nat) : Int)) < (((n : Nat) : Int))))) rfl (OpQ.y (OpY.pure rfl)) ?_
 refine Lex.done ?_
 refine Run.cond (b := decide ((((s.1 : Nat) : Int)) < (((n : Nat) : Int)))) rfl (fun h13 => ?_) (fun h13 => ?_)
 ·have p13 := h13; try simp only [bs] at p13
  have hlt : s.1 < n := by omega
  have hB : nxB cs n s = ix cs s.1 := if_pos hlt
  have hby := hc.by_ _ (ix_mem (xs := cs) (i := s.1) (by omega))
  obtain ⟨b, o, rfl⟩ : ∃ b o, Ac = some ⟨b, o, none⟩ := by
   obtain ⟨b, o, c2, he, _⟩ := hc.sl.form (by omega)
   injection he with e1
   exact ⟨b, o, e1⟩
  refine Run.draws (by kernel_rfl) (by kernel_rfl) ?_
  refine Lex.q (v := .pointer (some ⟨bc, 0, none⟩)) rfl (OpQ.y (OpY.pure rfl)) ?_
  refine Lex.q (v := .pointer (some ⟨bc, 0, none⟩)) rfl (OpQ.y (OpY.nilCheck rfl)) ?_
  refine Lex.q (v := .pointer (some ⟨bc, 0, none⟩)) rfl (OpQ.y (OpY.fieldAddr Tfo_64_0 rfl rfl)) ?_
  refine Lex.q (v := .slice (some ⟨b, o, none⟩) n cc) rfl (OpQ.y (OpY.load1 Tone_22 rfl (Cells.blk (.head _) ⟨rfl, trivial⟩))) ?_
  refine Lex.q (v := .pointer (some ⟨bc, 0, none⟩)) rfl (OpQ.y (OpY.pure rfl)) ?_
  refine Lex.q (v := .pointer (some ⟨bc, 0, none⟩)) rfl (OpQ.y (OpY.nilCheck rfl)) ?_
  refine Lex.q (v := .pointer (some ⟨bc, 1, none⟩)) rfl (OpQ.y (OpY.fieldAddr Tfo_64_1 rfl rfl)) ?_
  refine Lex.q (v := .int .i64 (((s.1 : Nat) : Int))) rfl (OpQ.y (OpY.load1 Tone_3 rfl (Cells.blk (.head _) ⟨rfl, trivial⟩))) ?_
  refine Lex.q (v := .pointer (some ⟨b, o + s.1, none⟩)) rfl (OpQ.y (OpY.index (kk := s.1) Tsl_22 rfl rfl (by omega) (by omega) (by first | rfl | omega))) ?_
  refine Lex.q (v := .int .u8 (ix cs s.1)) rfl (OpQ.y (OpY.load1 Tone_5 rfl (Cells.cur (k := s.1) hc rfl (by omega) (preB (by omega))))) ?_
  refine Lex.q (v := .int .i64 (ix cs s.1)) rfl (OpQ.y (OpY.convIntEq Tsome_5 Tint_3 rfl (by first | (rw [IntKind.wrap_i64]; omega) | (rw [IntKind.wrap_u64]; omega)))) ?_
  refine Lex.q (v := .int .i64 (ix cs s.1)) rfl (OpQ.y (OpY.pure rfl)) ?_
  refine Lex.done ?_
  refine Run.sr ?_
  refine Run.p (.pointer (some ⟨bc, 0, none⟩)) rfl rfl ?_
  refine Run.y (.pointer (some ⟨bc, 0, none⟩)) rfl (OpY.nilCheck rfl) ?_
  refine Run.y (.pointer (some ⟨bc, 1, none⟩)) rfl (OpY.fieldAddr Tfo_64_1 rfl rfl) ?_
  refine Run.y (.int .i64 (((s.1 : Nat) : Int))) rfl (OpY.load1 Tone_3 rfl (Cells.blk (.head _) ⟨rfl, trivial⟩)) ?_
  refine Run.y (.int .i64 ((((s.1 : Nat) : Int)) + 1)) rfl (OpY.add rfl rfl rfl (by omega) (by omega)) ?_
  refine Run.y (.pointer (some ⟨bc, 0, none⟩)) rfl (OpY.nilCheck rfl) ?_
  refine Run.y (.pointer (some ⟨bc, 1, none⟩)) rfl (OpY.fieldAddr Tfo_64_1 rfl rfl) ?_
  refine Run.step rfl (OpStep.store (us := [.int .i64 ((((s.1 : Nat) : Int)) + 1)]) Tsize_3 rfl rfl rfl (.here _) (by simp only [List.length_cons, List.length_nil]; omega) ?_)
  show Run _ _ _ [.blk bc 64 [.slice (some ⟨b, o, none⟩) n cc, .int .i64 ((((s.1 : Nat) : Int)) + 1), .int .u64 (s.2)]]
  refine Run.dsr ?_
  refine Run.p (.pointer (some ⟨bc, 0, none⟩)) rfl rfl ?_
  refine Run.p (.pointer (some ⟨bc, 0, none⟩)) rfl rfl ?_
  refine Run.y (.pointer (some ⟨bc, 0, none⟩)) rfl (OpY.nilCheck rfl) ?_
  refine Run.y (.pointer (some ⟨bc, 2, none⟩)) rfl (OpY.fieldAddr Tfo_64_2 rfl rfl) ?_
  refine Run.y (.int .u64 (s.2)) rfl (OpY.load1 Tone_62 rfl (Cells.blk (.head _) ⟨rfl, trivial⟩)) ?_
  refine Run.y (.int .u64 (IntKind.u64.wrap (s.2 * 6364136223846793005))) rfl (OpY.mulU rfl rfl) ?_
  refine Run.p (.int .i64 (ix cs s.1)) rfl rfl ?_
  refine Run.y (.int .u64 (IntKind.u64.wrap (ix cs s.1))) rfl (OpY.convInt Tsome_3 Tint_62 rfl) ?_
  refine Run.y (.int .u64 (IntKind.u64.wrap (IntKind.u64.wrap (s.2 * 6364136223846793005) + IntKind.u64.wrap (ix cs s.1)))) rfl (OpY.addU rfl rfl) ?_
  refine Run.y (.int .u64 (IntKind.u64.wrap (IntKind.u64.wrap (IntKind.u64.wrap (s.2 * 6364136223846793005) + IntKind.u64.wrap (ix cs s.1)) + 1442695040888963407))) rfl (OpY.addU rfl rfl) ?_
  refine Run.y (.pointer (some ⟨bc, 0, none⟩)) rfl (OpY.nilCheck rfl) ?_
  refine Run.y (.pointer (some ⟨bc, 2, none⟩)) rfl (OpY.fieldAddr Tfo_64_2 rfl rfl) ?_
  refine Run.step rfl (OpStep.store (us := [.int .u64 (IntKind.u64.wrap (IntKind.u64.wrap (IntKind.u64.wrap (s.2 * 6364136223846793005) + IntKind.u64.wrap (ix cs s.1)) + 1442695040888963407))]) Tsize_62 rfl rfl rfl (.here _) (by simp only [List.length_cons, List.length_nil]; omega) ?_)
  show Run _ _ _ [.blk bc 64 [.slice (some ⟨b, o, none⟩) n cc, .int .i64 ((((s.1 : Nat) : Int)) + 1), .int .u64 (IntKind.u64.wrap (IntKind.u64.wrap (IntKind.u64.wrap (s.2 * 6364136223846793005) + IntKind.u64.wrap (ix cs s.1)) + 1442695040888963407))]]
  refine Run.done ?_
  refine Run.seq ?_
  refine Run.seq ?_
  refine Run.draws (by kernel_rfl) (by kernel_rfl) ?_
  refine Lex.q (v := .pointer (some ⟨bc, 0, none⟩)) rfl (OpQ.y (OpY.pure rfl)) ?_
  refine Lex.q (v := .pointer (some ⟨bc, 0, none⟩)) rfl (OpQ.y (OpY.nilCheck rfl)) ?_
  refine Lex.q (v := .pointer (some ⟨bc, 1, none⟩)) rfl (OpQ.y (OpY.fieldAddr Tfo_64_1 rfl rfl)) ?_
  refine Lex.q (v := .int .i64 ((((s.1 : Nat) : Int)) + 1)) rfl (OpQ.y (OpY.load1 Tone_3 rfl (Cells.blk (.head _) ⟨rfl, trivial⟩))) ?_
  refine Lex.q (v := .pointer (some ⟨bc, 0, none⟩)) rfl (OpQ.y (OpY.pure rfl)) ?_
  refine Lex.q (v := .pointer (some ⟨bc, 0, none⟩)) rfl (OpQ.y (OpY.nilCheck rfl)) ?_
  refine Lex.q (v := .pointer (some ⟨bc, 0, none⟩)) rfl (OpQ.y (OpY.fieldAddr Tfo_64_0 rfl rfl)) ?_
  refine Lex.q (v := .slice (some ⟨b, o, none⟩) n cc) rfl (OpQ.y (OpY.load1 Tone_22 rfl (Cells.blk (.head _) ⟨rfl, trivial⟩))) ?_
  refine Lex.q (v := .int .i64 (((n : Nat) : Int))) rfl (OpQ.y (OpY.len Tsl_22 rfl)) ?_
  refine Lex.q (v := .bool (decide (((((s.1 : Nat) : Int)) + 1) ≤ (((n : Nat) : Int))))) rfl (OpQ.y (OpY.pure rfl)) ?_
  refine Lex.done ?_
  refine Run.cond (b := decide (((((s.1 : Nat) : Int)) + 1) ≤ (((n : Nat) : Int)))) rfl (fun h53 => ?_) (fun h53 => ?_)
  ·have p53 := h53; try simp only [bs] at p53
   have hV : nxV cs n s = nxB cs n s := if_pos (by omega)
   refine Run.sr ?_
   refine Run.p (.int .i64 (ix cs s.1)) rfl rfl ?_
   refine Run.p (.int .i64 (ix cs s.1)) rfl rfl ?_
   refine Run.done ?_
   refine Run.ret ?_
   refine ⟨.int .i64 (ix cs s.1), [.blk bc 64 [.slice (some ⟨b, o, none⟩) n cc, .int .i64 ((((nxS cs n s).1 : Nat) : Int)), .int .u64 ((nxS cs n s).2)]], Out.one rfl rfl, (Some'.weak (.takeEq (by rw [nxS, hB]; rfl) (.nil _))), ?_⟩
   exact ⟨by rw [hV, hB]; try rfl, rfl⟩
  ·have p53 := h53; try simp only [bs] at p53
   have hV : nxV cs n s = IntKind.i64.wrap (bits .and .u64 ((sdE s.2 (nxB cs n s)) >>> (40 : Nat)) 255) := if_neg (by omega)
   refine Run.skip ?_
   refine Run.sr ?_
   refine Run.p (.pointer (some ⟨bc, 0, none⟩)) rfl rfl ?_
   refine Run.y (.pointer (some ⟨bc, 0, none⟩)) rfl (OpY.nilCheck rfl) ?_
   refine Run.y (.pointer (some ⟨bc, 2, none⟩)) rfl (OpY.fieldAddr Tfo_64_2 rfl rfl) ?_
   refine Run.y (.int .u64 (IntKind.u64.wrap (IntKind.u64.wrap (IntKind.u64.wrap (s.2 * 6364136223846793005) + IntKind.u64.wrap (ix cs s.1)) + 1442695040888963407))) rfl (OpY.load1 Tone_62 rfl (Cells.blk (.head _) ⟨rfl, trivial⟩)) ?_
   refine Run.y (.int .u64 ((IntKind.u64.wrap (IntKind.u64.wrap (IntKind.u64.wrap (s.2 * 6364136223846793005) + IntKind.u64.wrap (ix cs s.1)) + 1442695040888963407)) >>> (40 : Nat))) rfl (OpY.shrU (n := 40) rfl rfl rfl (by decide)) ?_
   refine Run.y (.int .u64 (bits .and .u64 ((IntKind.u64.wrap (IntKind.u64.wrap (IntKind.u64.wrap (s.2 * 6364136223846793005) + IntKind.u64.wrap (ix cs s.1)) + 1442695040888963407)) >>> (40 : Nat)) 255)) rfl (OpY.and rfl rfl) ?_
   refine Run.y (.int .i64 (IntKind.i64.wrap (bits .and .u64 ((IntKind.u64.wrap (IntKind.u64.wrap (IntKind.u64.wrap (s.2 * 6364136223846793005) + IntKind.u64.wrap (ix cs s.1)) + 1442695040888963407)) >>> (40 : Nat)) 255))) rfl (OpY.convInt Tsome_62 Tint_3 rfl) ?_
   refine Run.p (.int .i64 (IntKind.i64.wrap (bits .and .u64 ((IntKind.u64.wrap (IntKind.u64.wrap (IntKind.u64.wrap (s.2 * 6364136223846793005) + IntKind.u64.wrap (ix cs s.1)) + 1442695040888963407)) >>> (40 : Nat)) 255))) rfl rfl ?_
   refine Run.done ?_
   refine Run.ret ?_
   refine ⟨.int .i64 (IntKind.i64.wrap (bits .and .u64 ((IntKind.u64.wrap (IntKind.u64.wrap (IntKind.u64.wrap (s.2 * 6364136223846793005) + IntKind.u64.wrap (ix cs s.1)) + 1442695040888963407)) >>> (40 : Nat)) 255)), [.blk bc 64 [.slice (some ⟨b, o, none⟩) n cc, .int .i64 ((((nxS cs n s).1 : Nat) : Int)), .int .u64 ((nxS cs n s).2)]], Out.one rfl rfl, (Some'.weak (.takeEq (by rw [nxS, hB]; rfl) (.nil _))), ?_⟩
   exact ⟨by rw [hV, hB]; try rfl, rfl⟩
 ·have p13 := h13; try simp only [bs] at p13
  have hB : nxB cs n s = 0 := if_neg (by omega)
  refine Run.skip ?_
  refine Run.sr ?_
  refine Run.p (.pointer (some ⟨bc, 0, none⟩)) rfl rfl ?_
  refine Run.y (.pointer (some ⟨bc, 0, none⟩)) rfl (OpY.nilCheck rfl) ?_
  refine Run.y (.pointer (some ⟨bc, 1, none⟩)) rfl (OpY.fieldAddr Tfo_64_1 rfl rfl) ?_
  refine Run.y (.int .i64 (((s.1 : Nat) : Int))) rfl (OpY.load1 Tone_3 rfl (Cells.blk (.head _) ⟨rfl, trivial⟩)) ?_
  refine Run.y (.int .i64 ((((s.1 : Nat) : Int)) + 1)) rfl (OpY.add rfl rfl rfl (by omega) (by omega)) ?_
  refine Run.y (.pointer (some ⟨bc, 0, none⟩)) rfl (OpY.nilCheck rfl) ?_
  refine Run.y (.pointer (some ⟨bc, 1, none⟩)) rfl (OpY.fieldAddr Tfo_64_1 rfl rfl) ?_
  refine Run.step rfl (OpStep.store (us := [.int .i64 ((((s.1 : Nat) : Int)) + 1)]) Tsize_3 rfl rfl rfl (.here _) (by simp only [List.length_cons, List.length_nil]; omega) ?_)
  show Run _ _ _ [.blk bc 64 [.slice Ac n cc, .int .i64 ((((s.1 : Nat) : Int)) + 1), .int .u64 (s.2)]]
  refine Run.dsr ?_
  refine Run.p (.pointer (some ⟨bc, 0, none⟩)) rfl rfl ?_
  refine Run.p (.pointer (some ⟨bc, 0, none⟩)) rfl rfl ?_
  refine Run.y (.pointer (some ⟨bc, 0, none⟩)) rfl (OpY.nilCheck rfl) ?_
  refine Run.y (.pointer (some ⟨bc, 2, none⟩)) rfl (OpY.fieldAddr Tfo_64_2 rfl rfl) ?_
  refine Run.y (.int .u64 (s.2)) rfl (OpY.load1 Tone_62 rfl (Cells.blk (.head _) ⟨rfl, trivial⟩)) ?_
  refine Run.y (.int .u64 (IntKind.u64.wrap (s.2 * 6364136223846793005))) rfl (OpY.mulU rfl rfl) ?_
  refine Run.p (.int .i64 0) rfl rfl ?_
  refine Run.y (.int .u64 (IntKind.u64.wrap (0))) rfl (OpY.convInt Tsome_3 Tint_62 rfl) ?_
  refine Run.y (.int .u64 (IntKind.u64.wrap (IntKind.u64.wrap (s.2 * 6364136223846793005) + IntKind.u64.wrap (0)))) rfl (OpY.addU rfl rfl) ?_
  refine Run.y (.int .u64 (IntKind.u64.wrap (IntKind.u64.wrap (IntKind.u64.wrap (s.2 * 6364136223846793005) + IntKind.u64.wrap (0)) + 1442695040888963407))) rfl (OpY.addU rfl rfl) ?_
  refine Run.y (.pointer (some ⟨bc, 0, none⟩)) rfl (OpY.nilCheck rfl) ?_
  refine Run.y (.pointer (some ⟨bc, 2, none⟩)) rfl (OpY.fieldAddr Tfo_64_2 rfl rfl) ?_
  refine Run.step rfl (OpStep.store (us := [.int .u64 (IntKind.u64.wrap (IntKind.u64.wrap (IntKind.u64.wrap (s.2 * 6364136223846793005) + IntKind.u64.wrap (0)) + 1442695040888963407))]) Tsize_62 rfl rfl rfl (.here _) (by simp only [List.length_cons, List.length_nil]; omega) ?_)
  show Run _ _ _ [.blk bc 64 [.slice Ac n cc, .int .i64 ((((s.1 : Nat) : Int)) + 1), .int .u64 (IntKind.u64.wrap (IntKind.u64.wrap (IntKind.u64.wrap (s.2 * 6364136223846793005) + IntKind.u64.wrap (0)) + 1442695040888963407))]]
  refine Run.done ?_
  refine Run.seq ?_
  refine Run.seq ?_
  refine Run.draws (by kernel_rfl) (by kernel_rfl) ?_
  refine Lex.q (v := .pointer (some ⟨bc, 0, none⟩)) rfl (OpQ.y (OpY.pure rfl)) ?_
  refine Lex.q (v := .pointer (some ⟨bc, 0, none⟩)) rfl (OpQ.y (OpY.nilCheck rfl)) ?_
  refine Lex.q (v := .pointer (some ⟨bc, 1, none⟩)) rfl (OpQ.y (OpY.fieldAddr Tfo_64_1 rfl rfl)) ?_
  refine Lex.q (v := .int .i64 ((((s.1 : Nat) : Int)) + 1)) rfl (OpQ.y (OpY.load1 Tone_3 rfl (Cells.blk (.head _) ⟨rfl, trivial⟩))) ?_
  refine Lex.q (v := .pointer (some ⟨bc, 0, none⟩)) rfl (OpQ.y (OpY.pure rfl)) ?_
  refine Lex.q (v := .pointer (some ⟨bc, 0, none⟩)) rfl (OpQ.y (OpY.nilCheck rfl)) ?_
  refine Lex.q (v := .pointer (some ⟨bc, 0, none⟩)) rfl (OpQ.y (OpY.fieldAddr Tfo_64_0 rfl rfl)) ?_
  refine Lex.q (v := .slice Ac n cc) rfl (OpQ.y (OpY.load1 Tone_22 rfl (Cells.blk (.head _) ⟨rfl, trivial⟩))) ?_
  refine Lex.q (v := .int .i64 (((n : Nat) : Int))) rfl (OpQ.y (OpY.len Tsl_22 rfl)) ?_
  refine Lex.q (v := .bool (decide (((((s.1 : Nat) : Int)) + 1) ≤ (((n : Nat) : Int))))) rfl (OpQ.y (OpY.pure rfl)) ?_
  refine Lex.done ?_
  refine Run.cond (b := decide (((((s.1 : Nat) : Int)) + 1) ≤ (((n : Nat) : Int)))) rfl (fun h53 => ?_) (fun h53 => ?_)
  ·have p53 := h53; try simp only [bs] at p53
   have hV : nxV cs n s = nxB cs n s := if_pos (by omega)
   refine Run.sr ?_
   refine Run.p (.int .i64 0) rfl rfl ?_
   refine Run.p (.int .i64 0) rfl rfl ?_
   refine Run.done ?_
   refine Run.ret ?_
   refine ⟨.int .i64 0, [.blk bc 64 [.slice Ac n cc, .int .i64 ((((nxS cs n s).1 : Nat) : Int)), .int .u64 ((nxS cs n s).2)]], Out.one rfl rfl, (Some'.weak (.takeEq (by rw [nxS, hB]; rfl) (.nil _))), ?_⟩
   exact ⟨by rw [hV, hB]; try rfl, rfl⟩
  ·have p53 := h53; try simp only [bs] at p53
   have hV : nxV cs n s = IntKind.i64.wrap (bits .and .u64 ((sdE s.2 (nxB cs n s)) >>> (40 : Nat)) 255) := if_neg (by omega)
   refine Run.skip ?_
   refine Run.sr ?_
   refine Run.p (.pointer (some ⟨bc, 0, none⟩)) rfl rfl ?_
   refine Run.y (.pointer (some ⟨bc, 0, none⟩)) rfl (OpY.nilCheck rfl) ?_
   refine Run.y (.pointer (some ⟨bc, 2, none⟩)) rfl (OpY.fieldAddr Tfo_64_2 rfl rfl) ?_
   refine Run.y (.int .u64 (IntKind.u64.wrap (IntKind.u64.wrap (IntKind.u64.wrap (s.2 * 6364136223846793005) + IntKind.u64.wrap (0)) + 1442695040888963407))) rfl (OpY.load1 Tone_62 rfl (Cells.blk (.head _) ⟨rfl, trivial⟩)) ?_
   refine Run.y (.int .u64 ((IntKind.u64.wrap (IntKind.u64.wrap (IntKind.u64.wrap (s.2 * 6364136223846793005) + IntKind.u64.wrap (0)) + 1442695040888963407)) >>> (40 : Nat))) rfl (OpY.shrU (n := 40) rfl rfl rfl (by decide)) ?_
   refine Run.y (.int .u64 (bits .and .u64 ((IntKind.u64.wrap (IntKind.u64.wrap (IntKind.u64.wrap (s.2 * 6364136223846793005) + IntKind.u64.wrap (0)) + 1442695040888963407)) >>> (40 : Nat)) 255)) rfl (OpY.and rfl rfl) ?_
   refine Run.y (.int .i64 (IntKind.i64.wrap (bits .and .u64 ((IntKind.u64.wrap (IntKind.u64.wrap (IntKind.u64.wrap (s.2 * 6364136223846793005) + IntKind.u64.wrap (0)) + 1442695040888963407)) >>> (40 : Nat)) 255))) rfl (OpY.convInt Tsome_62 Tint_3 rfl) ?_
   refine Run.p (.int .i64 (IntKind.i64.wrap (bits .and .u64 ((IntKind.u64.wrap (IntKind.u64.wrap (IntKind.u64.wrap (s.2 * 6364136223846793005) + IntKind.u64.wrap (0)) + 1442695040888963407)) >>> (40 : Nat)) 255))) rfl rfl ?_
   refine Run.done ?_
   refine Run.ret ?_
   refine ⟨.int .i64 (IntKind.i64.wrap (bits .and .u64 ((IntKind.u64.wrap (IntKind.u64.wrap (IntKind.u64.wrap (s.2 * 6364136223846793005) + IntKind.u64.wrap (0)) + 1442695040888963407)) >>> (40 : Nat)) 255)), [.blk bc 64 [.slice Ac n cc, .int .i64 ((((nxS cs n s).1 : Nat) : Int)), .int .u64 ((nxS cs n s).2)]], Out.one rfl rfl, (Some'.weak (.takeEq (by rw [nxS, hB]; rfl) (.nil _))), ?_⟩
   exact ⟨by rw [hV, hB]; try rfl, rfl⟩

set_option maxHeartbeats 1000000 in
set_option maxRecDepth 20000 in
theorem pick_spec {k : Int} {bc n : Nat} {vc : Value} {cs : List Int} {s : Nat × Int} {w : World} (hat : s.1 < 2305843009213693950) (hc : Cur w bc vc n cs) (hst : St (Of [.blk bc 64 [vc, .int .i64 (((s.1 : Nat) : Int)), .int .u64 (s.2)]]) w w [.blk bc 64 [vc, .int .i64 (((s.1 : Nat) : Int)), .int .u64 (s.2)]]) : Calls Try.prog 43 #[.pointer (some ⟨bc, 0, none⟩), .int .i64 k] w (Post (Of [.blk bc 64 [vc, .int .i64 (((s.1 : Nat) : Int)), .int .u64 (s.2)]]) w fun v H => v = .int .i64 (pkV cs n k s) ∧ H = [.blk bc 64 [vc, .int .i64 ((((pkS cs n k s).1 : Nat) : Int)), .int .u64 ((pkS cs n k s).2)]]) := by
 have hcl : cs.length = n := by have := hc.sl.1; simpa [u8s] using this
 refine enter (n := 20) (args := [.pointer (some ⟨bc, 0, none⟩), .int .i64 k]) Try.func43 rfl rfl (hst) ?_
 refine Run.sr ?_
 refine Run.p (.int .i64 0) rfl rfl ?_
 refine Run.done ?_
 refine Run.seq ?_
 refine Run.sr ?_
 refine Run.p (.int .i64 k) rfl rfl ?_
 refine Run.p (.bool (decide (k ≤ 1))) rfl rfl ?_
 refine Run.done ?_
 refine Run.cond (b := decide (k ≤ 1)) rfl (fun h7 => ?_) (fun h7 => ?_)
 ·have p7 := h7; try simp only [bs] at p7
  have hV : pkV cs n k s = 0 := if_pos p7
  have hS : pkS cs n k s = s := if_pos p7
  refine Run.sr ?_
  refine Run.p (.int .i64 0) rfl rfl ?_
  refine Run.done ?_
  refine Run.ret ?_
  refine ⟨.int .i64 0, [.blk bc 64 [vc, .int .i64 ((((pkS cs n k s).1 : Nat) : Int)), .int .u64 ((pkS cs n k s).2)]], Out.one rfl rfl, (Some'.weak (.takeEq (by rw [hS]) (.nil _))), ?_⟩
  exact ⟨by rw [hV], rfl⟩
 ·have p7 := h7; try simp only [bs] at p7
  refine Run.skip ?_
  refine Run.sr ?_
  refine Run.p (.pointer (some ⟨bc, 0, none⟩)) rfl rfl ?_
  refine Run.step rfl (OpStep.callM (H1 := [.blk bc 64 [vc, .int .i64 (((s.1 : Nat) : Int)), .int .u64 (s.2)]]) (H2 := []) (vs := [.pointer (some ⟨bc, 0, none⟩)]) (caps := []) Tcall_71 rfl rfl (Weak.refl _) (fun w hs => next_spec (s := s) (by first | omega | (show s.1 + 1 < _; omega)) (hc.go hs) (hs.sub (List.sublist_append_left _ _)).self) ?_)
  rintro _ _ ⟨rfl, rfl⟩
  show Run _ _ (putF _ _ _ (.int .i64 (nxV cs n s))) [.blk bc 64 [vc, .int .i64 ((((nxS cs n s).1 : Nat) : Int)), .int .u64 ((nxS cs n s).2)]]
  have hr1 := nxV_range hcl hc.by_ s
  refine Run.p (.int .i64 (nxV cs n s)) rfl rfl ?_
  refine Run.done ?_
  refine Run.seq ?_
  refine Run.sr ?_
  refine Run.p (.int .i64 k) rfl rfl ?_
  refine Run.p (.bool (decide (k > 200))) rfl rfl ?_
  refine Run.done ?_
  refine Run.cond (b := decide (k > 200)) rfl (fun h11 => ?_) (fun h11 => ?_)
  ·have p11 := h11; try simp only [bs] at p11
   have hV : pkV cs n k s = (nxV cs n s * 256 + nxV cs n (nxS cs n s)) % k := by rw [pkV, if_neg (by omega), if_pos p11]
   have hS : pkS cs n k s = nxS cs n (nxS cs n s) := by rw [pkS, if_neg (by omega), if_pos p11]
   refine Run.region ?_
   refine Run.p (.int .i64 (nxV cs n s)) rfl rfl ?_
   refine Run.y (.int .i64 ((nxV cs n s) * 256)) rfl (OpY.mul rfl rfl (by first | rfl | grind) (by omega) (by omega)) ?_
   refine Run.p (.pointer (some ⟨bc, 0, none⟩)) rfl rfl ?_
   refine Run.step rfl (OpStep.callM (H1 := [.blk bc 64 [vc, .int .i64 ((((nxS cs n s).1 : Nat) : Int)), .int .u64 ((nxS cs n s).2)]]) (H2 := []) (vs := [.pointer (some ⟨bc, 0, none⟩)]) (caps := []) Tcall_71 rfl rfl (Weak.refl _) (fun w hs => next_spec (s := (nxS cs n s)) (by first | omega | (show s.1 + 1 < _; omega)) (hc.go hs) (hs.sub (List.sublist_append_left _ _)).self) ?_)
   rintro _ _ ⟨rfl, rfl⟩
   show Run _ _ (putF _ _ _ (.int .i64 (nxV cs n (nxS cs n s)))) [.blk bc 64 [vc, .int .i64 ((((nxS cs n (nxS cs n s)).1 : Nat) : Int)), .int .u64 ((nxS cs n (nxS cs n s)).2)]]
   have hr2 := nxV_range hcl hc.by_ (nxS cs n s)
   refine Run.y (.int .i64 (((nxV cs n s) * 256) + (nxV cs n (nxS cs n s)))) rfl (OpY.add rfl rfl rfl (by omega) (by omega)) ?_
   refine Run.p (.int .i64 (((nxV cs n s) * 256) + (nxV cs n (nxS cs n s)))) rfl rfl ?_
   refine Run.dsr ?_
   refine Run.p (.int .i64 (((nxV cs n s) * 256) + (nxV cs n (nxS cs n s)))) rfl rfl ?_
   refine Run.p (.int .i64 k) rfl rfl ?_
   refine Run.y (.int .i64 ((((nxV cs n s) * 256) + (nxV cs n (nxS cs n s))) % k)) rfl (OpY.rem rfl rfl (by omega) (by omega)) ?_
   refine Run.p (.int .i64 ((((nxV cs n s) * 256) + (nxV cs n (nxS cs n s))) % k)) rfl rfl ?_
   refine Run.done ?_
   refine Run.ret ?_
   refine ⟨.int .i64 ((((nxV cs n s) * 256) + (nxV cs n (nxS cs n s))) % k), [.blk bc 64 [vc, .int .i64 ((((pkS cs n k s).1 : Nat) : Int)), .int .u64 ((pkS cs n k s).2)]], Out.one rfl rfl, (Some'.weak (.takeEq (by rw [hS]) (.nil _))), ?_⟩
   exact ⟨by rw [hV], rfl⟩
  ·have p11 := h11; try simp only [bs] at p11
   have hV : pkV cs n k s = nxV cs n s % k := by rw [pkV, if_neg (by omega), if_neg (by omega)]
   have hS : pkS cs n k s = nxS cs n s := by rw [pkS, if_neg (by omega), if_neg (by omega)]
   refine Run.skip ?_
   refine Run.sr ?_
   refine Run.p (.int .i64 (nxV cs n s)) rfl rfl ?_
   refine Run.p (.int .i64 k) rfl rfl ?_
   refine Run.y (.int .i64 ((nxV cs n s) % k)) rfl (OpY.rem rfl rfl (by omega) (by omega)) ?_
   refine Run.p (.int .i64 ((nxV cs n s) % k)) rfl rfl ?_
   refine Run.done ?_
   refine Run.ret ?_
   refine ⟨.int .i64 ((nxV cs n s) % k), [.blk bc 64 [vc, .int .i64 ((((pkS cs n k s).1 : Nat) : Int)), .int .u64 ((pkS cs n k s).2)]], Out.one rfl rfl, (Some'.weak (.takeEq (by rw [hS]) (.nil _))), ?_⟩
   exact ⟨by rw [hV], rfl⟩

theorem pick_ex {k : Int} {bc n : Nat} {vc : Value} {cs : List Int} {s : Nat × Int} {w : World} (hat : s.1 < 2305843009213693950) (hc : Cur w bc vc n cs) (hst : St (Of [.blk bc 64 [vc, .int .i64 (((s.1 : Nat) : Int)), .int .u64 (s.2)]]) w w [.blk bc 64 [vc, .int .i64 (((s.1 : Nat) : Int)), .int .u64 (s.2)]]) : Calls Try.prog 43 #[.pointer (some ⟨bc, 0, none⟩), .int .i64 k] w (Post (Of [.blk bc 64 [vc, .int .i64 (((s.1 : Nat) : Int)), .int .u64 (s.2)]]) w fun v H => ∃ (x : Int) (s1 : Nat × Int), (0 ≤ x ∧ (x < k ∨ x = 0)) ∧ s1.1 ≤ s.1 + 2 ∧ v = .int .i64 x ∧ H = [.blk bc 64 [vc, .int .i64 (((s1.1 : Nat) : Int)), .int .u64 (s1.2)]]) :=
  (pick_spec hat hc hst).mono fun e w1 ⟨v, H, h1, h2, h3, h4⟩ => ⟨v, H, h1, h2, _, _, pkV_range cs n k s, pkS_le cs n k s, h3, h4⟩

set_option maxHeartbeats 1000000 in
set_option maxRecDepth 20000 in
theorem one_spec {k : Int} {bc n : Nat} {vc : Value} {cs : List Int} {s : Nat × Int} {w : World} (hat : s.1 < 2305843009213693950) (hc : Cur w bc vc n cs) (hst : St (Of [.blk bc 64 [vc, .int .i64 (((s.1 : Nat) : Int)), .int .u64 (s.2)]]) w w [.blk bc 64 [vc, .int .i64 (((s.1 : Nat) : Int)), .int .u64 (s.2)]]) : Calls Try.prog 42 #[.pointer (some ⟨bc, 0, none⟩), .int .i64 k] w (Post (Of [.blk bc 64 [vc, .int .i64 (((s.1 : Nat) : Int)), .int .u64 (s.2)]]) w fun v H => v = .bool (pkV cs n k s == 0) ∧ H = [.blk bc 64 [vc, .int .i64 ((((pkS cs n k s).1 : Nat) : Int)), .int .u64 ((pkS cs n k s).2)]]) := by
 refine enter (n := 9) (args := [.pointer (some ⟨bc, 0, none⟩), .int .i64 k]) Try.func42 rfl rfl (hst) ?_
 refine Run.sr ?_
 refine Run.p (.bool false) rfl rfl ?_
 refine Run.dsr ?_
 refine Run.p (.pointer (some ⟨bc, 0, none⟩)) rfl rfl ?_
 refine Run.p (.int .i64 k) rfl rfl ?_
 refine Run.step rfl (OpStep.callM (H1 := [.blk bc 64 [vc, .int .i64 (((s.1 : Nat) : Int)), .int .u64 (s.2)]]) (H2 := []) (vs := [.pointer (some ⟨bc, 0, none⟩), .int .i64 k]) (caps := []) Tcall_43 rfl rfl (Weak.refl _) (fun w hs => pick_spec (s := s) hat (hc.go hs) (hs.sub (List.sublist_append_left _ _)).self) ?_)
 rintro _ _ ⟨rfl, rfl⟩
 show Run _ _ (putF _ _ _ (.int .i64 (pkV cs n k s))) [.blk bc 64 [vc, .int .i64 ((((pkS cs n k s).1 : Nat) : Int)), .int .u64 ((pkS cs n k s).2)]]
 refine Run.p (.bool ((pkV cs n k s) == 0)) rfl rfl ?_
 refine Run.p (.bool ((pkV cs n k s) == 0)) rfl rfl ?_
 refine Run.done ?_
 refine Run.ret ?_
 refine ⟨.bool ((pkV cs n k s) == 0), [.blk bc 64 [vc, .int .i64 ((((pkS cs n k s).1 : Nat) : Int)), .int .u64 ((pkS cs n k s).2)]], Out.one rfl rfl, (Some'.weak (.take (.nil _))), ?_⟩
 exact ⟨rfl, rfl⟩

theorem one_ex {k : Int} {bc n : Nat} {vc : Value} {cs : List Int} {s : Nat × Int} {w : World} (hat : s.1 < 2305843009213693950) (hc : Cur w bc vc n cs) (hst : St (Of [.blk bc 64 [vc, .int .i64 (((s.1 : Nat) : Int)), .int .u64 (s.2)]]) w w [.blk bc 64 [vc, .int .i64 (((s.1 : Nat) : Int)), .int .u64 (s.2)]]) : Calls Try.prog 42 #[.pointer (some ⟨bc, 0, none⟩), .int .i64 k] w (Post (Of [.blk bc 64 [vc, .int .i64 (((s.1 : Nat) : Int)), .int .u64 (s.2)]]) w fun v H => ∃ (x : Bool) (s1 : Nat × Int), s1.1 ≤ s.1 + 2 ∧ v = .bool x ∧ H = [.blk bc 64 [vc, .int .i64 (((s1.1 : Nat) : Int)), .int .u64 (s1.2)]]) :=
  (one_spec hat hc hst).mono fun e w1 ⟨v, H, h1, h2, h3, h4⟩ => ⟨v, H, h1, h2, _, _, pkS_le cs n k s, h3, h4⟩


theorem Cur.go2 {w0 w : World} {bc : Nat} {vc vl : Value} {n m size : Nat} {e : TypeId} {cs : List Int} {t : TypeId} {us ls : List Value} {H : List Res} (h : Cur w0 bc vc n cs) (ho : 0 < n → ∀ k, vc.ownBlock = some k → vl.ownBlock ≠ some k) (hs : St (Of [.blk bc t us, .own vl e size m ls]) w0 w H) : Cur w bc vc n cs :=
  ⟨hs.slOff h.sl fun h0 k hk ⟨r, hr, hrk⟩ => by
    simp only [List.mem_cons, List.not_mem_nil, or_false] at hr
    rcases hr with rfl | rfl
    · exact h.off h0 k hk hrk.symm
    · exact ho h0 k hk hrk, h.off, h.by_⟩

set_option maxHeartbeats 1000000 in
set_option maxRecDepth 20000 in
theorem among_spec {vl : Value} {m : Nat} {ls : List Int} {bc n : Nat} {vc : Value} {cs : List Int} {s : Nat × Int} {w : World} (hat : s.1 < 2305843009213693950) (hm : 0 < m) (hc : Cur w bc vc n cs) (hoff : 0 < n → ∀ k, vc.ownBlock = some k → vl.ownBlock ≠ some k) (hst : St (Of [.blk bc 64 [vc, .int .i64 (((s.1 : Nat) : Int)), .int .u64 (s.2)], .own vl 3 1 m (ints ls)]) w w [.blk bc 64 [vc, .int .i64 (((s.1 : Nat) : Int)), .int .u64 (s.2)], .own vl 3 1 m (ints ls)]) : Calls Try.prog 44 #[.pointer (some ⟨bc, 0, none⟩), vl] w (Post (Of [.blk bc 64 [vc, .int .i64 (((s.1 : Nat) : Int)), .int .u64 (s.2)], .own vl 3 1 m (ints ls)]) w fun v H => ∃ (i : Nat) (s1 : Nat × Int), i < m ∧ s1.1 ≤ s.1 + 2 ∧ v = .int .i64 (ix ls i) ∧ H = [.blk bc 64 [vc, .int .i64 (((s1.1 : Nat) : Int)), .int .u64 (s1.2)]]) := by
 have hll : ls.length = m := by have h := (hst.slOwn (.tail _ (.head _))).len; omega
 refine enter (n := 12) (args := [.pointer (some ⟨bc, 0, none⟩), vl]) Try.func44 rfl rfl (hst) ?_
 refine Run.sr ?_
 refine Run.p (.int .i64 0) rfl rfl ?_
 refine Run.dsr ?_
 refine Run.p (vl) rfl rfl ?_
 refine Run.p (.pointer (some ⟨bc, 0, none⟩)) rfl rfl ?_
 refine Run.p (vl) rfl rfl ?_
 refine Run.formOwn (.tail _ (List.Mem.head _)) (fun A_vl1 c_vl1 hv hcapc_vl1 hmaxc_vl1 => ?_) (fun _ _ _ => ⟨nofun, nofun, nofun⟩)
 subst hv
 refine Run.y (.int .i64 (((m : Nat) : Int))) rfl (OpY.len Tsl_24 rfl) ?_
 have hoff2 := hoff
 refine Run.step rfl (OpStep.callM (H1 := [.blk bc 64 [vc, .int .i64 (((s.1 : Nat) : Int)), .int .u64 (s.2)]]) (H2 := [.own (.slice A_vl1 m c_vl1) 3 1 m (ints ls)]) (vs := [.pointer (some ⟨bc, 0, none⟩), .int .i64 (((m : Nat) : Int))]) (caps := []) Tcall_43 rfl rfl (Weak.refl _) (fun w hs => pick_ex (s := s) hat (Cur.go2 hc hoff2 hs) (hs.sub (List.sublist_append_left _ _)).self) ?_)
 rintro _ _ ⟨x1, s1, hx1, hs1, rfl, rfl⟩
 show Run _ _ (putF _ _ _ (.int .i64 x1)) [.blk bc 64 [vc, .int .i64 (((s1.1 : Nat) : Int)), .int .u64 (s1.2)], .own (.slice A_vl1 m c_vl1) 3 1 m (ints ls)]
 refine Run.openOwn (.tail _ (List.Mem.head _)) (by omega) (fun gl cl hvgl hcapgl _ => ?_) (fun _ _ _ => ⟨nofun, nofun, nofun⟩)
 injection hvgl with hAgl _ hcgl; subst hAgl; subst hcgl
 refine Run.y (.pointer (some ⟨gl, x1.toNat, none⟩)) rfl (OpY.index (kk := x1.toNat) Tsl_24 rfl rfl (by omega) (by omega) (by first | rfl | omega)) ?_
 refine Run.y (.int .i64 (ix ls (x1.toNat))) rfl (OpY.load1 Tone_3 rfl (Cells.own0 (.tail _ (List.Mem.head _)) (pre1 (by omega)))) ?_
 refine Run.p (.int .i64 (ix ls (x1.toNat))) rfl rfl ?_
 refine Run.done ?_
 refine Run.ret ?_
 refine ⟨.int .i64 (ix ls (x1.toNat)), [.blk bc 64 [vc, .int .i64 (((s1.1 : Nat) : Int)), .int .u64 (s1.2)]], Out.one rfl rfl, (Some'.weak (.take (.nil _))), ?_⟩
 exact ⟨x1.toNat, s1, by omega, hs1, rfl, rfl⟩

end Go.Proofs.Ytoiaibgcjfgbcaa
