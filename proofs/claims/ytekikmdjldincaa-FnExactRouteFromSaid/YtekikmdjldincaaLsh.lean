/- Walks: the key of a node. -/
import Derived.Test.YtekikmdjldincaaLsg
import Derived.Test.YtekikmdjldincaaArr
import Derived.Test.YtekikmdjldincaaProg
set_option linter.unusedSimpArgs false
set_option linter.unusedVariables false
namespace Go.Proofs.Ytekikmdjldincaa
open Go Go.RowKit
namespace LshT
theorem Tagg_94 : aggOf Try.prog 94 = some 6 := by kernel_rfl
theorem Tarr_91 : arrayOf Try.prog 91 = some (5, 1) := by kernel_rfl
theorem Tfo_87_2 : fieldOff Try.prog 87 2 = some 4 := by kernel_rfl
theorem Tfo_87_3 : fieldOff Try.prog 87 3 = some 5 := by kernel_rfl
theorem Tfo_90_0 : fieldOff Try.prog 90 0 = some 0 := by kernel_rfl
theorem Tfo_94_0 : fieldOff Try.prog 94 0 = some 0 := by kernel_rfl
theorem Tfo_94_1 : fieldOff Try.prog 94 1 = some 5 := by kernel_rfl
theorem Tone_28 : oneOf Try.prog 28 = true := by kernel_rfl
theorem Tone_4 : oneOf Try.prog 4 = true := by kernel_rfl
theorem Tone_85 : oneOf Try.prog 85 = true := by kernel_rfl
theorem Tone_92 : oneOf Try.prog 92 = true := by kernel_rfl
theorem Tsize_92 : (Try.prog.info? 92).map (·.size) = some 1 := by kernel_rfl
theorem Tsize_94 : (Try.prog.info? 94).map (·.size) = some 6 := by kernel_rfl
theorem Tsl_28 : sliceOf Try.prog 28 = some (3, 1, 8, [.int .i64 0]) := by kernel_rfl
theorem Tsl_85 : sliceOf Try.prog 85 = some (4, 1, 1, [.bool false]) := by kernel_rfl
theorem Tzero_94 : zeroOf Try.prog 94 = some [.int .i64 0, .int .i64 0, .int .i64 0, .int .i64 0, .int .i64 0, .int .u64 0] := by kernel_rfl
end LshT
open LshT

theorem OpY.shlU {E : Env} {f : Fr} {H : List Res} {d : Option Tmp} {ty : TypeId} {pos : String} {after : Array Edge} {gd : Option (Nat × Bool)} {t t' : TypeId} {x y : Operand} {b : Int} {n q : Nat} {k : IntKind} (hx : f.eval x = .int .u64 1) (hy : f.eval y = .int k b) (hn : b = (n : Nat)) (h1 : n ≤ 40) (hq : q = 2 ^ n) :
    OpY E ⟨d, .binOp .shl t x y t', ty, pos, after, gd⟩ f H (.int .u64 (q : Int)) := by
  subst hn
  intro w _
  have h2 : 2 ^ n ≤ 1099511627776 := pow40_le h1
  have h3 : IntKind.u64.wrap (1 * 2 ^ n) = (q : Int) := by
    rw [hq, Int.one_mul, show (2 : Int) ^ n = ((2 ^ n : Nat) : Int) by push_cast; rfl, IntKind.wrap_u64]; omega
  simp only [execOp, hx, hy, eqGuard, binOp]
  rw [shift_shl .u64 k 1 n (by omega) (by simp only [IntKind.bits]; omega)]
  rw [Int.one_mul] at h3
  simp [h3]
theorem bits_or_u {a b : Nat} (ha : a < 9223372036854775808) (hb : b < 9223372036854775808) : bits .or .u64 (a : Int) (b : Int) = ((a ||| b : Nat) : Int) := by
  have h1 : a ||| b < 9223372036854775808 := Nat.or_lt_two_pow (n := 63) ha hb
  have h2 : (BitVec.ofInt 64 (a : Int) ||| BitVec.ofInt 64 (b : Int)).toNat = a ||| b := by
    rw [BitVec.toNat_or, BitVec.toNat_ofInt, BitVec.toNat_ofInt]
    congr 1 <;> omega
  show IntKind.u64.wrap ((BitVec.ofInt 64 (a : Int) ||| BitVec.ofInt 64 (b : Int)).toNat : Int) = _
  rw [h2, IntKind.wrap_u64]; omega
theorem OpY.orU {E : Env} {f : Fr} {H : List Res} {d : Option Tmp} {ty : TypeId} {pos : String} {after : Array Edge} {gd : Option (Nat × Bool)} {t t' : TypeId} {x y : Operand} {m n : Nat} (hx : f.eval x = .int .u64 (m : Nat)) (hy : f.eval y = .int .u64 (n : Nat)) (hm : m < 9223372036854775808) (hn : n < 9223372036854775808) :
    OpY E ⟨d, .binOp .or t x y t', ty, pos, after, gd⟩ f H (.int .u64 ((m ||| n : Nat) : Int)) := by
  have := OpY.or (E := E) (H := H) (d := d) (ty := ty) (pos := pos) (after := after) (gd := gd) (t := t) (t' := t') hx hy
  rwa [bits_or_u hm hn] at this
def keyP (ps : List Int) (ds : List Bool) (n : Nat) : Value := .agg #[.int .i64 (ix ps 0), .int .i64 (ix ps 1), .int .i64 (ix ps 2), .int .i64 (ix ps 3), .int .i64 (ix ps 4), .int .u64 (mkD ds n : Nat)]
theorem keyP_spl {l : List Int} (h : l.length ≤ 5) : spl [Value.int .i64 0, .int .i64 0, .int .i64 0, .int .i64 0, .int .i64 0, .int .u64 0] 0 (ints l) = [.int .i64 (ix l 0), .int .i64 (ix l 1), .int .i64 (ix l 2), .int .i64 (ix l 3), .int .i64 (ix l 4), .int .u64 0] := by
  match l, h with
  | [], _ => rfl
  | [_], _ => rfl
  | [_, _], _ => rfl
  | [_, _, _], _ => rfl
  | [_, _, _, _], _ => rfl
  | [_, _, _, _, _], _ => rfl

set_option maxHeartbeats 1000000 in
set_option maxRecDepth 20000 in
theorem routeKey_spec {N Q : Int} {vg vc vp vd vs : Value} {n pn : Nat} {ps : List Int} {ds : List Bool} {w : World} (h40 : n ≤ 40) (h0 : 0 < pn) (h5 : pn ≤ 5) (hp : Sl w vp 1 pn (ints ps)) (hd : Sl w vd 1 n (bls ds)) : Calls Try.prog 52 #[.agg #[.int .i64 N, vg, .int .i64 Q, vc, vp, vd, vs]] w (Post No w fun v _ => v = keyP ps ds n) := by
  have hpl : ps.length = pn := by have := hp.len; omega
  have hdl := hd.blen
  obtain ⟨Ad, cd, rfl, _, _⟩ := hd.form0
  refine enter (n := 31) (args := [.agg #[.int .i64 N, vg, .int .i64 Q, vc, vp, .slice Ad n cd, vs]]) Try.func52 rfl rfl (St.empty _ _) ?_
  refine Run.seq ?_
  refine Run.region ?_
  refine Run.step rfl (OpStep.box (us := [.int .i64 N, vg, .int .i64 Q, vc, vp, .slice Ad n cd, vs]) rfl fun b1 => ?_)
  refine Run.step rfl (OpStep.alloc (zs := [.int .i64 0, .int .i64 0, .int .i64 0, .int .i64 0, .int .i64 0, .int .u64 0]) Tzero_94 fun b2 => ?_)
  refine Run.done ?_
  refine Run.seq ?_
  refine Run.region ?_
  refine Run.q (v := .agg #[.int .i64 0, .int .i64 0, .int .i64 0, .int .i64 0, .int .i64 0, .int .u64 0]) rfl (OpQ.y (OpY.build (cs := [.int .i64 0, .int .i64 0, .int .i64 0, .int .i64 0, .int .i64 0, .int .u64 0]) (by kernel_rfl))) ?_
  refine Run.step rfl (OpStep.alloc (zs := [.int .i64 0, .int .i64 0, .int .i64 0, .int .i64 0, .int .i64 0, .int .u64 0]) Tzero_94 fun b3 => ?_)
  refine Run.step rfl (OpStep.storeAll (us := [.int .i64 0, .int .i64 0, .int .i64 0, .int .i64 0, .int .i64 0, .int .u64 0]) Tsize_94 rfl rfl rfl (.here _) rfl ?_)
  refine Run.done ?_
  refine Run.seq ?_
  refine Run.heldB (base := [.blk b2 94 [.int .i64 0, .int .i64 0, .int .i64 0, .int .i64 0, .int .i64 0, .int .u64 0], .blk b1 90 [.int .i64 N, vg, .int .i64 Q, vc, vp, .slice Ad n cd, vs]]) (by kernel_rfl) ?_
  refine DW.take (i := 0) (v := .pointer (some ⟨b3, 0, none⟩)) rfl (by kernel_rfl) (by kernel_rfl) (by kernel_rfl) (fun _ _ _ h => h) (Some'.weak (.skip (.take (.take (.nil _))))) rfl (OpY.fieldAddr Tfo_94_0 rfl rfl) ?_
  refine DW.take (i := 1) (v := .slice (some ⟨b3, 0, none⟩) 5 5) rfl (by kernel_rfl) (by kernel_rfl) (by kernel_rfl) (fun _ _ _ h => h) (Some'.weak (.skip (.take (.take (.nil _))))) rfl (OpY.sliceArr Tarr_91 rfl (by decide)) ?_
  refine DW.take (i := 2) (v := .pointer (some ⟨b1, 0, none⟩)) rfl (by kernel_rfl) (by kernel_rfl) (by kernel_rfl) (fun _ _ _ h => h) (Some'.weak (.skip (.take (.take (.nil _))))) rfl (OpY.fieldAddr Tfo_90_0 rfl rfl) ?_
  refine DW.take (i := 3) (v := .pointer (some ⟨b1, 4, none⟩)) rfl (by kernel_rfl) (by kernel_rfl) (by kernel_rfl) (fun _ _ _ h => h) (Some'.weak (.skip (.take (.take (.nil _))))) rfl (OpY.fieldAddr Tfo_87_2 rfl rfl) ?_
  refine DW.take (i := 4) (v := vp) rfl (by kernel_rfl) (by kernel_rfl) (by kernel_rfl) (fun _ _ _ h => h) (Some'.weak (.skip (.take (.take (.nil _))))) rfl (OpY.load1 Tone_28 rfl (Cells.blk (.tail _ (List.Mem.head _)) ⟨rfl, trivial⟩)) ?_
  refine DW.step (i := 5) (by kernel_rfl) rfl rfl (OpStep.copyBlk (g := b3) (o := 0) (sn := pn) (cnt := pn) (cs := [.int .i64 0, .int .i64 0, .int .i64 0, .int .i64 0, .int .i64 0, .int .u64 0]) (ys := ints ps) (us := ints ps) Tsl_28 rfl rfl (fun w hs => hs.sl hp) (by omega) (by show min pn 5 = pn; omega) (by rw [Nat.mul_one]; simp [ints, List.take_of_length_le, hpl]) (by exact ints_all _) (by rw [show spl [.int .i64 0, .int .i64 0, .int .i64 0, .int .i64 0, .int .i64 0, .int .u64 0] 0 (ints ps) = [.int .i64 (ix ps 0), .int .i64 (ix ps 1), .int .i64 (ix ps 2), .int .i64 (ix ps 3), .int .i64 (ix ps 4), .int .u64 0] from by exact keyP_spl (by omega)]; exact (.here _)) (by show 0 + pn * 1 ≤ 6; omega) ?_)
  refine ⟨(Some'.weak (.skip (.take (.take (.nil _))))), ?_⟩
  refine DW.done (by kernel_rfl) ?_
  refine Run.seq ?_
  refine Run.seq ?_
  refine Run.region ?_
  refine Run.q (v := .pointer (some ⟨b1, 0, none⟩)) rfl (OpQ.y (OpY.fieldAddr Tfo_90_0 rfl rfl)) ?_
  refine Run.q (v := .pointer (some ⟨b1, 5, none⟩)) rfl (OpQ.y (OpY.fieldAddr Tfo_87_3 rfl rfl)) ?_
  refine Run.q (v := .slice Ad n cd) rfl (OpQ.y (OpY.load1 Tone_85 rfl (Cells.blk (.tail _ (.tail _ (List.Mem.head _))) ⟨rfl, trivial⟩))) ?_
  refine Run.q (v := .int .i64 (((n : Nat) : Int))) rfl (OpQ.y (OpY.len Tsl_85 rfl)) ?_
  refine Run.q (v := .int .i64 0) rfl (OpQ.y (OpY.pure rfl)) ?_
  refine Run.done ?_
  refine Run.block ?_
  refine Run.loop (ι := Nat) [4, 5, 17, 18, 19, 20, 21, 22, 23, 24, 25, 26, 27, 28, 29] (fun k => [(17, .int .i64 (((k : Nat) : Int)))]) (fun k => [.blk b3 94 [.int .i64 (ix ps 0), .int .i64 (ix ps 1), .int .i64 (ix ps 2), .int .i64 (ix ps 3), .int .i64 (ix ps 4), .int .u64 (((mkD ds k : Nat) : Int))], .blk b2 94 [.int .i64 0, .int .i64 0, .int .i64 0, .int .i64 0, .int .i64 0, .int .u64 0], .blk b1 90 [.int .i64 N, vg, .int .i64 Q, vc, vp, .slice Ad n cd, vs]]) (fun k => k ≤ n) (fun k => n - k) 0 ?_ ?_ ?_ ?_
  · exact Nat.zero_le _
  · exact ⟨rfl, trivial⟩
  · exact (Some'.weak (.takeEq (by first | rfl | (rw [hnx]; done) | (rw [hnx]; rfl)) (.take (.take (.nil _)))))
  · rintro k fr hinv
    show Run _ _ (over _ _ [(17, .int .i64 (((k : Nat) : Int)))] fr) [.blk b3 94 [.int .i64 (ix ps 0), .int .i64 (ix ps 1), .int .i64 (ix ps 2), .int .i64 (ix ps 3), .int .i64 (ix ps 4), .int .u64 (((mkD ds k : Nat) : Int))], .blk b2 94 [.int .i64 0, .int .i64 0, .int .i64 0, .int .i64 0, .int .i64 0, .int .u64 0], .blk b1 90 [.int .i64 N, vg, .int .i64 Q, vc, vp, .slice Ad n cd, vs]]
    try dsimp only at hinv
    refine Run.seq ?_
    refine Run.region ?_
    refine Run.q (v := .bool (decide ((((k : Nat) : Int)) < (((n : Nat) : Int))))) rfl (OpQ.y (OpY.pure rfl)) ?_
    refine Run.done ?_
    refine Run.seq ?_
    refine Run.cond (b := decide ((((k : Nat) : Int)) < (((n : Nat) : Int)))) rfl (fun h18 => ?_) (fun h18 => ?_)
    · have p18 := h18; try simp only [bs] at p18
      have hltk : k < n := by omega
      have hmk := mkD_lt ds k
      have h2k := pow40_le (k := k) (by omega)
      obtain ⟨q, hq⟩ : ∃ q : Nat, q = 2 ^ k := ⟨_, rfl⟩
      rw [← hq] at hmk h2k
      obtain ⟨b, o, rfl⟩ := hd.opn (by omega)
      refine Run.skip ?_
      refine Run.seq ?_
      refine Run.block ?_
      refine Run.seq ?_
      refine Run.region ?_
      refine Run.q (v := .int .i64 (((k : Nat) : Int))) rfl (OpQ.y (OpY.pure rfl)) ?_
      refine Run.q (v := .pointer (some ⟨b, o + k, none⟩)) rfl (OpQ.y (OpY.index (kk := k) Tsl_85 rfl rfl (by omega) (by omega) (by first | rfl | omega))) ?_
      refine Run.q (v := .bool (bx ds (k))) rfl (OpQ.y (OpY.load1 Tone_4 rfl (Cells.arg (k := k) hd rfl (by omega) (preBl (by omega))))) ?_
      refine Run.q (v := .int .i64 (((k : Nat) : Int))) rfl (OpQ.y (OpY.pure rfl)) ?_
      refine Run.q (v := .bool (bx ds (k))) rfl (OpQ.y (OpY.pure rfl)) ?_
      refine Run.done ?_
      refine Run.seq ?_
      refine Run.region ?_
      refine Run.q (v := .bool (bx ds (k))) rfl (OpQ.y (OpY.pure rfl)) ?_
      refine Run.done ?_
      refine Run.cond (b := bx ds (k)) rfl (fun h22 => ?_) (fun h22 => ?_)
      · have p22 := h22; try simp only [bs] at p22
        have hnx : mkD ds (k + 1) = (mkD ds k ||| q) := by rw [mkD, if_pos h22, hq]
        refine Run.lastlyB [6] [.blk b3 94 [.int .i64 (ix ps 0), .int .i64 (ix ps 1), .int .i64 (ix ps 2), .int .i64 (ix ps 3), .int .i64 (ix ps 4), .int .u64 (((mkD ds k : Nat) : Int))], .blk b2 94 [.int .i64 0, .int .i64 0, .int .i64 0, .int .i64 0, .int .i64 0, .int .u64 0], .blk b1 90 [.int .i64 N, vg, .int .i64 Q, vc, vp, .slice (some ⟨b, o, none⟩) n cd, vs]] (by kernel_rfl) ?_
        refine DL.takeP (i := 0) (v := .pointer (some ⟨b3, 5, none⟩)) rfl (by kernel_rfl) (by kernel_rfl) (by kernel_rfl) (fun _ _ _ h => h) rfl (fun _ => OpY.fieldAddr Tfo_94_1 rfl rfl) ?_
        refine DL.take (i := 1) (v := .int .u64 (((mkD ds k : Nat) : Int))) rfl (by kernel_rfl) (by kernel_rfl) (by kernel_rfl) (by kernel_rfl) (fun _ _ _ h => h) (Some'.weak (.take (.take (.take (.nil _))))) rfl (OpY.load1 Tone_92 rfl (Cells.blk (.head _) ⟨rfl, trivial⟩)) ?_
        refine DL.takeP (i := 2) (v := .int .i64 (((k : Nat) : Int))) rfl (by kernel_rfl) (by kernel_rfl) (by kernel_rfl) (fun _ _ _ h => h) rfl (fun _ => OpY.pure rfl) ?_
        refine DL.takeP (i := 3) (v := .int .u64 (((q : Nat) : Int))) rfl (by kernel_rfl) (by kernel_rfl) (by kernel_rfl) (fun _ _ _ h => h) rfl (fun _ => OpY.shlU rfl rfl rfl (by omega) hq) ?_
        refine DL.takeP (i := 4) (v := .int .u64 (((mkD ds k ||| q : Nat) : Int))) rfl (by kernel_rfl) (by kernel_rfl) (by kernel_rfl) (fun _ _ _ h => h) rfl (fun _ => OpY.orU rfl rfl (by omega) (by omega)) ?_
        refine DL.takeP (i := 5) (v := .pointer (some ⟨b3, 5, none⟩)) rfl (by kernel_rfl) (by kernel_rfl) (by kernel_rfl) (fun _ _ _ h => h) rfl (fun _ => OpY.fieldAddr Tfo_94_1 rfl rfl) ?_
        refine DL.step (i := 6) (by kernel_rfl) (by kernel_rfl) rfl rfl (OpStep.store (us := [.int .u64 (((mkD ds k ||| q : Nat) : Int))]) Tsize_92 rfl rfl rfl (.here _) (by simp only [List.length_cons, List.length_nil]; omega) ?_)
        show DL _ _ _ _ _ _ _ _ [.blk b3 94 [.int .i64 (ix ps 0), .int .i64 (ix ps 1), .int .i64 (ix ps 2), .int .i64 (ix ps 3), .int .i64 (ix ps 4), .int .u64 (((mkD ds k ||| q : Nat) : Int))], .blk b2 94 [.int .i64 0, .int .i64 0, .int .i64 0, .int .i64 0, .int .i64 0, .int .u64 0], .blk b1 90 [.int .i64 N, vg, .int .i64 Q, vc, vp, .slice (some ⟨b, o, none⟩) n cd, vs]]
        refine DL.done (by kernel_rfl) ?_
        refine Run.blockEnd ?_
        refine Run.region ?_
        refine Run.q (v := .int .i64 ((((k : Nat) : Int)) + 1)) rfl (OpQ.y (OpY.add rfl rfl rfl (by omega) (by omega))) ?_
        refine Run.q (v := .int .i64 ((((k : Nat) : Int)) + 1)) rfl (OpQ.y (OpY.pure rfl)) ?_
        refine Run.done ?_
        refine Run.goal ⟨(by repeat (first | exact Same.refl _ _ | refine Same.put rfl ?_ | refine Same.over rfl rfl ?_)), k + 1, ?_, ?_, ?_, ?_⟩
        · exact hltk
        · omega
        · exact ⟨(by first | rfl | (congr 1; omega) | simp), trivial⟩
        · exact (Some'.weak (.takeEq (by first | rfl | (rw [hnx]; done) | (rw [hnx]; rfl)) (.takeEq (by first | rfl | (rw [hnx]; done) | (rw [hnx]; rfl)) (.takeEq (by first | rfl | (rw [hnx]; done) | (rw [hnx]; rfl)) (.nil _)))))
      · have p22 := h22; try simp only [bs] at p22
        have hnx : mkD ds (k + 1) = mkD ds k := by rw [mkD, if_neg (by rw [h22]; decide)]
        refine Run.skip ?_
        refine Run.blockEnd ?_
        refine Run.region ?_
        refine Run.q (v := .int .i64 ((((k : Nat) : Int)) + 1)) rfl (OpQ.y (OpY.add rfl rfl rfl (by omega) (by omega))) ?_
        refine Run.q (v := .int .i64 ((((k : Nat) : Int)) + 1)) rfl (OpQ.y (OpY.pure rfl)) ?_
        refine Run.done ?_
        refine Run.goal ⟨(by repeat (first | exact Same.refl _ _ | refine Same.put rfl ?_ | refine Same.over rfl rfl ?_)), k + 1, ?_, ?_, ?_, ?_⟩
        · exact hltk
        · omega
        · exact ⟨(by first | rfl | (congr 1; omega) | simp), trivial⟩
        · exact (Some'.weak (.takeEq (by first | rfl | (rw [hnx]; done) | (rw [hnx]; rfl)) (.takeEq (by first | rfl | (rw [hnx]; done) | (rw [hnx]; rfl)) (.takeEq (by first | rfl | (rw [hnx]; done) | (rw [hnx]; rfl)) (.nil _)))))
    · have p18 := h18; try simp only [bs] at p18
      have hkn : k = n := by omega
      refine Run.exit rfl ?_
      refine Run.seq ?_
      refine Run.region ?_
      refine Run.q (v := .agg #[.int .i64 (ix ps 0), .int .i64 (ix ps 1), .int .i64 (ix ps 2), .int .i64 (ix ps 3), .int .i64 (ix ps 4), .int .u64 (((mkD ds k : Nat) : Int))]) rfl (OpQ.y (OpY.loadN (cs := [.int .i64 (ix ps 0), .int .i64 (ix ps 1), .int .i64 (ix ps 2), .int .i64 (ix ps 3), .int .i64 (ix ps 4), .int .u64 (((mkD ds k : Nat) : Int))]) Tagg_94 rfl (Cells.blk (.head _) ⟨rfl, rfl, rfl, rfl, rfl, rfl, trivial⟩))) ?_
      refine Run.step rfl (OpStep.storeAll (us := [.int .i64 (ix ps 0), .int .i64 (ix ps 1), .int .i64 (ix ps 2), .int .i64 (ix ps 3), .int .i64 (ix ps 4), .int .u64 (((mkD ds k : Nat) : Int))]) Tsize_94 rfl rfl rfl (.there _ (.here _)) rfl ?_)
      refine Run.done ?_
      refine Run.ret ?_
      refine ⟨.agg #[.int .i64 (ix ps 0), .int .i64 (ix ps 1), .int .i64 (ix ps 2), .int .i64 (ix ps 3), .int .i64 (ix ps 4), .int .u64 (((mkD ds k : Nat) : Int))], [], Out.cell1 (cs := [.int .i64 (ix ps 0), .int .i64 (ix ps 1), .int .i64 (ix ps 2), .int .i64 (ix ps 3), .int .i64 (ix ps 4), .int .u64 (((mkD ds k : Nat) : Int))]) rfl Tagg_94 rfl (Cells.blk (.tail _ (List.Mem.head _)) ⟨rfl, rfl, rfl, rfl, rfl, rfl, trivial⟩), (Some'.weak (.nil _)), ?_⟩
      show _ = _; rw [hkn]; rfl

end Go.Proofs.Ytekikmdjldincaa
