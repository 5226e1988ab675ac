/- Walks: shortest circuits of linear maps, by the program and by the reference. -/
import Derived.Test.YteehfidjofcfmaaSho
import Derived.Test.YteehfidjofcfmaaCif
import Derived.Test.YteehfidjofcfmaaLin2
import Derived.Test.YteehfidjofcfmaaLin3
import Derived.Test.YteehfidjofcfmaaLin5
import Derived.Test.YteehfidjofcfmaaFar
import Derived.Test.YteehfidjofcfmaaProg
set_option linter.unusedSimpArgs false
set_option linter.unusedVariables false
namespace Go.Proofs.Yteehfidjofcfmaa
open Go Go.RowKit
namespace SlxT
theorem Tagg_28 : aggOf Try.prog 28 = some 1 := by kernel_rfl
theorem Tcall_92 : callable Try.prog 92 = true := by kernel_rfl
theorem Tfo_28_0 : fieldOff Try.prog 28 0 = some 0 := by kernel_rfl
theorem Tint_96 : Try.prog.underlying 96 = some (.int .u64) := by kernel_rfl
theorem Tone_22 : oneOf Try.prog 22 = true := by kernel_rfl
theorem Tone_3 : oneOf Try.prog 3 = true := by kernel_rfl
theorem Tsize_28 : (Try.prog.info? 28).map (·.size) = some 1 := by kernel_rfl
theorem Tsize_3 : (Try.prog.info? 3).map (·.size) = some 1 := by kernel_rfl
theorem Tsl_22 : sliceOf Try.prog 22 = some (3, 1, 8, [.int .i64 0]) := by kernel_rfl
theorem Tsome_3 : (Try.prog.underlying 3).isSome = true := by kernel_rfl
theorem Tzero_28 : zeroOf Try.prog 28 = some [.slice none 0 0] := by kernel_rfl
end SlxT
open SlxT

theorem OpY.quoI {E : Env} {f : Fr} {H : List Res} {d : Option Tmp} {ty : TypeId} {pos : String} {after : Array Edge} {gd : Option (Nat × Bool)} {t t' : TypeId} {x y : Operand} {A B q : Int} (hx : f.eval x = .int .i64 A) (hy : f.eval y = .int .i64 B) (hb : B ≠ 0) (h : A.tdiv B = q) (hq : -9223372036854775808 ≤ q ∧ q ≤ 9223372036854775807) :
    OpY E ⟨d, .binOp .quo t x y t', ty, pos, after, gd⟩ f H (.int .i64 q) := by
  intro w _
  have hw : IntKind.i64.wrap q = q := by rw [IntKind.wrap_i64]; omega
  simp [execOp, hx, hy, eqGuard, binOp, Op.intDiv, hb, h, hw]
theorem OpY.quoNat {E : Env} {f : Fr} {H : List Res} {d : Option Tmp} {ty : TypeId} {pos : String} {after : Array Edge} {gd : Option (Nat × Bool)} {t t' : TypeId} {x y : Operand} {a b : Nat} (hx : f.eval x = .int .i64 (a : Int)) (hy : f.eval y = .int .i64 (b : Int)) (ha : a < 9223372036854775808) (hb : 0 < b) :
    OpY E ⟨d, .binOp .quo t x y t', ty, pos, after, gd⟩ f H (.int .i64 ((a / b : Nat) : Int)) := by
  have hle : a / b ≤ a := Nat.div_le_self _ _
  refine OpY.quoI hx hy (by omega) rfl ?_
  obtain ⟨q, hq⟩ : ∃ q, q = a / b := ⟨_, rfl⟩
  rw [← hq] at hle ⊢
  omega
theorem OpY.remNat {E : Env} {f : Fr} {H : List Res} {d : Option Tmp} {ty : TypeId} {pos : String} {after : Array Edge} {gd : Option (Nat × Bool)} {t t' : TypeId} {x y : Operand} {a b : Nat} (hx : f.eval x = .int .i64 (a : Int)) (hy : f.eval y = .int .i64 (b : Int)) (hb : 0 < b) :
    OpY E ⟨d, .binOp .rem t x y t', ty, pos, after, gd⟩ f H (.int .i64 ((a % b : Nat) : Int)) := by
  have h := OpY.rem (E := E) (H := H) (d := d) (ty := ty) (pos := pos) (after := after) (gd := gd) (t := t) (t' := t') hx hy (by omega) (by omega)
  rwa [show ((a : Int) % (b : Int)) = ((a % b : Nat) : Int) from rfl] at h
theorem addK_aft (l : List Nat) (a b : Nat) : addK b (2 ^ a) l l.length = aft l a b := by rw [addK_all]; rfl
/-- The least word of a map. -/
noncomputable def lwP (n : Nat) (m : List Nat) : List Nat := @Classical.epsilon _ ⟨[]⟩ (LW n m)
theorem lwP_spec {n : Nat} {m p : List Nat} (h : LW n m p) : lwP n m = p := (@Classical.epsilon_spec_aux _ ⟨[]⟩ (LW n m) ⟨p, h⟩).one h
theorem lin_facts {xs : List Int} {n : Nat} (hl : xs.length = n) (h : linOk xs n = true) : 1 ≤ n ∧ n ≤ 5 ∧ nl (nats xs) = xs ∧ (nats xs).length = n ∧ (∀ i, nx (nats xs) i < 2 ^ n) ∧ Indep (nats xs) := by
  simp only [linOk, Bool.and_eq_true, decide_eq_true_eq, within_iff, Bool.not_eq_true'] at h
  obtain ⟨⟨⟨h1, h2⟩, h3⟩, h4⟩ := h
  obtain ⟨h5, h6⟩ := rows_in hl h3
  have hnl : (nats xs).length = n := by rw [nats, List.length_map, hl]
  have hn5 : n ≤ 5 := by omega
  refine ⟨by omega, hn5, h5, hnl, fun i => nx_lt h6 i, ?_⟩
  refine (rkS_full (k := 10) fun x hx => Nat.lt_of_lt_of_le (h6 x hx) (Nat.pow_le_pow_right (by omega) (by omega))).1 ?_
  rw [h4, hnl]
theorem gateOk_cx {n a b : Nat} (ha : a < n) (hb : b < n) (hab : a ≠ b) : gateOk n 9 a b = true := decide_eq_true (.inr (.inl ⟨by omega, by omega, by omega, by omega, by omega, by omega, by omega⟩))
theorem circ_cx {n : Nat} {w : List (Nat × Nat)} (hn : 1 ≤ n ∧ n ≤ 5) (hw : WOk n w) (hl : w.length ≤ 400) : circOk n (flCX w) w.length = true := by
  simp only [circOk, Bool.and_eq_true, decide_eq_true_eq, within_iff]
  refine ⟨⟨⟨by omega, by omega⟩, hl⟩, allI_iff.2 fun i hi => ?_⟩
  obtain ⟨h1, h2, h3⟩ := flCX_get hi
  have hg : gat w i ∈ w := by
    have : gat w i = w[i] := by simp [gat, List.getD, hi]
    rw [this]; exact List.getElem_mem hi
  obtain ⟨g1, g2, g3⟩ := hw _ hg
  simp only [gateAt, ix, List.getD, h1, h2, h3, Option.getD_some]
  exact gateOk_cx g1 g2 g3
theorem dcw_len (n : Nat) (p : List Nat) : (dcw n p).length = p.length := by simp [dcw]
theorem pow16 {n : Nat} (h : n ≤ 4) : 2 ^ n ≤ 16 := Nat.pow_le_pow_right (n := 2) (by omega) h
/-- Small valid maps. -/
def slB (n : Nat) (xs : List Int) : Bool := decide (n ≤ 4) && linOk xs n
noncomputable def slG (n : Nat) (xs : List Int) : List Nat := if slB n xs = true then lwP n (nats xs) else []
def slN (n : Nat) (xs : List Int) : Int := if slB n xs = true then n else 0
theorem sl_LW {n : Nat} {xs : List Int} (hl : xs.length = n) (h : slB n xs = true) : LW n (nats xs) (slG n xs) := by
  obtain ⟨h4, hk⟩ : n ≤ 4 ∧ linOk xs n = true := by simpa [slB] using h
  obtain ⟨_, _, _, h3, h5, h6⟩ := lin_facts hl hk
  have hm := lq_found_all h4 h3 (fun i _ => h5 i) h6 (lq_end h4)
  obtain ⟨y, hy, he⟩ := List.mem_map.1 hm
  have hw := lq_LW h4 hy
  rw [he] at hw
  rw [slG, if_pos h, lwP_spec hw]; exact hw
theorem sl_len {n : Nat} {xs : List Int} (hl : xs.length = n) (h : slB n xs = true) : (slG n xs).length ≤ 28 := by
  obtain ⟨h4, hk⟩ : n ≤ 4 ∧ linOk xs n = true := by simpa [slB] using h
  obtain ⟨_, _, _, h3, h5, h6⟩ := lin_facts hl hk
  refine Nat.le_trans ((sl_LW hl h).len h3 (fun i _ => h5 i) h6) ?_
  exact Nat.le_trans (Nat.mul_le_mul h4 (show n + 3 ≤ 7 by omega)) (by omega)
theorem sl_bad {n : Nat} {xs : List Int} (h : slB n xs = false) : slG n xs = [] ∧ slN n xs = 0 := by simp [slG, slN, h]
theorem sl_good {n : Nat} {xs : List Int} (h : slB n xs = true) : slN n xs = n := by simp [slN, h]

set_option maxHeartbeats 1000000 in
set_option maxRecDepth 20000 in
theorem l12After_spec {va : Value} {l : List Nat} {a b : Nat} {w : World} (h5 : l.length ≤ 5) (ha5 : a < 5) (hb5 : b < 5) (hb : ∀ i, nx l i < 32) (ha : Sl w va 1 l.length (ints (nl l))) : Calls Try.prog 51 #[.agg #[va], .int .i64 (a : Int), .int .i64 (b : Int)] w (Post No w fun v H => ∃ u, v = .agg #[u] ∧ H = [.own u 3 1 l.length (ints (nl (aft l a b)))]) := by
  obtain ⟨q, hq⟩ : ∃ q : Nat, q = 2 ^ a := ⟨_, rfl⟩
  have hq32 : q ≤ 16 := by rw [hq]; exact Nat.pow_le_pow_right (n := 2) (by omega) (show a ≤ 4 by omega)
  have hll := nl_length l
  refine enter (n := 39) (args := [.agg #[va], .int .i64 (((a : Nat) : Int)), .int .i64 (((b : Nat) : Int))]) Try.func51 rfl rfl (St.empty _ _) ?_
  refine Run.seq ?_
  refine Run.region ?_
  refine Run.step rfl (OpStep.box (us := [va]) rfl fun b1 => ?_)
  refine Run.step rfl (OpStep.alloc (zs := [.slice none 0 0]) Tzero_28 fun b2 => ?_)
  refine Run.done ?_
  refine Run.seq ?_
  refine Run.region ?_
  refine Run.q (v := .pointer (some ⟨b1, 0, none⟩)) rfl (OpQ.y (OpY.fieldAddr Tfo_28_0 rfl rfl)) ?_
  refine Run.q (v := va) rfl (OpQ.y (OpY.load1 Tone_22 rfl (Cells.blk (.tail _ (List.Mem.head _)) ⟨rfl, trivial⟩))) ?_
  refine Run.step rfl (OpStep.call (vs := [va]) (caps := []) Tcall_92 rfl rfl (fun w hs => l1Own_spec (by omega) (hs.sl ha)) ?_)
  rintro uo _ rfl
  show Run _ _ (putF _ _ _ uo) [.own uo 3 1 (l.length) (ints (nl l)), .blk b2 28 [.slice none 0 0], .blk b1 28 [va]]
  refine Run.formOwn (.head _) (fun A_uo1 c_uo1 hv hcapc_uo1 hmaxc_uo1 => ?_) (fun _ _ _ => ⟨nofun, nofun, nofun⟩)
  subst hv
  refine Run.q (v := .agg #[.slice A_uo1 (l.length) c_uo1]) rfl (OpQ.y (OpY.build (cs := [.slice A_uo1 (l.length) c_uo1]) (by kernel_rfl))) ?_
  refine Run.step rfl (OpStep.alloc (zs := [.slice none 0 0]) Tzero_28 fun b3 => ?_)
  refine Run.step rfl (OpStep.storeAll (us := [.slice A_uo1 (l.length) c_uo1]) Tsize_28 rfl rfl rfl (.here _) rfl ?_)
  refine Run.done ?_
  refine Run.seq ?_
  refine Run.seq ?_
  refine Run.region ?_
  refine Run.q (v := .pointer (some ⟨b3, 0, none⟩)) rfl (OpQ.y (OpY.fieldAddr Tfo_28_0 rfl rfl)) ?_
  refine Run.q (v := .slice A_uo1 (l.length) c_uo1) rfl (OpQ.y (OpY.load1 Tone_22 rfl (Cells.blk (.head _) ⟨rfl, trivial⟩))) ?_
  refine Run.q (v := .int .i64 (((l.length : Nat) : Int))) rfl (OpQ.y (OpY.len Tsl_22 rfl)) ?_
  refine Run.q (v := .int .i64 0) rfl (OpQ.y (OpY.pure rfl)) ?_
  refine Run.done ?_
  refine Run.block ?_
  refine Run.loop (ι := Nat) [8, 9, 17, 18, 19, 20, 21, 22, 23, 24, 25, 26, 27, 28, 29, 30, 31, 32, 33, 34, 35, 36, 37] (fun i => [(17, .int .i64 (((i : Nat) : Int)))]) (fun i => [.blk b3 28 [.slice A_uo1 (l.length) c_uo1], .own (.slice A_uo1 (l.length) c_uo1) 3 1 (l.length) (ints (nl (addK b (2 ^ a) l i))), .blk b2 28 [.slice none 0 0], .blk b1 28 [va]]) (fun i => i ≤ l.length) (fun i => l.length - i) 0 ?_ ?_ ?_ ?_
  · exact Nat.zero_le _
  · exact ⟨rfl, trivial⟩
  · exact (Some'.weak (.take (.takeEq (by first | rfl | (rw [hX]; done) | (rw [hX, nl_set]; done) | (rw [hX])) (.take (.take (.nil _))))))
  · rintro i fr hinv
    show Run _ _ (over _ _ [(17, .int .i64 (((i : Nat) : Int)))] fr) [.blk b3 28 [.slice A_uo1 (l.length) c_uo1], .own (.slice A_uo1 (l.length) c_uo1) 3 1 (l.length) (ints (nl (addK b (2 ^ a) l i))), .blk b2 28 [.slice none 0 0], .blk b1 28 [va]]
    try dsimp only at hinv
    refine Run.seq ?_
    refine Run.region ?_
    refine Run.q (v := .bool (decide ((((i : Nat) : Int)) < (((l.length : Nat) : Int))))) rfl (OpQ.y (OpY.pure rfl)) ?_
    refine Run.done ?_
    refine Run.seq ?_
    refine Run.cond (b := decide ((((i : Nat) : Int)) < (((l.length : Nat) : Int)))) rfl (fun h18 => ?_) (fun h18 => ?_)
    · have p18 := h18; try simp only [bs] at p18
      have hlt : i < l.length := by omega
      have hal := addK_length b (2 ^ a) l i
      have hnl2 := nl_length (addK b (2 ^ a) l i)
      have hv : nx (addK b (2 ^ a) l i) i < 32 := by
        rw [nx_addK (by omega) hlt, if_neg (fun h => absurd h.1 (Nat.lt_irrefl _))]; exact hb i
      refine Run.openOwn (.tail _ (List.Mem.head _)) (by omega) (fun g cg hvg hcapg _ => ?_) (fun _ _ _ => ⟨nofun, nofun, nofun⟩)
      injection hvg with hAg _ hcg; subst hAg; subst hcg
      refine Run.skip ?_
      refine Run.seq ?_
      refine Run.block ?_
      refine Run.seq ?_
      refine Run.region ?_
      refine Run.q (v := .int .i64 (((i : Nat) : Int))) rfl (OpQ.y (OpY.pure rfl)) ?_
      refine Run.q (v := .pointer (some ⟨g, i, none⟩)) rfl (OpQ.y (OpY.index (kk := i) Tsl_22 rfl rfl (by omega) (by omega) (by first | rfl | omega))) ?_
      refine Run.q (v := .int .i64 (ix (nl (addK b (2 ^ a) l i)) (i))) rfl (OpQ.y (OpY.load1 Tone_3 rfl (Cells.own0 (.tail _ (List.Mem.head _)) (pre1 (by omega))))) ?_
      refine Run.q (v := .int .i64 (((i : Nat) : Int))) rfl (OpQ.y (OpY.pure rfl)) ?_
      refine Run.q (v := .int .i64 (ix (nl (addK b (2 ^ a) l i)) (i))) rfl (OpQ.y (OpY.pure rfl)) ?_
      refine Run.done ?_
      refine Run.seq ?_
      refine Run.region ?_
      refine Run.q (v := .int .i64 (ix (nl (addK b (2 ^ a) l i)) (i))) rfl (OpQ.y (OpY.pure rfl)) ?_
      refine Run.q (v := .int .i64 (((b : Nat) : Int))) rfl (OpQ.y (OpY.pure rfl)) ?_
      refine Run.q (v := .int .u64 (((b : Nat) : Int))) rfl (OpQ.y (OpY.convIntEq Tsome_3 Tint_96 rfl (by rw [IntKind.wrap_u64]; omega))) ?_
      refine Run.q (v := .int .i64 ((ix (nl (addK b (2 ^ a) l i)) (i)) >>> b)) rfl (OpQ.y (OpY.shr rfl rfl (by first | rfl | omega) (by omega))) ?_
      refine Run.q (v := .int .i64 (((ix (nl (addK b (2 ^ a) l i)) (i)) >>> b) % 2)) rfl (OpQ.y (OpY.and1 rfl rfl)) ?_
      refine Run.q (v := .bool ((((ix (nl (addK b (2 ^ a) l i)) (i)) >>> b) % 2) == 1)) rfl (OpQ.y (OpY.pure rfl)) ?_
      refine Run.done ?_
      refine Run.cond (b := (((ix (nl (addK b (2 ^ a) l i)) (i)) >>> b) % 2) == 1) rfl (fun h27 => ?_) (fun h27 => ?_)
      · have p27 := h27; try simp only [bs] at p27
        have hbit : (nx (addK b (2 ^ a) l i) i).testBit b = true := by rw [← bitI_nl]; exact bitI_true p27
        have hX : addK b (2 ^ a) l (i + 1) = (addK b (2 ^ a) l i).set i (nx (addK b (2 ^ a) l i) i ^^^ q) := by rw [addK, if_pos hbit, ← hq]
        refine Run.region ?_
        refine Run.q (v := .pointer (some ⟨b3, 0, none⟩)) rfl (OpQ.y (OpY.fieldAddr Tfo_28_0 rfl rfl)) ?_
        refine Run.q (v := .slice (some ⟨g, 0, none⟩) (l.length) c_uo1) rfl (OpQ.y (OpY.load1 Tone_22 rfl (Cells.blk (.head _) ⟨rfl, trivial⟩))) ?_
        refine Run.q (v := .int .i64 (((i : Nat) : Int))) rfl (OpQ.y (OpY.pure rfl)) ?_
        refine Run.q (v := .int .i64 (ix (nl (addK b (2 ^ a) l i)) (i))) rfl (OpQ.y (OpY.pure rfl)) ?_
        refine Run.q (v := .int .i64 (((a : Nat) : Int))) rfl (OpQ.y (OpY.pure rfl)) ?_
        refine Run.q (v := .int .u64 (((a : Nat) : Int))) rfl (OpQ.y (OpY.convIntEq Tsome_3 Tint_96 rfl (by rw [IntKind.wrap_u64]; omega))) ?_
        refine Run.q (v := .int .i64 (((q : Nat) : Int))) rfl (OpQ.y (OpY.shlOne rfl rfl rfl (by omega) hq)) ?_
        refine Run.q (v := .int .i64 (((nx (addK b (2 ^ a) l i) i ^^^ q : Nat) : Int))) rfl (OpQ.y (OpY.xorNat rfl rfl (ix_nl _ _) rfl (by omega) (by omega))) ?_
        refine Run.q (v := .pointer (some ⟨g, i, none⟩)) rfl (OpQ.y (OpY.index (kk := i) Tsl_22 rfl rfl (by omega) (by omega) (by first | rfl | omega))) ?_
        refine Run.step rfl (OpStep.storeOwnInt (o := i) (a := ((nx (addK b (2 ^ a) l i) i ^^^ q : Nat) : Int)) Tsize_3 rfl rfl (.there _ (.here _)) (by omega) ?_)
        refine Run.done ?_
        refine Run.blockEnd ?_
        refine Run.region ?_
        refine Run.q (v := .int .i64 ((((i : Nat) : Int)) + 1)) rfl (OpQ.y (OpY.add rfl rfl rfl (by omega) (by omega))) ?_
        refine Run.q (v := .int .i64 ((((i : Nat) : Int)) + 1)) rfl (OpQ.y (OpY.pure rfl)) ?_
        refine Run.done ?_
        refine Run.goal ⟨(by repeat (first | exact Same.refl _ _ | refine Same.put rfl ?_ | refine Same.over rfl rfl ?_)), i + 1, ?_, ?_, ?_, ?_⟩
        · omega
        · omega
        · exact ⟨(by first | rfl | (congr 1; omega) | simp), trivial⟩
        · exact (Some'.weak (.takeEq (by first | rfl | (rw [hX]; done) | (rw [hX, nl_set]; done) | (rw [hX])) (.takeEq (by first | rfl | (rw [hX]; done) | (rw [hX, nl_set]; done) | (rw [hX])) (.take (.take (.nil _))))))
      · have p27 := h27; try simp only [bs] at p27
        have hbit : (nx (addK b (2 ^ a) l i) i).testBit b = false := by rw [← bitI_nl]; exact bitI_ne1 p27
        have hX : addK b (2 ^ a) l (i + 1) = addK b (2 ^ a) l i := by rw [addK, if_neg (by rw [hbit]; decide)]
        refine Run.skip ?_
        refine Run.blockEnd ?_
        refine Run.region ?_
        refine Run.q (v := .int .i64 ((((i : Nat) : Int)) + 1)) rfl (OpQ.y (OpY.add rfl rfl rfl (by omega) (by omega))) ?_
        refine Run.q (v := .int .i64 ((((i : Nat) : Int)) + 1)) rfl (OpQ.y (OpY.pure rfl)) ?_
        refine Run.done ?_
        refine Run.goal ⟨(by repeat (first | exact Same.refl _ _ | refine Same.put rfl ?_ | refine Same.over rfl rfl ?_)), i + 1, ?_, ?_, ?_, ?_⟩
        · omega
        · omega
        · exact ⟨(by first | rfl | (congr 1; omega) | simp), trivial⟩
        · exact (Some'.weak (.takeEq (by first | rfl | (rw [hX]; done) | (rw [hX, nl_set]; done) | (rw [hX])) (.takeEq (by first | rfl | (rw [hX]; done) | (rw [hX, nl_set]; done) | (rw [hX])) (.take (.take (.nil _))))))
    · have p18 := h18; try simp only [bs] at p18
      have hi : i = l.length := by omega
      refine Run.exit rfl ?_
      refine Run.seq ?_
      refine Run.region ?_
      refine Run.q (v := .agg #[.slice A_uo1 (l.length) c_uo1]) rfl (OpQ.y (OpY.loadN (cs := [.slice A_uo1 (l.length) c_uo1]) Tagg_28 rfl (Cells.blk (.head _) ⟨rfl, trivial⟩))) ?_
      refine Run.step rfl (OpStep.storeAll (us := [.slice A_uo1 (l.length) c_uo1]) Tsize_28 rfl rfl rfl (.there _ (.there _ (.here _))) rfl ?_)
      refine Run.done ?_
      refine Run.ret ?_
      refine ⟨.agg #[.slice A_uo1 (l.length) c_uo1], [.own (.slice A_uo1 (l.length) c_uo1) 3 1 (l.length) (ints (nl (aft l a b)))], Out.cell1 (cs := [.slice A_uo1 (l.length) c_uo1]) rfl Tagg_28 rfl (Cells.blk (.tail _ (.tail _ (List.Mem.head _))) ⟨rfl, trivial⟩), (Some'.weak (.skip (.takeEq (by rw [hi, addK_aft]) (.nil _)))), ?_⟩
      exact ⟨_, rfl, rfl⟩

end Go.Proofs.Yteehfidjofcfmaa
