/- Walks: drawn linear maps and circuits. -/
import Derived.Test.YteehfidjofcfmaaLof
import Derived.Test.YteehfidjofcfmaaDr
import Derived.Test.YteehfidjofcfmaaProg
set_option linter.unusedSimpArgs false
set_option linter.unusedVariables false
namespace Go.Proofs.Yteehfidjofcfmaa
open Go Go.RowKit
namespace DlmT
theorem Tagg_28 : aggOf Try.prog 28 = some 1 := by kernel_rfl
theorem Tcall_58 : callable Try.prog 58 = true := by kernel_rfl
theorem Tcall_64 : callable Try.prog 64 = true := by kernel_rfl
theorem Tcall_65 : callable Try.prog 65 = true := by kernel_rfl
theorem Tcall_70 : callable Try.prog 70 = true := by kernel_rfl
theorem Tcall_71 : callable Try.prog 71 = true := by kernel_rfl
theorem Tcall_85 : callable Try.prog 85 = true := by kernel_rfl
theorem Tcall_86 : callable Try.prog 86 = true := by kernel_rfl
theorem Tfo_28_0 : fieldOff Try.prog 28 0 = some 0 := by kernel_rfl
theorem Tone_22 : oneOf Try.prog 22 = true := by kernel_rfl
theorem Tsize_22 : (Try.prog.info? 22).map (·.size) = some 1 := by kernel_rfl
theorem Tsize_28 : (Try.prog.info? 28).map (·.size) = some 1 := by kernel_rfl
theorem Tsize_3 : (Try.prog.info? 3).map (·.size) = some 1 := by kernel_rfl
theorem Tsl_22 : sliceOf Try.prog 22 = some (3, 1, 8, [.int .i64 0]) := by kernel_rfl
theorem Tzero_28 : zeroOf Try.prog 28 = some [.slice none 0 0] := by kernel_rfl
end DlmT
open DlmT

theorem OpY.sliceLE {E : Env} {f : Fr} {H : List Res} {d : Option Tmp} {ty : TypeId} {pos : String} {after : Array Edge} {gd : Option (Nat × Bool)} {t : TypeId} {x y : Operand} {A A' : Option Addr} {n c l : Nat} {k : IntKind} {i : Int} {e : TypeId} {size : Nat} {z : Nat × List Value} (ht : sliceOf E.P t = some (e, size, z)) (hx : f.eval x = .slice A n c) (hy : f.eval y = .int k i) (hi : i = (l : Int)) (h1 : l ≤ n)
    (hA : (if c = l then A else A.map (·.add (l * size))) = A') : OpY E ⟨d, .slice t x (some y) none none, ty, pos, after, gd⟩ f H (.slice A' (n - l) (c - l)) := by
  subst hi; subst hA
  exact OpY.sliceL (E := E) (f := f) (H := H) (d := d) (ty := ty) (pos := pos) (after := after) (gd := gd) ht hx hy (by omega) (by omega)
theorem tail_read {g n c : Nat} {e : TypeId} {xs : List Int} {A' : Option Addr} {w : World} (hn : 1 ≤ n) (hA : (if c = 1 then some (⟨g, 0, none⟩ : Addr) else (some (⟨g, 0, none⟩ : Addr)).map (·.add (1 * 1))) = A') (h : (Res.own (.slice (some ⟨g, 0, none⟩) n c) e 1 n (ints xs)).holds w) : Sl w (.slice A' (n - 1) (c - 1)) 1 (n - 1) (ints (xs.drop 1)) := by
  have hs : Sl w (.slice (some ⟨g, 0, none⟩) n c) 1 n (ints xs) := (St.start1 h).slOwn (.head _)
  have hl := hs.len
  obtain ⟨h0, A, c', hv, h1, h2, h3⟩ := hs
  injection hv with hA2 _ hc
  subst hc
  refine ⟨by simp [ints]; omega, _, _, rfl, by omega, by omega, fun hn2 => ?_⟩
  obtain ⟨b', o', hA', hb, hrg⟩ := h3 (by omega)
  rw [← hA2] at hA'
  injection hA' with hA'; injection hA' with e1 e2
  subst e1; subst e2
  rw [if_neg (by omega)] at hA
  refine ⟨g, 1, by rw [← hA]; rfl, hb, fun j v hv => ?_⟩
  have h4 : (ints xs)[1 + j]? = some v := by
    rw [← hv, ints, ints, List.map_drop, List.getElem?_drop]
  have := hrg (1 + j) v h4
  rwa [Nat.zero_add] at this
theorem own_read {e : TypeId} {n : Nat} {v : Value} {xs : List Int} {w : World} (h : (Res.own v e 1 n (ints xs)).holds w) : Sl w v 1 n (ints xs) := (St.start1 h).slOwn (.head _)

set_option maxHeartbeats 1000000 in
set_option maxRecDepth 20000 in
theorem linear_spec {N : Nat} {bc n : Nat} {vc : Value} {cs : List Int} {s : Nat × Int} {w : World} (hN : 1 ≤ N ∧ N ≤ 5) (hat : s.1 < 2305843009213000000) (hc : Cur w bc vc n cs) (hst : St (Of [.blk bc 84 [vc, .int .i64 (((s.1 : Nat) : Int)), .int .u64 (s.2)]]) w w [.blk bc 84 [vc, .int .i64 (((s.1 : Nat) : Int)), .int .u64 (s.2)]]) : Calls Try.prog 86 #[.pointer (some ⟨bc, 0, none⟩), .int .i64 (N : Nat)] w (Post (Of [.blk bc 84 [vc, .int .i64 (((s.1 : Nat) : Int)), .int .u64 (s.2)]]) w fun v H => ∃ (u : Value) (l : List Nat) (s1 : Nat × Int), (l.length = N ∧ (∀ i, nx l i < 32) ∧ s1.1 ≤ s.1 + 100) ∧ v = .agg #[u] ∧ H = [.own u 3 1 N (ints (nl l)), .blk bc 84 [vc, .int .i64 (s1.1 : Nat), .int .u64 s1.2]]) := by
  refine enter (n := 36) (args := [.pointer (some ⟨bc, 0, none⟩), .int .i64 (((N : Nat) : Int))]) Try.func86 rfl rfl (hst) ?_
  refine Run.seq ?_
  refine Run.region ?_
  refine Run.step rfl (OpStep.alloc (zs := [.slice none 0 0]) Tzero_28 fun b1 => ?_)
  refine Run.done ?_
  refine Run.seq ?_
  refine Run.region ?_
  refine Run.q (v := .int .i64 (((N : Nat) : Int))) rfl (OpQ.y (OpY.pure rfl)) ?_
  refine Run.step rfl (OpStep.call (vs := [.int .i64 (((N : Nat) : Int))]) (caps := []) Tcall_70 rfl rfl (fun w hs => l12Identity_spec hN.2 w) ?_)
  rintro _ _ ⟨ui, rfl, rfl⟩
  show Run _ _ (putF _ _ _ (.agg #[ui])) [.own ui 3 1 N (ints (nl (idL N))), .blk b1 28 [.slice none 0 0], .blk bc 84 [vc, .int .i64 (((s.1 : Nat) : Int)), .int .u64 (s.2)]]
  refine Run.step rfl (OpStep.alloc (zs := [.slice none 0 0]) Tzero_28 fun b2 => ?_)
  refine Run.formOwn (.tail _ (List.Mem.head _)) (fun A_ui1 c_ui1 hv hcapc_ui1 hmaxc_ui1 => ?_) (fun _ _ _ => ⟨nofun, nofun, nofun⟩)
  subst hv
  refine Run.step rfl (OpStep.storeAll (us := [.slice A_ui1 N c_ui1]) Tsize_28 rfl rfl rfl (.here _) rfl ?_)
  refine Run.done ?_
  refine Run.seq ?_
  refine Run.seq ?_
  refine Run.region ?_
  refine Run.q (v := .pointer (some ⟨bc, 0, none⟩)) rfl (OpQ.y (OpY.pure rfl)) ?_
  refine Run.step rfl (OpStep.callM (H1 := [.blk bc 84 [vc, .int .i64 (((s.1 : Nat) : Int)), .int .u64 (s.2)]]) (H2 := [.blk b2 28 [.slice A_ui1 N c_ui1], .own (.slice A_ui1 N c_ui1) 3 1 N (ints (nl (idL N))), .blk b1 28 [.slice none 0 0]]) (vs := [.pointer (some ⟨bc, 0, none⟩), .int .i64 8]) (caps := []) Tcall_64 rfl rfl (Weak.front [.blk b2 28 [.slice A_ui1 N c_ui1], .own (.slice A_ui1 N c_ui1) 3 1 N (ints (nl (idL N))), .blk b1 28 [.slice none 0 0]] (.blk bc 84 [vc, .int .i64 (((s.1 : Nat) : Int)), .int .u64 (s.2)]) []) (fun w hs => pick_ex (by omega) (hc.go hs) (hs.sub (List.sublist_append_left _ _)).self) ?_)
  rintro _ _ ⟨x1, s1, hx1, hs1, rfl, rfl⟩
  show Run _ _ (putF _ _ _ (.int .i64 x1)) [.blk bc 84 [vc, .int .i64 (((s1.1 : Nat) : Int)), .int .u64 (s1.2)], .blk b2 28 [.slice A_ui1 N c_ui1], .own (.slice A_ui1 N c_ui1) 3 1 N (ints (nl (idL N))), .blk b1 28 [.slice none 0 0]]
  refine Run.q (v := .int .i64 x1) rfl (OpQ.y (OpY.pure rfl)) ?_
  refine Run.done ?_
  obtain ⟨i0, hi0⟩ : ∃ i0 : Nat, x1 = ((i0 : Nat) : Int) := ⟨(x1).toNat, by omega⟩
  rw [hi0]
  refine Run.block ?_
  refine Run.loop (ι := Nat × (Nat × Int) × List Nat × Value) [6, 7, 12, 13, 14, 15, 16, 17, 18, 19, 20, 21, 22, 23, 24, 25, 26, 27, 28, 29, 30, 31, 32, 33, 34] (fun ⟨i, sc, l, vr⟩ => [(6, .int .i64 (((i : Nat) : Int)))]) (fun ⟨i, sc, l, vr⟩ => [.own vr 3 1 N (ints (nl l)), .blk b2 28 [vr], .blk b1 28 [.slice none 0 0], .blk bc 84 [vc, .int .i64 (((sc.1 : Nat) : Int)), .int .u64 (sc.2)]]) (fun ⟨i, sc, l, vr⟩ => i ≤ 8 ∧ sc.1 + 8 * i ≤ s.1 + 70 ∧ l.length = N ∧ ∀ j, nx l j < 32) (fun ⟨i, sc, l, vr⟩ => i) (i0, s1, idL N, .slice A_ui1 N c_ui1) ?_ ?_ ?_ ?_
  · exact ⟨by omega, by omega, by simp, lt32 hN.2 (idL_lt N)⟩
  · exact ⟨rfl, trivial⟩
  · exact ((((Weak.front [.blk bc 84 [vc, .int .i64 (((s1.1 : Nat) : Int)), .int .u64 (s1.2)], .blk b2 28 [.slice A_ui1 N c_ui1], .own (.slice A_ui1 N c_ui1) 3 1 N (ints (nl (idL N)))] (.blk b1 28 [.slice none 0 0]) []).trans (Weak.front [.blk b1 28 [.slice none 0 0], .blk bc 84 [vc, .int .i64 (((s1.1 : Nat) : Int)), .int .u64 (s1.2)]] (.blk b2 28 [.slice A_ui1 N c_ui1]) [.own (.slice A_ui1 N c_ui1) 3 1 N (ints (nl (idL N)))])).trans (Weak.front [.blk b2 28 [.slice A_ui1 N c_ui1], .blk b1 28 [.slice none 0 0], .blk bc 84 [vc, .int .i64 (((s1.1 : Nat) : Int)), .int .u64 (s1.2)]] (.own (.slice A_ui1 N c_ui1) 3 1 N (ints (nl (idL N)))) [])).trans (Some'.weak (.takeEq (by first | rfl | simp) (.takeEq (by first | rfl | simp) (.take (.takeEq (by first | rfl | simp) (.nil _)))))))
  · rintro ⟨i, sc, l, vr⟩ fr hinv
    show Run _ _ (over _ _ [(6, .int .i64 (((i : Nat) : Int)))] fr) [.own vr 3 1 N (ints (nl l)), .blk b2 28 [vr], .blk b1 28 [.slice none 0 0], .blk bc 84 [vc, .int .i64 (((sc.1 : Nat) : Int)), .int .u64 (sc.2)]]
    try dsimp only at hinv
    obtain ⟨hi8, hsc8, hll, hl32⟩ := hinv
    refine Run.seq ?_
    refine Run.seq ?_
    refine Run.region ?_
    refine Run.q (v := .int .i64 (((i : Nat) : Int))) rfl (OpQ.y (OpY.pure rfl)) ?_
    refine Run.q (v := .bool (decide ((((i : Nat) : Int)) > 0))) rfl (OpQ.y (OpY.pure rfl)) ?_
    rcases Bool.eq_false_or_eq_true (decide ((((i : Nat) : Int)) > 0)) with h14 | h14
    · refine Run.q (v := .bool true) rfl (OpQ.y (OpY.moveB rfl h14)) ?_
      have p14 := h14; try simp only [bs] at p14
      refine Run.q (v := .int .i64 (((N : Nat) : Int))) rfl (OpQ.y (OpY.pure rfl)) ?_
      refine Run.q (v := .bool (decide ((((N : Nat) : Int)) > 1))) rfl (OpQ.y (OpY.pure rfl)) ?_
      refine Run.q (v := .bool (decide ((((N : Nat) : Int)) > 1))) rfl (OpQ.y (OpY.pure rfl)) ?_
      refine Run.done ?_
      refine Run.cond (b := decide ((((N : Nat) : Int)) > 1)) rfl (fun h17 => ?_) (fun h17 => ?_)
      · have p17 := h17; try simp only [bs] at p17
        refine Run.skip ?_
        refine Run.seq ?_
        refine Run.block ?_
        refine Run.seq ?_
        refine Run.region ?_
        refine Run.q (v := .pointer (some ⟨bc, 0, none⟩)) rfl (OpQ.y (OpY.pure rfl)) ?_
        refine Run.q (v := .int .i64 (((N : Nat) : Int))) rfl (OpQ.y (OpY.pure rfl)) ?_
        refine Run.step rfl (OpStep.callM (H1 := [.blk bc 84 [vc, .int .i64 (((sc.1 : Nat) : Int)), .int .u64 (sc.2)]]) (H2 := [.own vr 3 1 N (ints (nl l)), .blk b2 28 [vr], .blk b1 28 [.slice none 0 0]]) (vs := [.pointer (some ⟨bc, 0, none⟩), .int .i64 (((N : Nat) : Int))]) (caps := []) Tcall_64 rfl rfl (Weak.front [.own vr 3 1 N (ints (nl l)), .blk b2 28 [vr], .blk b1 28 [.slice none 0 0]] (.blk bc 84 [vc, .int .i64 (((sc.1 : Nat) : Int)), .int .u64 (sc.2)]) []) (fun w hs => pick_ex (by omega) (hc.go hs) (hs.sub (List.sublist_append_left _ _)).self) ?_)
        rintro _ _ ⟨x2, s2, hx2, hs2, rfl, rfl⟩
        show Run _ _ (putF _ _ _ (.int .i64 x2)) [.blk bc 84 [vc, .int .i64 (((s2.1 : Nat) : Int)), .int .u64 (s2.2)], .own vr 3 1 N (ints (nl l)), .blk b2 28 [vr], .blk b1 28 [.slice none 0 0]]
        refine Run.q (v := .int .i64 x2) rfl (OpQ.y (OpY.pure rfl)) ?_
        refine Run.done ?_
        refine Run.heldB (base := [.own vr 3 1 N (ints (nl l))]) (by kernel_rfl) ?_
        refine DW.take (i := 1) (v := .int .i64 x2) rfl (by kernel_rfl) (by kernel_rfl) (by kernel_rfl) (fun _ _ _ h => h) (Some'.weak (.skip (.take (.nil _)))) rfl (OpY.pure rfl) ?_
        refine DW.take (i := 2) (v := .int .i64 x2) rfl (by kernel_rfl) (by kernel_rfl) (by kernel_rfl) (fun _ _ _ h => h) (Some'.weak (.skip (.take (.nil _)))) rfl (OpY.pure rfl) ?_
        refine DW.take (i := 3) (v := .int .i64 (x2 + 1)) rfl (by kernel_rfl) (by kernel_rfl) (by kernel_rfl) (fun _ _ _ h => h) (Some'.weak (.skip (.take (.nil _)))) rfl (OpY.add rfl rfl rfl (by omega) (by omega)) ?_
        refine DW.take (i := 4) (v := .pointer (some ⟨bc, 0, none⟩)) rfl (by kernel_rfl) (by kernel_rfl) (by kernel_rfl) (fun _ _ _ h => h) (Some'.weak (.skip (.take (.nil _)))) rfl (OpY.pure rfl) ?_
        refine DW.take (i := 5) (v := .int .i64 (((N : Nat) : Int))) rfl (by kernel_rfl) (by kernel_rfl) (by kernel_rfl) (fun _ _ _ h => h) (Some'.weak (.skip (.take (.nil _)))) rfl (OpY.pure rfl) ?_
        refine DW.take (i := 6) (v := .int .i64 ((((N : Nat) : Int)) - 1)) rfl (by kernel_rfl) (by kernel_rfl) (by kernel_rfl) (fun _ _ _ h => h) (Some'.weak (.skip (.take (.nil _)))) rfl (OpY.sub rfl rfl rfl (by omega) (by omega)) ?_
        refine DW.take (i := 9) (v := .int .i64 (((N : Nat) : Int))) rfl (by kernel_rfl) (by kernel_rfl) (by kernel_rfl) (fun _ _ _ h => h) (Some'.weak (.skip (.take (.nil _)))) rfl (OpY.pure rfl) ?_
        refine DW.two (i := 0) (j := 7) (by kernel_rfl) rfl rfl rfl rfl ?_ ?_
        · refine OpStep.q (v := .agg #[vr]) (OpQ.y (OpY.loadN (cs := [vr]) Tagg_28 rfl (Cells.blk (.tail _ (.tail _ (List.Mem.head _))) ⟨rfl, trivial⟩))) ?_
          refine ⟨(Some'.weak (.skip (.take (.nil _)))), ?_⟩
          refine DW.step (i := 7) (by kernel_rfl) rfl rfl (OpStep.callM (H1 := [.blk bc 84 [vc, .int .i64 (((s2.1 : Nat) : Int)), .int .u64 (s2.2)]]) (H2 := [.own vr 3 1 N (ints (nl l)), .blk b2 28 [vr], .blk b1 28 [.slice none 0 0]]) (vs := [.pointer (some ⟨bc, 0, none⟩), .int .i64 ((((N : Nat) : Int)) - 1)]) (caps := []) Tcall_64 rfl rfl (Weak.refl _) (fun w hs => pick_ex (by omega) (hc.go hs) (hs.sub (List.sublist_append_left _ _)).self) ?_)
          rintro _ _ ⟨x3, s3, hx3, hs3, rfl, rfl⟩
          refine ⟨(Some'.weak (.skip (.take (.nil _)))), ?_⟩
          refine DW.take (i := 8) (v := .int .i64 ((x2 + 1) + x3)) rfl (by kernel_rfl) (by kernel_rfl) (by kernel_rfl) (fun _ _ _ h => h) (Some'.weak (.skip (.take (.nil _)))) rfl (OpY.add rfl rfl rfl (by omega) (by omega)) ?_
          refine DW.take (i := 10) (v := .int .i64 (((x2 + 1) + x3) % (((N : Nat) : Int)))) rfl (by kernel_rfl) (by kernel_rfl) (by kernel_rfl) (fun _ _ _ h => h) (Some'.weak (.skip (.take (.nil _)))) rfl (OpY.rem rfl rfl (by omega) (by omega)) ?_
          have hem := Int.emod_nonneg (((x2 + 1) + x3)) (show ((N : Nat) : Int) ≠ 0 by omega)
          have hel := Int.emod_lt_of_pos (((x2 + 1) + x3)) (show (0 : Int) < ((N : Nat) : Int) by omega)
          refine DW.step (i := 11) (by kernel_rfl) rfl rfl (OpStep.call (vs := [.agg #[vr], .int .i64 x2, .int .i64 (((x2 + 1) + x3) % (((N : Nat) : Int)))]) (caps := []) Tcall_71 rfl rfl (fun w hs => l12CX_i hll (by omega) (by omega) ⟨hem, hel⟩ hl32 (hs.slOwn (.tail _ (List.Mem.head _)))) ?_)
          rintro _ _ ⟨ur1, rfl, rfl⟩
          refine ⟨(Some'.weak (.skip (.skip (.take (.nil _))))), ?_⟩
          refine DW.formOwn (.head _) (fun A_ur11 c_ur11 hv hcapc_ur11 hmaxc_ur11 => ?_)
          subst hv
          refine DW.step (i := 12) (by kernel_rfl) rfl rfl (OpStep.storeAll (us := [.slice A_ur11 N c_ur11]) Tsize_28 rfl rfl rfl (.there _ (.there _ (.there _ (.here _)))) rfl ?_)
          refine ⟨(Some'.weak (.skip (.skip (.take (.nil _))))), ?_⟩
          refine DW.done (by kernel_rfl) ?_
          refine Run.blockEnd ?_
          refine Run.region ?_
          refine Run.q (v := .int .i64 (((i : Nat) : Int))) rfl (OpQ.y (OpY.pure rfl)) ?_
          refine Run.q (v := .int .i64 ((((i : Nat) : Int)) - 1)) rfl (OpQ.y (OpY.sub rfl rfl rfl (by omega) (by omega))) ?_
          refine Run.q (v := .int .i64 ((((i : Nat) : Int)) - 1)) rfl (OpQ.y (OpY.pure rfl)) ?_
          refine Run.done ?_
          refine Run.goal ⟨(by repeat (first | exact Same.refl _ _ | refine Same.put rfl ?_ | refine Same.over rfl rfl ?_)), (i - 1, s3, cx l ((x2).toNat, (((x2 + 1) + x3) % (((N : Nat) : Int))).toNat), .slice A_ur11 N c_ur11), ?_, ?_, ?_, ?_⟩
          · exact ⟨by omega, by omega, by rw [cx_length]; exact hll, cx32 hl32 _⟩
          · show i - 1 < i; omega
          · exact ⟨(by show Value.int _ _ = Value.int _ _; congr 1; omega), trivial⟩
          · exact (((((Weak.front [.own (.slice A_ur11 N c_ur11) 3 1 N (ints (nl (cx l ((x2).toNat, (((x2 + 1) + x3) % (((N : Nat) : Int))).toNat))))] (.blk bc 84 [vc, .int .i64 (((s3.1 : Nat) : Int)), .int .u64 (s3.2)]) [.own vr 3 1 N (ints (nl l)), .blk b2 28 [.slice A_ur11 N c_ur11], .blk b1 28 [.slice none 0 0]]).trans (Weak.front [.blk bc 84 [vc, .int .i64 (((s3.1 : Nat) : Int)), .int .u64 (s3.2)], .own (.slice A_ur11 N c_ur11) 3 1 N (ints (nl (cx l ((x2).toNat, (((x2 + 1) + x3) % (((N : Nat) : Int))).toNat)))), .own vr 3 1 N (ints (nl l)), .blk b2 28 [.slice A_ur11 N c_ur11]] (.blk b1 28 [.slice none 0 0]) [])).trans (Weak.front [.blk b1 28 [.slice none 0 0], .blk bc 84 [vc, .int .i64 (((s3.1 : Nat) : Int)), .int .u64 (s3.2)], .own (.slice A_ur11 N c_ur11) 3 1 N (ints (nl (cx l ((x2).toNat, (((x2 + 1) + x3) % (((N : Nat) : Int))).toNat)))), .own vr 3 1 N (ints (nl l))] (.blk b2 28 [.slice A_ur11 N c_ur11]) [])).trans (Weak.front [.blk b2 28 [.slice A_ur11 N c_ur11], .blk b1 28 [.slice none 0 0], .blk bc 84 [vc, .int .i64 (((s3.1 : Nat) : Int)), .int .u64 (s3.2)]] (.own (.slice A_ur11 N c_ur11) 3 1 N (ints (nl (cx l ((x2).toNat, (((x2 + 1) + x3) % (((N : Nat) : Int))).toNat))))) [.own vr 3 1 N (ints (nl l))])).trans (Some'.weak (.takeEq (by first | rfl | simp) (.takeEq (by first | rfl | simp) (.take (.takeEq (by first | rfl | simp) (.nil _)))))))
        · refine OpStep.callM (H1 := [.blk bc 84 [vc, .int .i64 (((s2.1 : Nat) : Int)), .int .u64 (s2.2)]]) (H2 := [.own vr 3 1 N (ints (nl l)), .blk b2 28 [vr], .blk b1 28 [.slice none 0 0]]) (vs := [.pointer (some ⟨bc, 0, none⟩), .int .i64 ((((N : Nat) : Int)) - 1)]) (caps := []) Tcall_64 rfl rfl (Weak.refl _) (fun w hs => pick_ex (by omega) (hc.go hs) (hs.sub (List.sublist_append_left _ _)).self) ?_
          rintro _ _ ⟨x4, s4, hx4, hs4, rfl, rfl⟩
          refine ⟨(Some'.weak (.skip (.take (.nil _)))), ?_⟩
          refine DW.take (i := 8) (v := .int .i64 ((x2 + 1) + x4)) rfl (by kernel_rfl) (by kernel_rfl) (by kernel_rfl) (fun _ _ _ h => h) (Some'.weak (.skip (.take (.nil _)))) rfl (OpY.add rfl rfl rfl (by omega) (by omega)) ?_
          refine DW.take (i := 10) (v := .int .i64 (((x2 + 1) + x4) % (((N : Nat) : Int)))) rfl (by kernel_rfl) (by kernel_rfl) (by kernel_rfl) (fun _ _ _ h => h) (Some'.weak (.skip (.take (.nil _)))) rfl (OpY.rem rfl rfl (by omega) (by omega)) ?_
          refine DW.step (i := 0) (by kernel_rfl) rfl rfl (OpStep.q (v := .agg #[vr]) (OpQ.y (OpY.loadN (cs := [vr]) Tagg_28 rfl (Cells.blk (.tail _ (.tail _ (List.Mem.head _))) ⟨rfl, trivial⟩))) ?_)
          refine ⟨(Some'.weak (.skip (.take (.nil _)))), ?_⟩
          have hem := Int.emod_nonneg (((x2 + 1) + x4)) (show ((N : Nat) : Int) ≠ 0 by omega)
          have hel := Int.emod_lt_of_pos (((x2 + 1) + x4)) (show (0 : Int) < ((N : Nat) : Int) by omega)
          refine DW.step (i := 11) (by kernel_rfl) rfl rfl (OpStep.call (vs := [.agg #[vr], .int .i64 x2, .int .i64 (((x2 + 1) + x4) % (((N : Nat) : Int)))]) (caps := []) Tcall_71 rfl rfl (fun w hs => l12CX_i hll (by omega) (by omega) ⟨hem, hel⟩ hl32 (hs.slOwn (.tail _ (List.Mem.head _)))) ?_)
          rintro _ _ ⟨ur2, rfl, rfl⟩
          refine ⟨(Some'.weak (.skip (.skip (.take (.nil _))))), ?_⟩
          refine DW.formOwn (.head _) (fun A_ur21 c_ur21 hv hcapc_ur21 hmaxc_ur21 => ?_)
          subst hv
          refine DW.step (i := 12) (by kernel_rfl) rfl rfl (OpStep.storeAll (us := [.slice A_ur21 N c_ur21]) Tsize_28 rfl rfl rfl (.there _ (.there _ (.there _ (.here _)))) rfl ?_)
          refine ⟨(Some'.weak (.skip (.skip (.take (.nil _))))), ?_⟩
          refine DW.done (by kernel_rfl) ?_
          refine Run.blockEnd ?_
          refine Run.region ?_
          refine Run.q (v := .int .i64 (((i : Nat) : Int))) rfl (OpQ.y (OpY.pure rfl)) ?_
          refine Run.q (v := .int .i64 ((((i : Nat) : Int)) - 1)) rfl (OpQ.y (OpY.sub rfl rfl rfl (by omega) (by omega))) ?_
          refine Run.q (v := .int .i64 ((((i : Nat) : Int)) - 1)) rfl (OpQ.y (OpY.pure rfl)) ?_
          refine Run.done ?_
          refine Run.goal ⟨(by repeat (first | exact Same.refl _ _ | refine Same.put rfl ?_ | refine Same.over rfl rfl ?_)), (i - 1, s4, cx l ((x2).toNat, (((x2 + 1) + x4) % (((N : Nat) : Int))).toNat), .slice A_ur21 N c_ur21), ?_, ?_, ?_, ?_⟩
          · exact ⟨by omega, by omega, by rw [cx_length]; exact hll, cx32 hl32 _⟩
          · show i - 1 < i; omega
          · exact ⟨(by show Value.int _ _ = Value.int _ _; congr 1; omega), trivial⟩
          · exact (((((Weak.front [.own (.slice A_ur21 N c_ur21) 3 1 N (ints (nl (cx l ((x2).toNat, (((x2 + 1) + x4) % (((N : Nat) : Int))).toNat))))] (.blk bc 84 [vc, .int .i64 (((s4.1 : Nat) : Int)), .int .u64 (s4.2)]) [.own vr 3 1 N (ints (nl l)), .blk b2 28 [.slice A_ur21 N c_ur21], .blk b1 28 [.slice none 0 0]]).trans (Weak.front [.blk bc 84 [vc, .int .i64 (((s4.1 : Nat) : Int)), .int .u64 (s4.2)], .own (.slice A_ur21 N c_ur21) 3 1 N (ints (nl (cx l ((x2).toNat, (((x2 + 1) + x4) % (((N : Nat) : Int))).toNat)))), .own vr 3 1 N (ints (nl l)), .blk b2 28 [.slice A_ur21 N c_ur21]] (.blk b1 28 [.slice none 0 0]) [])).trans (Weak.front [.blk b1 28 [.slice none 0 0], .blk bc 84 [vc, .int .i64 (((s4.1 : Nat) : Int)), .int .u64 (s4.2)], .own (.slice A_ur21 N c_ur21) 3 1 N (ints (nl (cx l ((x2).toNat, (((x2 + 1) + x4) % (((N : Nat) : Int))).toNat)))), .own vr 3 1 N (ints (nl l))] (.blk b2 28 [.slice A_ur21 N c_ur21]) [])).trans (Weak.front [.blk b2 28 [.slice A_ur21 N c_ur21], .blk b1 28 [.slice none 0 0], .blk bc 84 [vc, .int .i64 (((s4.1 : Nat) : Int)), .int .u64 (s4.2)]] (.own (.slice A_ur21 N c_ur21) 3 1 N (ints (nl (cx l ((x2).toNat, (((x2 + 1) + x4) % (((N : Nat) : Int))).toNat))))) [.own vr 3 1 N (ints (nl l))])).trans (Some'.weak (.takeEq (by first | rfl | simp) (.takeEq (by first | rfl | simp) (.take (.takeEq (by first | rfl | simp) (.nil _)))))))
      · have p17 := h17; try simp only [bs] at p17
        refine Run.exit rfl ?_
        refine Run.seq ?_
        refine Run.region ?_
        refine Run.q (v := .agg #[vr]) rfl (OpQ.y (OpY.loadN (cs := [vr]) Tagg_28 rfl (Cells.blk (.tail _ (List.Mem.head _)) ⟨rfl, trivial⟩))) ?_
        refine Run.formOwn (.head _) (fun A_vr1 c_vr1 hv hcapc_vr1 hmaxc_vr1 => ?_) (fun _ _ _ => ⟨nofun, nofun, nofun⟩)
        subst hv
        refine Run.step rfl (OpStep.storeAll (us := [.slice A_vr1 N c_vr1]) Tsize_28 rfl rfl rfl (.there _ (.there _ (.here _))) rfl ?_)
        refine Run.done ?_
        refine Run.ret ?_
        refine ⟨.agg #[.slice A_vr1 N c_vr1], [.own (.slice A_vr1 N c_vr1) 3 1 N (ints (nl l)), .blk bc 84 [vc, .int .i64 (((sc.1 : Nat) : Int)), .int .u64 (sc.2)]], Out.cell1 (cs := [.slice A_vr1 N c_vr1]) rfl Tagg_28 rfl (Cells.blk (.tail _ (.tail _ (List.Mem.head _))) ⟨rfl, trivial⟩), (Some'.weak (.take (.skip (.skip (.take (.nil _)))))), ?_⟩
        exact ⟨_, l, sc, ⟨hll, hl32, by omega⟩, rfl, rfl⟩
    · refine Run.q (v := .bool false) rfl (OpQ.y (OpY.moveB rfl h14)) ?_
      have p14 := h14; try simp only [bs] at p14
      refine Run.pass rfl ?_
      refine Run.pass rfl ?_
      refine Run.q (v := .bool false) rfl (OpQ.y (OpY.pure rfl)) ?_
      refine Run.done ?_
      refine Run.cond (b := false) rfl (fun h => nomatch h) (fun _ => ?_)
      refine Run.exit rfl ?_
      refine Run.seq ?_
      refine Run.region ?_
      refine Run.q (v := .agg #[vr]) rfl (OpQ.y (OpY.loadN (cs := [vr]) Tagg_28 rfl (Cells.blk (.tail _ (List.Mem.head _)) ⟨rfl, trivial⟩))) ?_
      refine Run.formOwn (.head _) (fun A_vr2 c_vr2 hv hcapc_vr2 hmaxc_vr2 => ?_) (fun _ _ _ => ⟨nofun, nofun, nofun⟩)
      subst hv
      refine Run.step rfl (OpStep.storeAll (us := [.slice A_vr2 N c_vr2]) Tsize_28 rfl rfl rfl (.there _ (.there _ (.here _))) rfl ?_)
      refine Run.done ?_
      refine Run.ret ?_
      refine ⟨.agg #[.slice A_vr2 N c_vr2], [.own (.slice A_vr2 N c_vr2) 3 1 N (ints (nl l)), .blk bc 84 [vc, .int .i64 (((sc.1 : Nat) : Int)), .int .u64 (sc.2)]], Out.cell1 (cs := [.slice A_vr2 N c_vr2]) rfl Tagg_28 rfl (Cells.blk (.tail _ (.tail _ (List.Mem.head _))) ⟨rfl, trivial⟩), (Some'.weak (.take (.skip (.skip (.take (.nil _)))))), ?_⟩
      exact ⟨_, l, sc, ⟨hll, hl32, by omega⟩, rfl, rfl⟩

set_option maxHeartbeats 1000000 in
set_option maxRecDepth 20000 in
theorem anyLinear_spec {bc n : Nat} {vc : Value} {cs : List Int} {s : Nat × Int} {w : World} (hat : s.1 < 2305843009212000000) (hc : Cur w bc vc n cs) (hst : St (Of [.blk bc 84 [vc, .int .i64 (((s.1 : Nat) : Int)), .int .u64 (s.2)]]) w w [.blk bc 84 [vc, .int .i64 (((s.1 : Nat) : Int)), .int .u64 (s.2)]]) : Calls Try.prog 85 #[.pointer (some ⟨bc, 0, none⟩)] w (Post (Of [.blk bc 84 [vc, .int .i64 (((s.1 : Nat) : Int)), .int .u64 (s.2)]]) w fun v H => ∃ (Au : Option Addr) (cu : Nat) (vb : Value) (n0 n1 : Nat) (x0 x1 : List Int) (s1 : Nat × Int), (n1 ≤ 6 ∧ x1.length = n1 ∧ s1.1 ≤ s.1 + 200 ∧ (∀ w', (Res.own vb 3 1 n0 (ints x0)).holds w' → Sl w' (.slice Au n1 cu) 1 n1 (ints x1))) ∧ v = .agg #[.slice Au n1 cu] ∧ H = [.own vb 3 1 n0 (ints x0), .blk bc 84 [vc, .int .i64 (s1.1 : Nat), .int .u64 s1.2]]) := by
  refine enter (n := 35) (args := [.pointer (some ⟨bc, 0, none⟩)]) Try.func85 rfl rfl (hst) ?_
  refine Run.seq ?_
  refine Run.region ?_
  refine Run.step rfl (OpStep.alloc (zs := [.slice none 0 0]) Tzero_28 fun b1 => ?_)
  refine Run.done ?_
  refine Run.seq ?_
  refine Run.region ?_
  refine Run.q (v := .pointer (some ⟨bc, 0, none⟩)) rfl (OpQ.y (OpY.pure rfl)) ?_
  refine Run.q (v := .pointer (some ⟨bc, 0, none⟩)) rfl (OpQ.y (OpY.pure rfl)) ?_
  refine Run.step rfl (OpStep.callM (H1 := [.blk bc 84 [vc, .int .i64 (((s.1 : Nat) : Int)), .int .u64 (s.2)]]) (H2 := [.blk b1 28 [.slice none 0 0]]) (vs := [.pointer (some ⟨bc, 0, none⟩), .int .i64 5]) (caps := []) Tcall_64 rfl rfl (Weak.front [.blk b1 28 [.slice none 0 0]] (.blk bc 84 [vc, .int .i64 (((s.1 : Nat) : Int)), .int .u64 (s.2)]) []) (fun w hs => pick_ex (by omega) (hc.go hs) (hs.sub (List.sublist_append_left _ _)).self) ?_)
  rintro _ _ ⟨x1, s1, hx1, hs1, rfl, rfl⟩
  show Run _ _ (putF _ _ _ (.int .i64 x1)) [.blk bc 84 [vc, .int .i64 (((s1.1 : Nat) : Int)), .int .u64 (s1.2)], .blk b1 28 [.slice none 0 0]]
  refine Run.q (v := .int .i64 (1 + x1)) rfl (OpQ.y (OpY.add rfl rfl rfl (by omega) (by omega))) ?_
  obtain ⟨N0, hN0⟩ : ∃ N0 : Nat, 1 + x1 = ((N0 : Nat) : Int) := ⟨(1 + x1).toNat, by omega⟩
  rw [hN0]
  refine Run.step rfl (OpStep.callM (H1 := [.blk bc 84 [vc, .int .i64 (((s1.1 : Nat) : Int)), .int .u64 (s1.2)]]) (H2 := [.blk b1 28 [.slice none 0 0]]) (vs := [.pointer (some ⟨bc, 0, none⟩), .int .i64 (((N0 : Nat) : Int))]) (caps := []) Tcall_86 rfl rfl (Weak.refl _) (fun w hs => linear_spec (by omega) (by omega) (hc.go hs) (hs.sub (List.sublist_append_left _ _)).self) ?_)
  rintro _ _ ⟨u0, l, sl, ⟨hll, hl32, hsl⟩, rfl, rfl⟩
  show Run _ _ (putF _ _ _ (.agg #[u0])) [.own u0 3 1 N0 (ints (nl l)), .blk bc 84 [vc, .int .i64 (((sl.1 : Nat) : Int)), .int .u64 (sl.2)], .blk b1 28 [.slice none 0 0]]
  have hnl := nl_length l
  refine Run.step rfl (OpStep.alloc (zs := [.slice none 0 0]) Tzero_28 fun b2 => ?_)
  refine Run.formOwn (.tail _ (List.Mem.head _)) (fun A_u01 c_u01 hv hcapc_u01 hmaxc_u01 => ?_) (fun _ _ _ => ⟨nofun, nofun, nofun⟩)
  subst hv
  refine Run.step rfl (OpStep.storeAll (us := [.slice A_u01 N0 c_u01]) Tsize_28 rfl rfl rfl (.here _) rfl ?_)
  refine Run.done ?_
  refine Run.seq ?_
  refine Run.seq ?_
  refine Run.region ?_
  refine Run.q (v := .pointer (some ⟨bc, 0, none⟩)) rfl (OpQ.y (OpY.pure rfl)) ?_
  refine Run.step rfl (OpStep.callM (H1 := [.blk bc 84 [vc, .int .i64 (((sl.1 : Nat) : Int)), .int .u64 (sl.2)]]) (H2 := [.blk b2 28 [.slice A_u01 N0 c_u01], .own (.slice A_u01 N0 c_u01) 3 1 N0 (ints (nl l)), .blk b1 28 [.slice none 0 0]]) (vs := [.pointer (some ⟨bc, 0, none⟩), .int .i64 12]) (caps := []) Tcall_64 rfl rfl (Weak.front [.blk b2 28 [.slice A_u01 N0 c_u01], .own (.slice A_u01 N0 c_u01) 3 1 N0 (ints (nl l))] (.blk bc 84 [vc, .int .i64 (((sl.1 : Nat) : Int)), .int .u64 (sl.2)]) [.blk b1 28 [.slice none 0 0]]) (fun w hs => pick_ex (by omega) (hc.go hs) (hs.sub (List.sublist_append_left _ _)).self) ?_)
  rintro _ _ ⟨x2, s2, hx2, hs2, rfl, rfl⟩
  show Run _ _ (putF _ _ _ (.int .i64 x2)) [.blk bc 84 [vc, .int .i64 (((s2.1 : Nat) : Int)), .int .u64 (s2.2)], .blk b2 28 [.slice A_u01 N0 c_u01], .own (.slice A_u01 N0 c_u01) 3 1 N0 (ints (nl l)), .blk b1 28 [.slice none 0 0]]
  refine Run.done ?_
  refine Run.block ?_
  refine Run.seq ?_
  refine Run.region ?_
  refine Run.q (v := .bool (x2 == 0)) rfl (OpQ.y (OpY.pure rfl)) ?_
  refine Run.q (v := .bool (x2 == 0)) rfl (OpQ.y (OpY.pure rfl)) ?_
  refine Run.done ?_
  refine Run.cond (b := x2 == 0) rfl (fun h11 => ?_) (fun h11 => ?_)
  · have p11 := h11; try simp only [bs] at p11
    refine Run.openOwn (.tail _ (.tail _ (List.Mem.head _))) (by omega) (fun gr cr hvgr hcapgr _ => ?_) (fun _ _ _ => ⟨nofun, nofun, nofun⟩)
    injection hvgr with hAgr _ hcgr; subst hAgr; subst hcgr
    refine Run.heldB (base := [.blk b2 28 [.slice (some ⟨gr, 0, none⟩) N0 c_u01], .blk b1 28 [.slice none 0 0]]) (by kernel_rfl) ?_
    refine DW.take (i := 0) (v := .pointer (some ⟨b2, 0, none⟩)) rfl (by kernel_rfl) (by kernel_rfl) (by kernel_rfl) (fun _ _ _ h => h) (Some'.weak (.skip (.take (.skip (.take (.nil _)))))) rfl (OpY.fieldAddr Tfo_28_0 rfl rfl) ?_
    refine DW.take (i := 1) (v := .slice (some ⟨gr, 0, none⟩) N0 c_u01) rfl (by kernel_rfl) (by kernel_rfl) (by kernel_rfl) (fun _ _ _ h => h) (Some'.weak (.skip (.take (.skip (.take (.nil _)))))) rfl (OpY.load1 Tone_22 rfl (Cells.blk (.head _) ⟨rfl, trivial⟩)) ?_
    refine DW.take (i := 2) (v := .pointer (some ⟨bc, 0, none⟩)) rfl (by kernel_rfl) (by kernel_rfl) (by kernel_rfl) (fun _ _ _ h => h) (Some'.weak (.skip (.take (.skip (.take (.nil _)))))) rfl (OpY.pure rfl) ?_
    refine DW.step (i := 3) (by kernel_rfl) rfl rfl (OpStep.buildSlice (us := [.int .i64 (-1), .int .i64 0, .int .i64 31, .int .i64 32, .int .i64 3]) Tsl_22 (by decide) (by decide) ⟨rfl, [.int .i64 (-1)], _, rfl, rfl, rfl, ⟨rfl, [.int .i64 0], _, rfl, rfl, rfl, ⟨rfl, [.int .i64 31], _, rfl, rfl, rfl, ⟨rfl, [.int .i64 32], _, rfl, rfl, rfl, ⟨rfl, [.int .i64 3], _, rfl, rfl, rfl, rfl⟩⟩⟩⟩⟩ rfl fun b3 => ?_)
    refine ⟨(Some'.weak (.skip (.skip (.take (.skip (.take (.nil _))))))), ?_⟩
    refine DW.step (i := 4) (by kernel_rfl) rfl rfl (OpStep.callM (H1 := [.blk bc 84 [vc, .int .i64 (((s2.1 : Nat) : Int)), .int .u64 (s2.2)], .own (.slice (some ⟨b3, 0, none⟩) 5 5) 3 1 5 (ints [-1, 0, 31, 32, 3])]) (H2 := [.blk b2 28 [.slice (some ⟨gr, 0, none⟩) N0 c_u01], .own (.slice (some ⟨gr, 0, none⟩) N0 c_u01) 3 1 N0 (ints (nl l)), .blk b1 28 [.slice none 0 0]]) (vs := [.pointer (some ⟨bc, 0, none⟩), .slice (some ⟨b3, 0, none⟩) 5 5]) (caps := []) Tcall_65 rfl rfl (Weak.front [.own (.slice (some ⟨b3, 0, none⟩) 5 5) 3 1 5 ([.int .i64 (-1), .int .i64 0, .int .i64 31, .int .i64 32, .int .i64 3])] (.blk bc 84 [vc, .int .i64 (((s2.1 : Nat) : Int)), .int .u64 (s2.2)]) [.blk b2 28 [.slice (some ⟨gr, 0, none⟩) N0 c_u01], .own (.slice (some ⟨gr, 0, none⟩) N0 c_u01) 3 1 N0 (ints (nl l)), .blk b1 28 [.slice none 0 0]]) (fun w hs => among_spec (by omega) (by decide) (hc.go hs) (hc.apart hs (.tail _ (.head _))) (hs.sub (List.sublist_append_left _ _)).self) ?_)
    rintro _ _ ⟨i1, s9, hi1, hs9, rfl, rfl⟩
    refine ⟨(Some'.weak (.skip (.take (.skip (.take (.nil _)))))), ?_⟩
    refine DW.take (i := 5) (v := .pointer (some ⟨gr, 0, none⟩)) rfl (by kernel_rfl) (by kernel_rfl) (by kernel_rfl) (fun _ _ _ h => h) (Some'.weak (.skip (.take (.skip (.take (.nil _)))))) rfl (OpY.index (kk := 0) Tsl_22 rfl rfl (by omega) (by omega) (by first | rfl | omega)) ?_
    refine DW.step (i := 6) (by kernel_rfl) rfl rfl (OpStep.storeOwnInt (o := 0) (a := ix [-1, 0, 31, 32, 3] i1) Tsize_3 rfl rfl (.there _ (.there _ (.here _))) (by first | omega | (simp; omega)) ?_)
    refine ⟨(Some'.weak (.skip (.take (.skip (.take (.nil _)))))), ?_⟩
    refine DW.done (by kernel_rfl) ?_
    refine Run.blockEnd ?_
    refine Run.seq ?_
    refine Run.region ?_
    refine Run.q (v := .agg #[.slice (some ⟨gr, 0, none⟩) N0 c_u01]) rfl (OpQ.y (OpY.loadN (cs := [.slice (some ⟨gr, 0, none⟩) N0 c_u01]) Tagg_28 rfl (Cells.blk (.tail _ (List.Mem.head _)) ⟨rfl, trivial⟩))) ?_
    refine Run.step rfl (OpStep.storeAll (us := [.slice (some ⟨gr, 0, none⟩) N0 c_u01]) Tsize_28 rfl rfl rfl (.there _ (.there _ (.there _ (.here _)))) rfl ?_)
    refine Run.done ?_
    refine Run.ret ?_
    refine ⟨.agg #[.slice (some ⟨gr, 0, none⟩) N0 c_u01], [.own (.slice (some ⟨gr, 0, none⟩) N0 c_u01) 3 1 N0 (ints ((nl l).set 0 (ix [-1, 0, 31, 32, 3] i1))), .blk bc 84 [vc, .int .i64 (((s9.1 : Nat) : Int)), .int .u64 (s9.2)]], Out.cell1 (cs := [.slice (some ⟨gr, 0, none⟩) N0 c_u01]) rfl Tagg_28 rfl (Cells.blk (.tail _ (.tail _ (.tail _ (List.Mem.head _)))) ⟨rfl, trivial⟩), ((Weak.front [.blk bc 84 [vc, .int .i64 (((s9.1 : Nat) : Int)), .int .u64 (s9.2)], .blk b2 28 [.slice (some ⟨gr, 0, none⟩) N0 c_u01]] (.own (.slice (some ⟨gr, 0, none⟩) N0 c_u01) 3 1 N0 (ints ((nl l).set 0 (ix [-1, 0, 31, 32, 3] i1)))) [.blk b1 28 [.slice (some ⟨gr, 0, none⟩) N0 c_u01]]).trans (Some'.weak (.take (.take (.nil _))))), ?_⟩
    exact ⟨_, _, _, _, _, _, _, _, ⟨by omega, by simp [hll], by omega, fun w' h => own_read h⟩, rfl, rfl⟩
  · have p11 := h11; try simp only [bs] at p11
    refine Run.seq ?_
    refine Run.region ?_
    refine Run.q (v := .bool (x2 == 1)) rfl (OpQ.y (OpY.pure rfl)) ?_
    refine Run.q (v := .bool (x2 == 1)) rfl (OpQ.y (OpY.pure rfl)) ?_
    refine Run.done ?_
    refine Run.cond (b := x2 == 1) rfl (fun h19 => ?_) (fun h19 => ?_)
    · have p19 := h19; try simp only [bs] at p19
      refine Run.heldB (base := [.blk b1 28 [.slice none 0 0]]) (by kernel_rfl) ?_
      refine DW.take (i := 0) (v := .pointer (some ⟨b2, 0, none⟩)) rfl (by kernel_rfl) (by kernel_rfl) (by kernel_rfl) (fun _ _ _ h => h) (Some'.weak (.skip (.skip (.skip (.take (.nil _)))))) rfl (OpY.fieldAddr Tfo_28_0 rfl rfl) ?_
      refine DW.take (i := 2) (v := .pointer (some ⟨bc, 0, none⟩)) rfl (by kernel_rfl) (by kernel_rfl) (by kernel_rfl) (fun _ _ _ h => h) (Some'.weak (.skip (.skip (.skip (.take (.nil _)))))) rfl (OpY.pure rfl) ?_
      refine DW.two (i := 1) (j := 3) (by kernel_rfl) rfl rfl rfl rfl ?_ ?_
      · refine OpStep.q (v := .slice A_u01 N0 c_u01) (OpQ.y (OpY.load1 Tone_22 rfl (Cells.blk (.tail _ (List.Mem.head _)) ⟨rfl, trivial⟩))) ?_
        refine ⟨(Some'.weak (.skip (.skip (.skip (.take (.nil _)))))), ?_⟩
        refine DW.step (i := 3) (by kernel_rfl) rfl rfl (OpStep.callM (H1 := [.blk bc 84 [vc, .int .i64 (((s2.1 : Nat) : Int)), .int .u64 (s2.2)]]) (H2 := [.blk b2 28 [.slice A_u01 N0 c_u01], .own (.slice A_u01 N0 c_u01) 3 1 N0 (ints (nl l)), .blk b1 28 [.slice none 0 0]]) (vs := [.pointer (some ⟨bc, 0, none⟩), .int .i64 70]) (caps := []) Tcall_64 rfl rfl (Weak.refl _) (fun w hs => pick_ex (by omega) (hc.go hs) (hs.sub (List.sublist_append_left _ _)).self) ?_)
        rintro _ _ ⟨x3, s3, hx3, hs3, rfl, rfl⟩
        refine ⟨(Some'.weak (.skip (.skip (.skip (.take (.nil _)))))), ?_⟩
        refine DW.step (i := 4) (by kernel_rfl) rfl rfl (OpStep.buildSlice (us := [.int .i64 x3]) Tsl_22 (by decide) (by decide) ⟨rfl, [.int .i64 x3], _, rfl, rfl, rfl, rfl⟩ rfl fun b4 => ?_)
        refine ⟨(Some'.weak (.skip (.skip (.skip (.skip (.take (.nil _))))))), ?_⟩
        refine DW.step (i := 5) (by kernel_rfl) rfl rfl (OpStep.append (H1 := [.own (.slice (some ⟨b4, 0, none⟩) 1 1) 3 1 1 ([.int .i64 x3]), .blk bc 84 [vc, .int .i64 (((s3.1 : Nat) : Int)), .int .u64 (s3.2)], .blk b2 28 [.slice A_u01 N0 c_u01]]) (H2 := [.blk b1 28 [.slice none 0 0]]) (v := .slice A_u01 N0 c_u01) (u := .slice (some ⟨b4, 0, none⟩) 1 1) (n := N0) (m := 1) (xs := ints (nl l)) (ys := [.int .i64 x3]) Tsl_22 (by decide) rfl rfl rfl rfl (fun w hs => hs.slOwn (.head _)) (by simp [Value.oneCell']) (by omega) (by simp only [maxLen]; omega) fun av1 hnav1 => ?_)
        refine DW.weakS (H' := [.own (.slice (some ⟨b4, 0, none⟩) 1 1) 3 1 1 ([.int .i64 x3]), .blk bc 84 [vc, .int .i64 (((s3.1 : Nat) : Int)), .int .u64 (s3.2)], .blk b2 28 [.slice A_u01 N0 c_u01], .own av1 3 1 (N0 + 1) (ints (nl l ++ [x3])), .blk b1 28 [.slice none 0 0]]) (Some'.weak (.take (.take (.take (.takeEq (by simp [ints]) (.take (.nil _))))))) ?_
        refine ⟨(Some'.weak (.skip (.skip (.skip (.skip (.take (.nil _))))))), ?_⟩
        refine DW.take (i := 6) (v := .pointer (some ⟨b2, 0, none⟩)) rfl (by kernel_rfl) (by kernel_rfl) (by kernel_rfl) (fun _ _ _ h => h) (Some'.weak (.skip (.skip (.skip (.skip (.take (.nil _))))))) rfl (OpY.fieldAddr Tfo_28_0 rfl rfl) ?_
        refine DW.formOwn (.tail _ (.tail _ (.tail _ (List.Mem.head _)))) (fun A_av11 c_av11 hv hcapc_av11 hmaxc_av11 => ?_)
        subst hv
        refine DW.step (i := 7) (by kernel_rfl) rfl rfl (OpStep.storeAll (us := [.slice A_av11 (N0 + 1) c_av11]) Tsize_22 rfl rfl rfl (.there _ (.there _ (.here _))) rfl ?_)
        refine ⟨(Some'.weak (.skip (.skip (.skip (.skip (.take (.nil _))))))), ?_⟩
        refine DW.done (by kernel_rfl) ?_
        refine Run.blockEnd ?_
        refine Run.seq ?_
        refine Run.region ?_
        refine Run.q (v := .agg #[.slice A_av11 (N0 + 1) c_av11]) rfl (OpQ.y (OpY.loadN (cs := [.slice A_av11 (N0 + 1) c_av11]) Tagg_28 rfl (Cells.blk (.tail _ (.tail _ (List.Mem.head _))) ⟨rfl, trivial⟩))) ?_
        refine Run.step rfl (OpStep.storeAll (us := [.slice A_av11 (N0 + 1) c_av11]) Tsize_28 rfl rfl rfl (.there _ (.there _ (.there _ (.there _ (.here _))))) rfl ?_)
        refine Run.done ?_
        refine Run.ret ?_
        refine ⟨.agg #[.slice A_av11 (N0 + 1) c_av11], [.own (.slice A_av11 (N0 + 1) c_av11) 3 1 (N0 + 1) (ints (nl l ++ [x3])), .blk bc 84 [vc, .int .i64 (((s3.1 : Nat) : Int)), .int .u64 (s3.2)]], Out.cell1 (cs := [.slice A_av11 (N0 + 1) c_av11]) rfl Tagg_28 rfl (Cells.blk (.tail _ (.tail _ (.tail _ (.tail _ (List.Mem.head _))))) ⟨rfl, trivial⟩), (((Weak.front [.own (.slice (some ⟨b4, 0, none⟩) 1 1) 3 1 1 ([.int .i64 x3])] (.blk bc 84 [vc, .int .i64 (((s3.1 : Nat) : Int)), .int .u64 (s3.2)]) [.blk b2 28 [.slice A_av11 (N0 + 1) c_av11], .own (.slice A_av11 (N0 + 1) c_av11) 3 1 (N0 + 1) (ints (nl l ++ [x3])), .blk b1 28 [.slice A_av11 (N0 + 1) c_av11]]).trans (Weak.front [.blk bc 84 [vc, .int .i64 (((s3.1 : Nat) : Int)), .int .u64 (s3.2)], .own (.slice (some ⟨b4, 0, none⟩) 1 1) 3 1 1 ([.int .i64 x3]), .blk b2 28 [.slice A_av11 (N0 + 1) c_av11]] (.own (.slice A_av11 (N0 + 1) c_av11) 3 1 (N0 + 1) (ints (nl l ++ [x3]))) [.blk b1 28 [.slice A_av11 (N0 + 1) c_av11]])).trans (Some'.weak (.take (.take (.nil _))))), ?_⟩
        exact ⟨_, _, _, _, _, _, _, _, ⟨by omega, by simp [hll], by omega, fun w' h => own_read h⟩, rfl, rfl⟩
      · refine OpStep.callM (H1 := [.blk bc 84 [vc, .int .i64 (((s2.1 : Nat) : Int)), .int .u64 (s2.2)]]) (H2 := [.blk b2 28 [.slice A_u01 N0 c_u01], .own (.slice A_u01 N0 c_u01) 3 1 N0 (ints (nl l)), .blk b1 28 [.slice none 0 0]]) (vs := [.pointer (some ⟨bc, 0, none⟩), .int .i64 70]) (caps := []) Tcall_64 rfl rfl (Weak.refl _) (fun w hs => pick_ex (by omega) (hc.go hs) (hs.sub (List.sublist_append_left _ _)).self) ?_
        rintro _ _ ⟨x4, s4, hx4, hs4, rfl, rfl⟩
        refine ⟨(Some'.weak (.skip (.skip (.skip (.take (.nil _)))))), ?_⟩
        refine DW.two (i := 1) (j := 4) (by kernel_rfl) rfl rfl rfl rfl ?_ ?_
        · refine OpStep.q (v := .slice A_u01 N0 c_u01) (OpQ.y (OpY.load1 Tone_22 rfl (Cells.blk (.tail _ (List.Mem.head _)) ⟨rfl, trivial⟩))) ?_
          refine ⟨(Some'.weak (.skip (.skip (.skip (.take (.nil _)))))), ?_⟩
          refine DW.step (i := 4) (by kernel_rfl) rfl rfl (OpStep.buildSlice (us := [.int .i64 x4]) Tsl_22 (by decide) (by decide) ⟨rfl, [.int .i64 x4], _, rfl, rfl, rfl, rfl⟩ rfl fun b5 => ?_)
          refine ⟨(Some'.weak (.skip (.skip (.skip (.skip (.take (.nil _))))))), ?_⟩
          refine DW.step (i := 5) (by kernel_rfl) rfl rfl (OpStep.append (H1 := [.own (.slice (some ⟨b5, 0, none⟩) 1 1) 3 1 1 ([.int .i64 x4]), .blk bc 84 [vc, .int .i64 (((s4.1 : Nat) : Int)), .int .u64 (s4.2)], .blk b2 28 [.slice A_u01 N0 c_u01]]) (H2 := [.blk b1 28 [.slice none 0 0]]) (v := .slice A_u01 N0 c_u01) (u := .slice (some ⟨b5, 0, none⟩) 1 1) (n := N0) (m := 1) (xs := ints (nl l)) (ys := [.int .i64 x4]) Tsl_22 (by decide) rfl rfl rfl rfl (fun w hs => hs.slOwn (.head _)) (by simp [Value.oneCell']) (by omega) (by simp only [maxLen]; omega) fun av2 hnav2 => ?_)
          refine DW.weakS (H' := [.own (.slice (some ⟨b5, 0, none⟩) 1 1) 3 1 1 ([.int .i64 x4]), .blk bc 84 [vc, .int .i64 (((s4.1 : Nat) : Int)), .int .u64 (s4.2)], .blk b2 28 [.slice A_u01 N0 c_u01], .own av2 3 1 (N0 + 1) (ints (nl l ++ [x4])), .blk b1 28 [.slice none 0 0]]) (Some'.weak (.take (.take (.take (.takeEq (by simp [ints]) (.take (.nil _))))))) ?_
          refine ⟨(Some'.weak (.skip (.skip (.skip (.skip (.take (.nil _))))))), ?_⟩
          refine DW.take (i := 6) (v := .pointer (some ⟨b2, 0, none⟩)) rfl (by kernel_rfl) (by kernel_rfl) (by kernel_rfl) (fun _ _ _ h => h) (Some'.weak (.skip (.skip (.skip (.skip (.take (.nil _))))))) rfl (OpY.fieldAddr Tfo_28_0 rfl rfl) ?_
          refine DW.formOwn (.tail _ (.tail _ (.tail _ (List.Mem.head _)))) (fun A_av21 c_av21 hv hcapc_av21 hmaxc_av21 => ?_)
          subst hv
          refine DW.step (i := 7) (by kernel_rfl) rfl rfl (OpStep.storeAll (us := [.slice A_av21 (N0 + 1) c_av21]) Tsize_22 rfl rfl rfl (.there _ (.there _ (.here _))) rfl ?_)
          refine ⟨(Some'.weak (.skip (.skip (.skip (.skip (.take (.nil _))))))), ?_⟩
          refine DW.done (by kernel_rfl) ?_
          refine Run.blockEnd ?_
          refine Run.seq ?_
          refine Run.region ?_
          refine Run.q (v := .agg #[.slice A_av21 (N0 + 1) c_av21]) rfl (OpQ.y (OpY.loadN (cs := [.slice A_av21 (N0 + 1) c_av21]) Tagg_28 rfl (Cells.blk (.tail _ (.tail _ (List.Mem.head _))) ⟨rfl, trivial⟩))) ?_
          refine Run.step rfl (OpStep.storeAll (us := [.slice A_av21 (N0 + 1) c_av21]) Tsize_28 rfl rfl rfl (.there _ (.there _ (.there _ (.there _ (.here _))))) rfl ?_)
          refine Run.done ?_
          refine Run.ret ?_
          refine ⟨.agg #[.slice A_av21 (N0 + 1) c_av21], [.own (.slice A_av21 (N0 + 1) c_av21) 3 1 (N0 + 1) (ints (nl l ++ [x4])), .blk bc 84 [vc, .int .i64 (((s4.1 : Nat) : Int)), .int .u64 (s4.2)]], Out.cell1 (cs := [.slice A_av21 (N0 + 1) c_av21]) rfl Tagg_28 rfl (Cells.blk (.tail _ (.tail _ (.tail _ (.tail _ (List.Mem.head _))))) ⟨rfl, trivial⟩), (((Weak.front [.own (.slice (some ⟨b5, 0, none⟩) 1 1) 3 1 1 ([.int .i64 x4])] (.blk bc 84 [vc, .int .i64 (((s4.1 : Nat) : Int)), .int .u64 (s4.2)]) [.blk b2 28 [.slice A_av21 (N0 + 1) c_av21], .own (.slice A_av21 (N0 + 1) c_av21) 3 1 (N0 + 1) (ints (nl l ++ [x4])), .blk b1 28 [.slice A_av21 (N0 + 1) c_av21]]).trans (Weak.front [.blk bc 84 [vc, .int .i64 (((s4.1 : Nat) : Int)), .int .u64 (s4.2)], .own (.slice (some ⟨b5, 0, none⟩) 1 1) 3 1 1 ([.int .i64 x4]), .blk b2 28 [.slice A_av21 (N0 + 1) c_av21]] (.own (.slice A_av21 (N0 + 1) c_av21) 3 1 (N0 + 1) (ints (nl l ++ [x4]))) [.blk b1 28 [.slice A_av21 (N0 + 1) c_av21]])).trans (Some'.weak (.take (.take (.nil _))))), ?_⟩
          exact ⟨_, _, _, _, _, _, _, _, ⟨by omega, by simp [hll], by omega, fun w' h => own_read h⟩, rfl, rfl⟩
        · refine OpStep.buildSlice (us := [.int .i64 x4]) Tsl_22 (by decide) (by decide) ⟨rfl, [.int .i64 x4], _, rfl, rfl, rfl, rfl⟩ rfl fun b6 => ?_
          refine ⟨(Some'.weak (.skip (.skip (.skip (.skip (.take (.nil _))))))), ?_⟩
          refine DW.step (i := 1) (by kernel_rfl) rfl rfl (OpStep.q (v := .slice A_u01 N0 c_u01) (OpQ.y (OpY.load1 Tone_22 rfl (Cells.blk (.tail _ (.tail _ (List.Mem.head _))) ⟨rfl, trivial⟩))) ?_)
          refine ⟨(Some'.weak (.skip (.skip (.skip (.skip (.take (.nil _))))))), ?_⟩
          refine DW.step (i := 5) (by kernel_rfl) rfl rfl (OpStep.append (H1 := [.own (.slice (some ⟨b6, 0, none⟩) 1 1) 3 1 1 ([.int .i64 x4]), .blk bc 84 [vc, .int .i64 (((s4.1 : Nat) : Int)), .int .u64 (s4.2)], .blk b2 28 [.slice A_u01 N0 c_u01]]) (H2 := [.blk b1 28 [.slice none 0 0]]) (v := .slice A_u01 N0 c_u01) (u := .slice (some ⟨b6, 0, none⟩) 1 1) (n := N0) (m := 1) (xs := ints (nl l)) (ys := [.int .i64 x4]) Tsl_22 (by decide) rfl rfl rfl rfl (fun w hs => hs.slOwn (.head _)) (by simp [Value.oneCell']) (by omega) (by simp only [maxLen]; omega) fun av3 hnav3 => ?_)
          refine DW.weakS (H' := [.own (.slice (some ⟨b6, 0, none⟩) 1 1) 3 1 1 ([.int .i64 x4]), .blk bc 84 [vc, .int .i64 (((s4.1 : Nat) : Int)), .int .u64 (s4.2)], .blk b2 28 [.slice A_u01 N0 c_u01], .own av3 3 1 (N0 + 1) (ints (nl l ++ [x4])), .blk b1 28 [.slice none 0 0]]) (Some'.weak (.take (.take (.take (.takeEq (by simp [ints]) (.take (.nil _))))))) ?_
          refine ⟨(Some'.weak (.skip (.skip (.skip (.skip (.take (.nil _))))))), ?_⟩
          refine DW.take (i := 6) (v := .pointer (some ⟨b2, 0, none⟩)) rfl (by kernel_rfl) (by kernel_rfl) (by kernel_rfl) (fun _ _ _ h => h) (Some'.weak (.skip (.skip (.skip (.skip (.take (.nil _))))))) rfl (OpY.fieldAddr Tfo_28_0 rfl rfl) ?_
          refine DW.formOwn (.tail _ (.tail _ (.tail _ (List.Mem.head _)))) (fun A_av31 c_av31 hv hcapc_av31 hmaxc_av31 => ?_)
          subst hv
          refine DW.step (i := 7) (by kernel_rfl) rfl rfl (OpStep.storeAll (us := [.slice A_av31 (N0 + 1) c_av31]) Tsize_22 rfl rfl rfl (.there _ (.there _ (.here _))) rfl ?_)
          refine ⟨(Some'.weak (.skip (.skip (.skip (.skip (.take (.nil _))))))), ?_⟩
          refine DW.done (by kernel_rfl) ?_
          refine Run.blockEnd ?_
          refine Run.seq ?_
          refine Run.region ?_
          refine Run.q (v := .agg #[.slice A_av31 (N0 + 1) c_av31]) rfl (OpQ.y (OpY.loadN (cs := [.slice A_av31 (N0 + 1) c_av31]) Tagg_28 rfl (Cells.blk (.tail _ (.tail _ (List.Mem.head _))) ⟨rfl, trivial⟩))) ?_
          refine Run.step rfl (OpStep.storeAll (us := [.slice A_av31 (N0 + 1) c_av31]) Tsize_28 rfl rfl rfl (.there _ (.there _ (.there _ (.there _ (.here _))))) rfl ?_)
          refine Run.done ?_
          refine Run.ret ?_
          refine ⟨.agg #[.slice A_av31 (N0 + 1) c_av31], [.own (.slice A_av31 (N0 + 1) c_av31) 3 1 (N0 + 1) (ints (nl l ++ [x4])), .blk bc 84 [vc, .int .i64 (((s4.1 : Nat) : Int)), .int .u64 (s4.2)]], Out.cell1 (cs := [.slice A_av31 (N0 + 1) c_av31]) rfl Tagg_28 rfl (Cells.blk (.tail _ (.tail _ (.tail _ (.tail _ (List.Mem.head _))))) ⟨rfl, trivial⟩), (((Weak.front [.own (.slice (some ⟨b6, 0, none⟩) 1 1) 3 1 1 ([.int .i64 x4])] (.blk bc 84 [vc, .int .i64 (((s4.1 : Nat) : Int)), .int .u64 (s4.2)]) [.blk b2 28 [.slice A_av31 (N0 + 1) c_av31], .own (.slice A_av31 (N0 + 1) c_av31) 3 1 (N0 + 1) (ints (nl l ++ [x4])), .blk b1 28 [.slice A_av31 (N0 + 1) c_av31]]).trans (Weak.front [.blk bc 84 [vc, .int .i64 (((s4.1 : Nat) : Int)), .int .u64 (s4.2)], .own (.slice (some ⟨b6, 0, none⟩) 1 1) 3 1 1 ([.int .i64 x4]), .blk b2 28 [.slice A_av31 (N0 + 1) c_av31]] (.own (.slice A_av31 (N0 + 1) c_av31) 3 1 (N0 + 1) (ints (nl l ++ [x4]))) [.blk b1 28 [.slice A_av31 (N0 + 1) c_av31]])).trans (Some'.weak (.take (.take (.nil _))))), ?_⟩
          exact ⟨_, _, _, _, _, _, _, _, ⟨by omega, by simp [hll], by omega, fun w' h => own_read h⟩, rfl, rfl⟩
    · have p19 := h19; try simp only [bs] at p19
      refine Run.seq ?_
      refine Run.region ?_
      refine Run.q (v := .bool (x2 == 2)) rfl (OpQ.y (OpY.pure rfl)) ?_
      refine Run.q (v := .bool (x2 == 2)) rfl (OpQ.y (OpY.pure rfl)) ?_
      refine Run.done ?_
      refine Run.cond (b := x2 == 2) rfl (fun h28 => ?_) (fun h28 => ?_)
      · have p28 := h28; try simp only [bs] at p28
        refine Run.openOwn (.tail _ (.tail _ (List.Mem.head _))) (by omega) (fun gr cr hvgr hcapgr _ => ?_) (fun _ _ _ => ⟨nofun, nofun, nofun⟩)
        injection hvgr with hAgr _ hcgr; subst hAgr; subst hcgr
        obtain ⟨A9, hA9⟩ : ∃ A9, (if c_u01 = 1 then some (⟨gr, 0, none⟩ : Addr) else (some (⟨gr, 0, none⟩ : Addr)).map (·.add (1 * 1))) = A9 := ⟨_, rfl⟩
        refine Run.region ?_
        refine Run.q (v := .pointer (some ⟨b2, 0, none⟩)) rfl (OpQ.y (OpY.fieldAddr Tfo_28_0 rfl rfl)) ?_
        refine Run.q (v := .slice (some ⟨gr, 0, none⟩) N0 c_u01) rfl (OpQ.y (OpY.load1 Tone_22 rfl (Cells.blk (.tail _ (List.Mem.head _)) ⟨rfl, trivial⟩))) ?_
        refine Run.q (v := .slice A9 (N0 - 1) (c_u01 - 1)) rfl (OpQ.y (OpY.sliceLE (l := 1) Tsl_22 rfl rfl rfl (by omega) hA9)) ?_
        refine Run.q (v := .pointer (some ⟨b2, 0, none⟩)) rfl (OpQ.y (OpY.fieldAddr Tfo_28_0 rfl rfl)) ?_
        refine Run.step rfl (OpStep.storeAll (us := [.slice A9 (N0 - 1) (c_u01 - 1)]) Tsize_22 rfl rfl rfl (.there _ (.here _)) rfl ?_)
        refine Run.done ?_
        refine Run.blockEnd ?_
        refine Run.seq ?_
        refine Run.region ?_
        refine Run.q (v := .agg #[.slice A9 (N0 - 1) (c_u01 - 1)]) rfl (OpQ.y (OpY.loadN (cs := [.slice A9 (N0 - 1) (c_u01 - 1)]) Tagg_28 rfl (Cells.blk (.tail _ (List.Mem.head _)) ⟨rfl, trivial⟩))) ?_
        refine Run.step rfl (OpStep.storeAll (us := [.slice A9 (N0 - 1) (c_u01 - 1)]) Tsize_28 rfl rfl rfl (.there _ (.there _ (.there _ (.here _)))) rfl ?_)
        refine Run.done ?_
        refine Run.ret ?_
        refine ⟨.agg #[.slice A9 (N0 - 1) (c_u01 - 1)], [.own (.slice (some ⟨gr, 0, none⟩) N0 c_u01) 3 1 N0 (ints (nl l)), .blk bc 84 [vc, .int .i64 (((s2.1 : Nat) : Int)), .int .u64 (s2.2)]], Out.cell1 (cs := [.slice A9 (N0 - 1) (c_u01 - 1)]) rfl Tagg_28 rfl (Cells.blk (.tail _ (.tail _ (.tail _ (List.Mem.head _)))) ⟨rfl, trivial⟩), ((Weak.front [.blk bc 84 [vc, .int .i64 (((s2.1 : Nat) : Int)), .int .u64 (s2.2)], .blk b2 28 [.slice A9 (N0 - 1) (c_u01 - 1)]] (.own (.slice (some ⟨gr, 0, none⟩) N0 c_u01) 3 1 N0 (ints (nl l))) [.blk b1 28 [.slice A9 (N0 - 1) (c_u01 - 1)]]).trans (Some'.weak (.take (.take (.nil _))))), ?_⟩
        exact ⟨_, _, _, _, _, _, _, _, ⟨by omega, by simp [hll], by omega, fun w' h => tail_read (by omega) hA9 h⟩, rfl, rfl⟩
      · have p28 := h28; try simp only [bs] at p28
        refine Run.skip ?_
        refine Run.blockEnd ?_
        refine Run.seq ?_
        refine Run.region ?_
        refine Run.q (v := .agg #[.slice A_u01 N0 c_u01]) rfl (OpQ.y (OpY.loadN (cs := [.slice A_u01 N0 c_u01]) Tagg_28 rfl (Cells.blk (.tail _ (List.Mem.head _)) ⟨rfl, trivial⟩))) ?_
        refine Run.step rfl (OpStep.storeAll (us := [.slice A_u01 N0 c_u01]) Tsize_28 rfl rfl rfl (.there _ (.there _ (.there _ (.here _)))) rfl ?_)
        refine Run.done ?_
        refine Run.ret ?_
        refine ⟨.agg #[.slice A_u01 N0 c_u01], [.own (.slice A_u01 N0 c_u01) 3 1 N0 (ints (nl l)), .blk bc 84 [vc, .int .i64 (((s2.1 : Nat) : Int)), .int .u64 (s2.2)]], Out.cell1 (cs := [.slice A_u01 N0 c_u01]) rfl Tagg_28 rfl (Cells.blk (.tail _ (.tail _ (.tail _ (List.Mem.head _)))) ⟨rfl, trivial⟩), ((Weak.front [.blk bc 84 [vc, .int .i64 (((s2.1 : Nat) : Int)), .int .u64 (s2.2)], .blk b2 28 [.slice A_u01 N0 c_u01]] (.own (.slice A_u01 N0 c_u01) 3 1 N0 (ints (nl l))) [.blk b1 28 [.slice A_u01 N0 c_u01]]).trans (Some'.weak (.take (.take (.nil _))))), ?_⟩
        exact ⟨_, _, _, _, _, _, _, _, ⟨by omega, by simp [hll], by omega, fun w' h => own_read h⟩, rfl, rfl⟩

set_option maxHeartbeats 1000000 in
set_option maxRecDepth 20000 in
theorem DrawValidLinear_spec {va : Value} {n : Nat} {cs : List Int} {w : World} (ha : Sl w va 1 n (u8s cs)) (hby : ∀ x ∈ cs, 0 ≤ x ∧ x < 256) : Calls Try.prog 58 #[va] w (Post No w fun v H => ∃ (Au : Option Addr) (cu : Nat) (vb : Value) (n0 n1 : Nat) (x0 x1 : List Int), (n1 ≤ 6 ∧ x1.length = n1 ∧ (∀ w', (Res.own vb 3 1 n0 (ints x0)).holds w' → Sl w' (.slice Au n1 cu) 1 n1 (ints x1))) ∧ v = .agg #[.slice Au n1 cu] ∧ H = [.own vb 3 1 n0 (ints x0)]) := by
  obtain ⟨Ac, cc, rfl, _, _⟩ := ha.form0
  refine enter (n := 9) (args := [.slice Ac n cc]) Try.func58 rfl rfl (St.empty _ _) ?_
  refine Run.seq ?_
  refine Run.region ?_
  refine Run.step rfl (OpStep.alloc (zs := [.slice none 0 0]) Tzero_28 fun b1 => ?_)
  refine Run.done ?_
  refine Run.seq ?_
  refine Run.region ?_
  refine Run.q (v := .slice Ac n cc) rfl (OpQ.y (OpY.pure rfl)) ?_
  refine Run.q (v := .agg #[.slice Ac n cc, .int .i64 0, .int .u64 0]) rfl (OpQ.y (OpY.build (cs := [.slice Ac n cc, .int .i64 0, .int .u64 0]) (by kernel_rfl))) ?_
  refine Run.step rfl (OpStep.box (us := [.slice Ac n cc, .int .i64 0, .int .u64 0]) rfl fun b2 => ?_)
  refine Run.q (v := .pointer (some ⟨b2, 0, none⟩)) rfl (OpQ.y (OpY.pure rfl)) ?_
  refine Run.done ?_
  refine Run.seq ?_
  refine Run.region ?_
  refine Run.q (v := .pointer (some ⟨b2, 0, none⟩)) rfl (OpQ.y (OpY.pure rfl)) ?_
  refine Run.step rfl (OpStep.callM (H1 := [.blk b2 84 [.slice Ac n cc, .int .i64 0, .int .u64 0]]) (H2 := [.blk b1 28 [.slice none 0 0]]) (vs := [.pointer (some ⟨b2, 0, none⟩)]) (caps := []) Tcall_85 rfl rfl (Weak.refl _) (fun w hs => anyLinear_spec (s := (0, 0)) (by decide) (Cur.top ha hby hs (.head _)) (hs.sub (List.sublist_append_left _ _)).self) ?_)
  rintro _ _ ⟨Au, cu, vb, n0, n1, x0, x1, sg, ⟨h6, h7, _, hrd⟩, rfl, rfl⟩
  show Run _ _ (putF _ _ _ (.agg #[.slice Au n1 cu])) [.own vb 3 1 n0 (ints x0), .blk b2 84 [.slice Ac n cc, .int .i64 (((sg.1 : Nat) : Int)), .int .u64 (sg.2)], .blk b1 28 [.slice none 0 0]]
  refine Run.step rfl (OpStep.storeAll (us := [.slice Au n1 cu]) Tsize_28 rfl rfl rfl (.there _ (.there _ (.here _))) rfl ?_)
  refine Run.done ?_
  refine Run.ret ?_
  refine ⟨.agg #[.slice Au n1 cu], [.own vb 3 1 n0 (ints x0)], Out.cell1 (cs := [.slice Au n1 cu]) rfl Tagg_28 rfl (Cells.blk (.tail _ (.tail _ (List.Mem.head _))) ⟨rfl, trivial⟩), (Some'.weak (.take (.nil _))), ?_⟩
  exact ⟨_, _, _, _, _, _, _, ⟨h6, h7, hrd⟩, rfl, rfl⟩

set_option maxHeartbeats 1000000 in
set_option maxRecDepth 20000 in
theorem DrawSynthesizeLinear_spec {va : Value} {n : Nat} {cs : List Int} {w : World} (ha : Sl w va 1 n (u8s cs)) (hby : ∀ x ∈ cs, 0 ≤ x ∧ x < 256) : Calls Try.prog 27 #[va] w (Post No w fun v H => ∃ (Au : Option Addr) (cu : Nat) (vb : Value) (n0 n1 : Nat) (x0 x1 : List Int), (n1 ≤ 6 ∧ x1.length = n1 ∧ (∀ w', (Res.own vb 3 1 n0 (ints x0)).holds w' → Sl w' (.slice Au n1 cu) 1 n1 (ints x1))) ∧ v = .agg #[.slice Au n1 cu] ∧ H = [.own vb 3 1 n0 (ints x0)]) := by
  refine enter (n := 5) (args := [va]) Try.func27 rfl rfl (St.empty _ _) ?_
  refine Run.seq ?_
  refine Run.region ?_
  refine Run.step rfl (OpStep.alloc (zs := [.slice none 0 0]) Tzero_28 fun b1 => ?_)
  refine Run.done ?_
  refine Run.seq ?_
  refine Run.region ?_
  refine Run.q (v := va) rfl (OpQ.y (OpY.pure rfl)) ?_
  refine Run.step rfl (OpStep.call (vs := [va]) (caps := []) Tcall_58 rfl rfl (fun w hs => DrawValidLinear_spec (hs.sl ha) hby) ?_)
  rintro _ _ ⟨Au, cu, vb, n0, n1, x0, x1, ⟨h6, h7, hrd⟩, rfl, rfl⟩
  show Run _ _ (putF _ _ _ (.agg #[.slice Au n1 cu])) [.own vb 3 1 n0 (ints x0), .blk b1 28 [.slice none 0 0]]
  refine Run.step rfl (OpStep.storeAll (us := [.slice Au n1 cu]) Tsize_28 rfl rfl rfl (.there _ (.here _)) rfl ?_)
  refine Run.done ?_
  refine Run.ret ?_
  refine ⟨.agg #[.slice Au n1 cu], [.own vb 3 1 n0 (ints x0)], Out.cell1 (cs := [.slice Au n1 cu]) rfl Tagg_28 rfl (Cells.blk (.tail _ (List.Mem.head _)) ⟨rfl, trivial⟩), (Some'.weak (.take (.nil _))), ?_⟩
  exact ⟨_, _, _, _, _, _, _, ⟨h6, h7, hrd⟩, rfl, rfl⟩

end Go.Proofs.Yteehfidjofcfmaa
