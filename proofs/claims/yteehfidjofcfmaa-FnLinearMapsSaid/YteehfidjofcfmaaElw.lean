/- Walks: circuits by elimination, of program and reference. -/
import Derived.Test.YteehfidjofcfmaaElm
import Derived.Test.YteehfidjofcfmaaCif
import Derived.Test.YteehfidjofcfmaaProg
set_option linter.unusedSimpArgs false
set_option linter.unusedVariables false
namespace Go.Proofs.Yteehfidjofcfmaa
open Go Go.RowKit
namespace ElwT
theorem Tagg_28 : aggOf Try.prog 28 = some 1 := by kernel_rfl
theorem Tagg_38 : aggOf Try.prog 38 = some 2 := by kernel_rfl
theorem Tagg_71 : aggOf Try.prog 71 = some 3 := by kernel_rfl
theorem Tcall_103 : callable Try.prog 103 = true := by kernel_rfl
theorem Tcall_109 : callable Try.prog 109 = true := by kernel_rfl
theorem Tcall_127 : callable Try.prog 127 = true := by kernel_rfl
theorem Tcall_35 : callable Try.prog 35 = true := by kernel_rfl
theorem Tcall_52 : callable Try.prog 52 = true := by kernel_rfl
theorem Tcall_59 : callable Try.prog 59 = true := by kernel_rfl
theorem Tcall_60 : callable Try.prog 60 = true := by kernel_rfl
theorem Tcall_61 : callable Try.prog 61 = true := by kernel_rfl
theorem Tcall_71 : callable Try.prog 71 = true := by kernel_rfl
theorem Tcall_92 : callable Try.prog 92 = true := by kernel_rfl
theorem Tcall_98 : callable Try.prog 98 = true := by kernel_rfl
theorem Tcall_99 : callable Try.prog 99 = true := by kernel_rfl
theorem Tfo_28_0 : fieldOff Try.prog 28 0 = some 0 := by kernel_rfl
theorem Tfo_38_1 : fieldOff Try.prog 38 1 = some 1 := by kernel_rfl
theorem Tint_96 : Try.prog.underlying 96 = some (.int .u64) := by kernel_rfl
theorem Tone_22 : oneOf Try.prog 22 = true := by kernel_rfl
theorem Tone_3 : oneOf Try.prog 3 = true := by kernel_rfl
theorem Tone_36 : oneOf Try.prog 36 = true := by kernel_rfl
theorem Tsize_22 : (Try.prog.info? 22).map (·.size) = some 1 := by kernel_rfl
theorem Tsize_28 : (Try.prog.info? 28).map (·.size) = some 1 := by kernel_rfl
theorem Tsize_3 : (Try.prog.info? 3).map (·.size) = some 1 := by kernel_rfl
theorem Tsize_36 : (Try.prog.info? 36).map (·.size) = some 1 := by kernel_rfl
theorem Tsize_38 : (Try.prog.info? 38).map (·.size) = some 2 := by kernel_rfl
theorem Tsize_71 : (Try.prog.info? 71).map (·.size) = some 3 := by kernel_rfl
theorem Tsl_22 : sliceOf Try.prog 22 = some (3, 1, 8, [.int .i64 0]) := by kernel_rfl
theorem Tsl_36 : sliceOf Try.prog 36 = some (71, 3, 24, [.int .i64 0, .int .i64 0, .int .i64 0]) := by kernel_rfl
theorem Tsome_3 : (Try.prog.underlying 3).isSome = true := by kernel_rfl
theorem Tzero_22 : zeroOf Try.prog 22 = some [.slice none 0 0] := by kernel_rfl
theorem Tzero_28 : zeroOf Try.prog 28 = some [.slice none 0 0] := by kernel_rfl
theorem Tzero_36 : zeroOf Try.prog 36 = some [.slice none 0 0] := by kernel_rfl
theorem Tzero_38 : zeroOf Try.prog 38 = some [.int .i64 0, .slice none 0 0] := by kernel_rfl
end ElwT
open ElwT

theorem ElI.facts {n : Nat} {m : List Nat} {s : List Nat × List (Nat × Nat)} (h : ElI n m s) (hl : m.length = n) (hb : ∀ i, nx m i < 2 ^ n) (h5 : n ≤ 5) : s.1.length = n ∧ (nl s.1).length = n ∧ ∀ i, nx s.1 i < 32 := by
  refine ⟨h.len hl, by rw [nl_length, h.len hl], fun i => ?_⟩
  have h1 : nx s.1 i < 2 ^ n := by rw [h.run]; exact cxs_lt s.2 m hb i
  have h2 : 2 ^ n ≤ 2 ^ 5 := Nat.pow_le_pow_right (by omega) h5
  exact Nat.lt_of_lt_of_le h1 h2
theorem elS_add {k j : Nat} {s : List Nat × List (Nat × Nat)} (h1 : k < j) (h2 : (nx (elS k s j).1 k).testBit k = false) (h3 : (nx (elS k s j).1 j).testBit k = true) : elS k s (j + 1) = addE (elS k s j) (j, k) := by rw [elS, if_pos ⟨⟨h1, h2⟩, h3⟩]
theorem elS_skip {k j : Nat} {s : List Nat × List (Nat × Nat)} (h3 : (nx (elS k s j).1 j).testBit k = false) : elS k s (j + 1) = elS k s j := by rw [elS, if_neg (by rw [h3]; simp)]
theorem elC_add {k j : Nat} {s : List Nat × List (Nat × Nat)} (h1 : j ≠ k) (h3 : (nx (elC k s j).1 j).testBit k = true) : elC k s (j + 1) = addE (elC k s j) (k, j) := by rw [elC, if_pos ⟨h1, h3⟩]
theorem elC_skip {k j : Nat} {s : List Nat × List (Nat × Nat)} (h3 : ¬ (j ≠ k ∧ (nx (elC k s j).1 j).testBit k = true)) : elC k s (j + 1) = elC k s j := by rw [elC, if_neg h3]
theorem bz0 {l : List Nat} {i k : Nat} : (ix (nl l) i >>> k % 2 == 0) = !(nx l i).testBit k := by
  rw [← bitI_nl, bitI]
  have h := Int.emod_two_eq (ix (nl l) i >>> k)
  rcases h with h | h <;> simp [h]
theorem bt1 {l : List Nat} {i k : Nat} (h : ix (nl l) i >>> k % 2 = 1) : (nx l i).testBit k = true := by rw [← bitI_nl]; exact bitI_true h
theorem bt0 {l : List Nat} {i k : Nat} (h : ix (nl l) i >>> k % 2 = 0) : (nx l i).testBit k = false := by rw [← bitI_nl]; exact bitI_false h
theorem bn0 {l : List Nat} {i k : Nat} (h : ¬ ix (nl l) i >>> k % 2 = 0) : (nx l i).testBit k = true := by rw [← bitI_nl]; exact bitI_ne h
theorem bn1 {l : List Nat} {i k : Nat} (h : ¬ ix (nl l) i >>> k % 2 = 1) : (nx l i).testBit k = false := by rw [← bitI_nl]; exact bitI_ne1 h

set_option maxHeartbeats 1000000 in
set_option maxRecDepth 20000 in
theorem elclo_spec {vg : Value} {bR bG gr cr n t u : Nat} {s : List Nat × List (Nat × Nat)} {w : World} (hsl : s.1.length = n) (hb : ∀ i, nx s.1 i < 32) (ht : t < n) (hu : u < n) (hn5 : n ≤ 5) (hg : s.2.length ≤ 1000) (h : St (Of [.blk bG 36 [vg], .blk bR 22 [.slice (some ⟨gr, 0, none⟩) n cr], .own (.slice (some ⟨gr, 0, none⟩) n cr) 3 1 n (ints (nl s.1)), .own vg 71 3 (s.2).length (ints (flCX (s.2)))]) w w [.blk bG 36 [vg], .blk bR 22 [.slice (some ⟨gr, 0, none⟩) n cr], .own (.slice (some ⟨gr, 0, none⟩) n cr) 3 1 n (ints (nl s.1)), .own vg 71 3 (s.2).length (ints (flCX (s.2)))]) : Calls Try.prog 127 #[.int .i64 (u : Nat), .int .i64 (t : Nat), .pointer (some ⟨bR, 0, none⟩), .pointer (some ⟨bG, 0, none⟩)] w (Post (Of [.blk bG 36 [vg], .blk bR 22 [.slice (some ⟨gr, 0, none⟩) n cr], .own (.slice (some ⟨gr, 0, none⟩) n cr) 3 1 n (ints (nl s.1)), .own vg 71 3 (s.2).length (ints (flCX (s.2)))]) w fun v H => ∃ b, v = .tuple #[] ∧ H = [.blk bG 36 [b], .blk bR 22 [.slice (some ⟨gr, 0, none⟩) n cr], .own (.slice (some ⟨gr, 0, none⟩) n cr) 3 1 n (ints (nl (addE s (u, t)).1)), .own b 71 3 ((addE s (u, t)).2).length (ints (flCX ((addE s (u, t)).2)))]) := by
  have hnl := nl_length s.1
  have hbt := hb t
  have hbu := hb u
  refine enter (n := 22) (args := [.int .i64 (((u : Nat) : Int)), .int .i64 (((t : Nat) : Int)), .pointer (some ⟨bR, 0, none⟩), .pointer (some ⟨bG, 0, none⟩)]) Try.func127 rfl rfl (h) ?_
  refine Run.seq ?_
  refine Run.lastly [10] (by kernel_rfl) ?_
  refine DL.take (i := 0) (v := .slice (some ⟨gr, 0, none⟩) n cr) rfl (by kernel_rfl) (by kernel_rfl) (by kernel_rfl) (by kernel_rfl) (fun _ _ _ h => h) (Some'.weak (.take (.take (.take (.take (.nil _)))))) rfl (OpY.load1 Tone_22 rfl (Cells.blk (.tail _ (List.Mem.head _)) ⟨rfl, trivial⟩)) ?_
  refine DL.takeP (i := 1) (v := .int .i64 (((t : Nat) : Int))) rfl (by kernel_rfl) (by kernel_rfl) (by kernel_rfl) (fun _ _ _ h => h) rfl (fun _ => OpY.pure rfl) ?_
  refine DL.takeP (i := 2) (v := .pointer (some ⟨gr, t, none⟩)) rfl (by kernel_rfl) (by kernel_rfl) (by kernel_rfl) (fun _ _ _ h => h) rfl (fun _ => OpY.index (kk := t) Tsl_22 rfl rfl (by omega) (by omega) (by first | rfl | omega)) ?_
  refine DL.take (i := 3) (v := .int .i64 (ix (nl s.1) (t))) rfl (by kernel_rfl) (by kernel_rfl) (by kernel_rfl) (by kernel_rfl) (fun _ _ _ h => h) (Some'.weak (.take (.take (.take (.take (.nil _)))))) rfl (OpY.load1 Tone_3 rfl (Cells.own0 (.tail _ (.tail _ (List.Mem.head _))) (pre1 (by omega)))) ?_
  refine DL.take (i := 4) (v := .slice (some ⟨gr, 0, none⟩) n cr) rfl (by kernel_rfl) (by kernel_rfl) (by kernel_rfl) (by kernel_rfl) (fun _ _ _ h => h) (Some'.weak (.take (.take (.take (.take (.nil _)))))) rfl (OpY.load1 Tone_22 rfl (Cells.blk (.tail _ (List.Mem.head _)) ⟨rfl, trivial⟩)) ?_
  refine DL.takeP (i := 5) (v := .int .i64 (((u : Nat) : Int))) rfl (by kernel_rfl) (by kernel_rfl) (by kernel_rfl) (fun _ _ _ h => h) rfl (fun _ => OpY.pure rfl) ?_
  refine DL.takeP (i := 6) (v := .pointer (some ⟨gr, u, none⟩)) rfl (by kernel_rfl) (by kernel_rfl) (by kernel_rfl) (fun _ _ _ h => h) rfl (fun _ => OpY.index (kk := u) Tsl_22 rfl rfl (by omega) (by omega) (by first | rfl | omega)) ?_
  refine DL.take (i := 7) (v := .int .i64 (ix (nl s.1) (u))) rfl (by kernel_rfl) (by kernel_rfl) (by kernel_rfl) (by kernel_rfl) (fun _ _ _ h => h) (Some'.weak (.take (.take (.take (.take (.nil _)))))) rfl (OpY.load1 Tone_3 rfl (Cells.own0 (.tail _ (.tail _ (List.Mem.head _))) (pre1 (by omega)))) ?_
  refine DL.takeP (i := 8) (v := .int .i64 (((nx s.1 t ^^^ nx s.1 u : Nat) : Int))) rfl (by kernel_rfl) (by kernel_rfl) (by kernel_rfl) (fun _ _ _ h => h) rfl (fun _ => OpY.xorNat rfl rfl (ix_nl _ _) (ix_nl _ _) (by omega) (by omega)) ?_
  refine DL.takeP (i := 9) (v := .pointer (some ⟨gr, t, none⟩)) rfl (by kernel_rfl) (by kernel_rfl) (by kernel_rfl) (fun _ _ _ h => h) rfl (fun _ => OpY.index (kk := t) Tsl_22 rfl rfl (by omega) (by omega) (by first | rfl | omega)) ?_
  refine DL.step (i := 10) (by kernel_rfl) (by kernel_rfl) rfl rfl (OpStep.storeOwnInt (o := t) (a := ((nx s.1 t ^^^ nx s.1 u : Nat) : Int)) Tsize_3 rfl rfl (.there _ (.there _ (.here _))) (by omega) ?_)
  refine DL.done (by kernel_rfl) ?_
  refine Run.region ?_
  refine Run.q (v := vg) rfl (OpQ.y (OpY.load1 Tone_36 rfl (Cells.blk (.head _) ⟨rfl, trivial⟩))) ?_
  refine Run.q (v := .int .i64 (((u : Nat) : Int))) rfl (OpQ.y (OpY.pure rfl)) ?_
  refine Run.q (v := .int .i64 (((t : Nat) : Int))) rfl (OpQ.y (OpY.pure rfl)) ?_
  refine Run.q (v := .agg #[.int .i64 9, .int .i64 (((u : Nat) : Int)), .int .i64 (((t : Nat) : Int))]) rfl (OpQ.y (OpY.build (cs := [.int .i64 9, .int .i64 (((u : Nat) : Int)), .int .i64 (((t : Nat) : Int))]) (by kernel_rfl))) ?_
  refine Run.step rfl (OpStep.buildSlice (us := [.int .i64 9, .int .i64 (((u : Nat) : Int)), .int .i64 (((t : Nat) : Int))]) Tsl_36 (by decide) (by decide) ⟨rfl, [.int .i64 9, .int .i64 (((u : Nat) : Int)), .int .i64 (((t : Nat) : Int))], _, rfl, rfl, rfl, rfl⟩ rfl fun b1 => ?_)
  refine Run.step rfl (OpStep.append (H1 := [.own (.slice (some ⟨b1, 0, none⟩) 1 1) 71 3 1 ([.int .i64 9, .int .i64 (((u : Nat) : Int)), .int .i64 (((t : Nat) : Int))]), .blk bG 36 [vg], .blk bR 22 [.slice (some ⟨gr, 0, none⟩) n cr], .own (.slice (some ⟨gr, 0, none⟩) n cr) 3 1 n (ints ((nl s.1).set t (((nx s.1 t ^^^ nx s.1 u : Nat) : Int))))]) (H2 := []) (v := vg) (u := .slice (some ⟨b1, 0, none⟩) 1 1) (n := (s.2).length) (m := 1) (xs := ints (flCX (s.2))) (ys := [.int .i64 9, .int .i64 (((u : Nat) : Int)), .int .i64 (((t : Nat) : Int))]) Tsl_36 (by decide) rfl rfl rfl rfl (fun w hs => hs.slOwn (.head _)) (by simp [Value.oneCell']) (by omega) (by simp only [maxLen]; omega) fun av1 hnav1 => ?_)
  refine Run.weak (H' := [.own (.slice (some ⟨b1, 0, none⟩) 1 1) 71 3 1 ([.int .i64 9, .int .i64 (((u : Nat) : Int)), .int .i64 (((t : Nat) : Int))]), .blk bG 36 [vg], .blk bR 22 [.slice (some ⟨gr, 0, none⟩) n cr], .own (.slice (some ⟨gr, 0, none⟩) n cr) 3 1 n (ints ((nl s.1).set t (((nx s.1 t ^^^ nx s.1 u : Nat) : Int)))), .own av1 71 3 (((addE s (u, t)).2).length) (ints (flCX ((addE s (u, t)).2)))]) (Some'.weak (.take (.take (.take (.take (.takeEq (by rw [show (addE s (u, t)).2 = s.2 ++ [(u, t)] from rfl, ← ints_flCX]; simp) (.nil _))))))) ?_ ⟨_, _, rfl, fun _ => nofun, fun _ => nofun⟩
  refine Run.formOwn (.tail _ (.tail _ (.tail _ (.tail _ (List.Mem.head _))))) (fun A_av11 c_av11 hv hcapc_av11 hmaxc_av11 => ?_) (fun _ _ _ => ⟨nofun, nofun, nofun⟩)
  subst hv
  refine Run.step rfl (OpStep.storeAll (us := [.slice A_av11 (((addE s (u, t)).2).length) c_av11]) Tsize_36 rfl rfl rfl (.there _ (.here _)) rfl ?_)
  refine Run.done ?_
  refine Run.fin ?_
  refine ⟨.tuple #[], [.blk bG 36 [.slice A_av11 (((addE s (u, t)).2).length) c_av11], .blk bR 22 [.slice (some ⟨gr, 0, none⟩) n cr], .own (.slice (some ⟨gr, 0, none⟩) n cr) 3 1 n (ints (nl (addE s (u, t)).1)), .own (.slice A_av11 (((addE s (u, t)).2).length) c_av11) 71 3 (((addE s (u, t)).2).length) (ints (flCX ((addE s (u, t)).2)))], Out.none rfl, (Some'.weak (.skip (.take (.take (.takeEq (by first | rfl | (rw [nl_set]; rfl)) (.take (.nil _))))))), ?_⟩
  exact ⟨_, rfl, rfl⟩

set_option maxHeartbeats 2000000 in
set_option maxRecDepth 20000 in
theorem eliminated_spec {va : Value} {n : Nat} {r : List Nat} {w : World} (hl : r.length = n) (h1 : 1 ≤ n) (h5 : n ≤ 5) (hb : ∀ i, nx r i < 2 ^ n) (ha : Sl w va 1 n (ints (nl r))) : Calls Try.prog 98 #[.agg #[va]] w (Post No w fun v H => H = [.own v 71 3 (elW n r).length (ints (flCX (elW n r)))]) := by
  have hnl := nl_length r
  refine enter (n := 74) (args := [.agg #[va]]) Try.func98 rfl rfl (St.empty _ _) ?_
  refine Run.seq ?_
  refine Run.region ?_
  refine Run.step rfl (OpStep.box (us := [va]) rfl fun b1 => ?_)
  refine Run.q (v := .slice none 0 0) rfl (OpQ.y (OpY.pure rfl)) ?_
  refine Run.done ?_
  refine Run.seq ?_
  refine Run.region ?_
  refine Run.q (v := .pointer (some ⟨b1, 0, none⟩)) rfl (OpQ.y (OpY.fieldAddr Tfo_28_0 rfl rfl)) ?_
  refine Run.q (v := va) rfl (OpQ.y (OpY.load1 Tone_22 rfl (Cells.blk (.head _) ⟨rfl, trivial⟩))) ?_
  refine Run.step rfl (OpStep.call (vs := [va]) (caps := []) Tcall_109 rfl rfl (fun w hs => CloneInt_spec (by omega) (by omega) (hs.sl ha)) ?_)
  rintro uo _ rfl
  show Run _ _ (putF _ _ _ uo) [.own uo 3 1 n (ints (nl r)), .blk b1 28 [va]]
  refine Run.step rfl (OpStep.buildSlice (us := []) Tsl_36 (by decide) (by decide) rfl rfl fun b2 => ?_)
  refine Run.step rfl (OpStep.alloc (zs := [.slice none 0 0]) Tzero_22 fun b3 => ?_)
  refine Run.step rfl (OpStep.alloc (zs := [.slice none 0 0]) Tzero_36 fun b4 => ?_)
  refine Run.formOwn (.tail _ (.tail _ (.tail _ (List.Mem.head _)))) (fun A_uo1 c_uo1 hv hcapc_uo1 hmaxc_uo1 => ?_) (fun _ _ _ => ⟨nofun, nofun, nofun⟩)
  subst hv
  refine Run.step rfl (OpStep.storeAll (us := [.slice A_uo1 n c_uo1]) Tsize_22 rfl rfl rfl (.there _ (.here _)) rfl ?_)
  refine Run.step rfl (OpStep.storeAll (us := [.slice (some ⟨b2, 0, none⟩) 0 0]) Tsize_36 rfl rfl rfl (.here _) rfl ?_)
  refine Run.done ?_
  refine Run.seq ?_
  refine Run.region ?_
  refine Run.q (v := .func (.func 127) #[] #[.pointer (some ⟨b3, 0, none⟩), .pointer (some ⟨b4, 0, none⟩)]) rfl (OpQ.y (OpY.makeFunc (caps := [.pointer (some ⟨b3, 0, none⟩), .pointer (some ⟨b4, 0, none⟩)]) rfl)) ?_
  refine Run.q (v := .func (.func 127) #[] #[.pointer (some ⟨b3, 0, none⟩), .pointer (some ⟨b4, 0, none⟩)]) rfl (OpQ.y (OpY.pure rfl)) ?_
  refine Run.done ?_
  refine Run.seq ?_
  refine Run.seq ?_
  refine Run.openOwn (.tail _ (.tail _ (.tail _ (List.Mem.head _)))) (by omega) (fun gr cr hvgr hcapgr _ => ?_) (fun _ _ _ => ⟨nofun, nofun, nofun⟩)
  injection hvgr with hAgr _ hcgr; subst hAgr; subst hcgr
  refine Run.region ?_
  refine Run.q (v := .slice (some ⟨gr, 0, none⟩) n c_uo1) rfl (OpQ.y (OpY.load1 Tone_22 rfl (Cells.blk (.tail _ (List.Mem.head _)) ⟨rfl, trivial⟩))) ?_
  refine Run.q (v := .int .i64 (((n : Nat) : Int))) rfl (OpQ.y (OpY.len Tsl_22 rfl)) ?_
  refine Run.q (v := .int .i64 0) rfl (OpQ.y (OpY.pure rfl)) ?_
  refine Run.done ?_
  refine Run.block ?_
  refine Run.loop (ι := Nat × Value) ([6, 7, 8, 16, 17, 18, 19, 20, 21, 22, 23, 24, 25, 26, 27, 28, 29, 30, 31, 32, 33, 34, 35, 36, 37, 38, 39, 40, 41, 42, 43, 44, 45, 46, 47, 48, 49, 50, 51, 52, 53, 54, 55, 56, 57, 58, 59, 60, 61, 62] ++ [63, 64, 65, 66, 67, 68, 69, 70, 71, 72]) (fun ⟨k, vo⟩ => [(16, .int .i64 (((k : Nat) : Int)))]) (fun ⟨k, vo⟩ => [.own vo 71 3 (((elQ n r k).2).length) (ints (flCX ((elQ n r k).2))), .own (.slice (some ⟨gr, 0, none⟩) n c_uo1) 3 1 n (ints (nl (elQ n r k).1)), .blk b4 36 [vo], .blk b3 22 [.slice (some ⟨gr, 0, none⟩) n c_uo1], .blk b1 28 [va]]) (fun ⟨k, vo⟩ => k ≤ n) (fun ⟨k, vo⟩ => n - k) (0, .slice (some ⟨b2, 0, none⟩) 0 0) ?_ ?_ ?_ ?_
  · exact Nat.zero_le _
  · exact ⟨rfl, trivial⟩
  · exact ((((((Weak.front [.blk b4 36 [.slice (some ⟨b2, 0, none⟩) 0 0], .blk b3 22 [.slice (some ⟨gr, 0, none⟩) n c_uo1], .own (.slice (some ⟨b2, 0, none⟩) 0 0) 71 3 0 ([]), .own (.slice (some ⟨gr, 0, none⟩) n c_uo1) 3 1 n (ints (nl r))] (.blk b1 28 [va]) []).trans (Weak.front [.blk b1 28 [va], .blk b4 36 [.slice (some ⟨b2, 0, none⟩) 0 0]] (.blk b3 22 [.slice (some ⟨gr, 0, none⟩) n c_uo1]) [.own (.slice (some ⟨b2, 0, none⟩) 0 0) 71 3 0 ([]), .own (.slice (some ⟨gr, 0, none⟩) n c_uo1) 3 1 n (ints (nl r))])).trans (Weak.front [.blk b3 22 [.slice (some ⟨gr, 0, none⟩) n c_uo1], .blk b1 28 [va]] (.blk b4 36 [.slice (some ⟨b2, 0, none⟩) 0 0]) [.own (.slice (some ⟨b2, 0, none⟩) 0 0) 71 3 0 ([]), .own (.slice (some ⟨gr, 0, none⟩) n c_uo1) 3 1 n (ints (nl r))])).trans (Weak.front [.blk b4 36 [.slice (some ⟨b2, 0, none⟩) 0 0], .blk b3 22 [.slice (some ⟨gr, 0, none⟩) n c_uo1], .blk b1 28 [va], .own (.slice (some ⟨b2, 0, none⟩) 0 0) 71 3 0 ([])] (.own (.slice (some ⟨gr, 0, none⟩) n c_uo1) 3 1 n (ints (nl r))) [])).trans (Weak.front [.own (.slice (some ⟨gr, 0, none⟩) n c_uo1) 3 1 n (ints (nl r)), .blk b4 36 [.slice (some ⟨b2, 0, none⟩) 0 0], .blk b3 22 [.slice (some ⟨gr, 0, none⟩) n c_uo1], .blk b1 28 [va]] (.own (.slice (some ⟨b2, 0, none⟩) 0 0) 71 3 0 ([])) [])).trans (Some'.weak (.takeEq (by first | rfl | (rw [hQ]; done) | (rw [hQ]; rfl) | simp [elQ, flCX, ints]) (.takeEq (by first | rfl | (rw [hQ]; done) | (rw [hQ]; rfl) | simp [elQ, flCX, ints]) (.takeEq (by first | rfl | (rw [hQ]; done) | (rw [hQ]; rfl) | simp [elQ, flCX, ints]) (.take (.take (.nil _))))))))
  · rintro ⟨k, vo⟩ fr hinv
    show Run _ _ (over _ _ [(16, .int .i64 (((k : Nat) : Int)))] fr) [.own vo 71 3 (((elQ n r k).2).length) (ints (flCX ((elQ n r k).2))), .own (.slice (some ⟨gr, 0, none⟩) n c_uo1) 3 1 n (ints (nl (elQ n r k).1)), .blk b4 36 [vo], .blk b3 22 [.slice (some ⟨gr, 0, none⟩) n c_uo1], .blk b1 28 [va]]
    try dsimp only at hinv
    refine Run.seq ?_
    refine Run.region ?_
    refine Run.q (v := .bool (decide ((((k : Nat) : Int)) < (((n : Nat) : Int))))) rfl (OpQ.y (OpY.pure rfl)) ?_
    refine Run.done ?_
    refine Run.seq ?_
    refine Run.cond (b := decide ((((k : Nat) : Int)) < (((n : Nat) : Int)))) rfl (fun h17 => ?_) (fun h17 => ?_)
    · have p17 := h17; try simp only [bs] at p17
      have hkn : k < n := by omega
      have hf1 := (elQ_ok (m := r) k (by omega)).facts hl hb h5
      have hlen1 := elQ_len n r k
      have hm50 : k * (2 * n) ≤ 50 := Nat.le_trans (Nat.mul_le_mul (show k ≤ 5 by omega) (Nat.mul_le_mul (Nat.le_refl 2) h5)) (by decide)
      refine Run.skip ?_
      refine Run.seq ?_
      refine Run.block ?_
      refine Run.seq ?_
      refine Run.region ?_
      refine Run.q (v := .int .i64 (((k : Nat) : Int))) rfl (OpQ.y (OpY.pure rfl)) ?_
      refine Run.q (v := .int .i64 (((k : Nat) : Int))) rfl (OpQ.y (OpY.pure rfl)) ?_
      refine Run.done ?_
      refine Run.seq ?_
      refine Run.seq ?_
      refine Run.region ?_
      refine Run.q (v := .int .i64 (((k : Nat) : Int))) rfl (OpQ.y (OpY.pure rfl)) ?_
      refine Run.q (v := .int .i64 (((k + 1 : Nat) : Int))) rfl (OpQ.y (OpY.add rfl rfl (by omega) (by omega) (by omega))) ?_
      refine Run.q (v := .int .i64 (((k + 1 : Nat) : Int))) rfl (OpQ.y (OpY.pure rfl)) ?_
      refine Run.done ?_
      refine Run.block ?_
      have hS0 : elS k (elQ n r k) (k + 1) = elQ n r k := elS_low _ (Nat.le_refl _)
      refine Run.loop (ι := Nat × Value) [7, 21, 22, 23, 24, 25, 26, 27, 28, 29, 30, 31, 32, 33, 34, 35, 36, 37, 38, 39, 40, 41, 42, 43, 44, 45, 46, 47, 48] (fun ⟨i, vo⟩ => [(7, .int .i64 (((i : Nat) : Int)))]) (fun ⟨i, vo⟩ => [.own vo 71 3 (((elS k (elQ n r k) i).2).length) (ints (flCX ((elS k (elQ n r k) i).2))), .own (.slice (some ⟨gr, 0, none⟩) n c_uo1) 3 1 n (ints (nl (elS k (elQ n r k) i).1)), .blk b4 36 [vo], .blk b3 22 [.slice (some ⟨gr, 0, none⟩) n c_uo1], .blk b1 28 [va]]) (fun ⟨i, vo⟩ => k + 1 ≤ i ∧ i ≤ n) (fun ⟨i, vo⟩ => n - i) (k + 1, vo) ?_ ?_ ?_ ?_
      · exact ⟨Nat.le_refl _, (show k + 1 ≤ n by omega)⟩
      · exact ⟨rfl, trivial⟩
      · exact ((((((Weak.front [.own vo 71 3 (((elQ n r k).2).length) (ints (flCX ((elQ n r k).2))), .own (.slice (some ⟨gr, 0, none⟩) n c_uo1) 3 1 n (ints (nl (elQ n r k).1)), .blk b4 36 [vo], .blk b3 22 [.slice (some ⟨gr, 0, none⟩) n c_uo1]] (.blk b1 28 [va]) []).trans (Weak.front [.blk b1 28 [va], .own vo 71 3 (((elQ n r k).2).length) (ints (flCX ((elQ n r k).2))), .own (.slice (some ⟨gr, 0, none⟩) n c_uo1) 3 1 n (ints (nl (elQ n r k).1)), .blk b4 36 [vo]] (.blk b3 22 [.slice (some ⟨gr, 0, none⟩) n c_uo1]) [])).trans (Weak.front [.blk b3 22 [.slice (some ⟨gr, 0, none⟩) n c_uo1], .blk b1 28 [va], .own vo 71 3 (((elQ n r k).2).length) (ints (flCX ((elQ n r k).2))), .own (.slice (some ⟨gr, 0, none⟩) n c_uo1) 3 1 n (ints (nl (elQ n r k).1))] (.blk b4 36 [vo]) [])).trans (Weak.front [.blk b4 36 [vo], .blk b3 22 [.slice (some ⟨gr, 0, none⟩) n c_uo1], .blk b1 28 [va], .own vo 71 3 (((elQ n r k).2).length) (ints (flCX ((elQ n r k).2)))] (.own (.slice (some ⟨gr, 0, none⟩) n c_uo1) 3 1 n (ints (nl (elQ n r k).1))) [])).trans (Weak.front [.own (.slice (some ⟨gr, 0, none⟩) n c_uo1) 3 1 n (ints (nl (elQ n r k).1)), .blk b4 36 [vo], .blk b3 22 [.slice (some ⟨gr, 0, none⟩) n c_uo1], .blk b1 28 [va]] (.own vo 71 3 (((elQ n r k).2).length) (ints (flCX ((elQ n r k).2)))) [])).trans (Some'.weak (.takeEq (by first | rfl | (rw [hS0]; done) | (rw [hS0]; rfl) | (rw [hX]; done) | (rw [hX]; rfl)) (.takeEq (by first | rfl | (rw [hS0]; done) | (rw [hS0]; rfl) | (rw [hX]; done) | (rw [hX]; rfl)) (.take (.take (.take (.nil _))))))))
      · rintro ⟨i, vo⟩ fr hinv
        show Run _ _ (over _ _ [(7, .int .i64 (((i : Nat) : Int)))] fr) [.own vo 71 3 (((elS k (elQ n r k) i).2).length) (ints (flCX ((elS k (elQ n r k) i).2))), .own (.slice (some ⟨gr, 0, none⟩) n c_uo1) 3 1 n (ints (nl (elS k (elQ n r k) i).1)), .blk b4 36 [vo], .blk b3 22 [.slice (some ⟨gr, 0, none⟩) n c_uo1], .blk b1 28 [va]]
        try dsimp only at hinv
        refine Run.seq ?_
        refine Run.seq ?_
        refine Run.cut (ι := Unit) [21, 22, 23, 24, 25, 26, 27, 28, 29, 30, 31, 32, 33, 34] (fun u0 => [(34, .bool (decide (i < n) && !((nx (elS k (elQ n r k) i).1 k).testBit k)))]) (fun u0 => [.own vo 71 3 (((elS k (elQ n r k) i).2).length) (ints (flCX ((elS k (elQ n r k) i).2))), .own (.slice (some ⟨gr, 0, none⟩) n c_uo1) 3 1 n (ints (nl (elS k (elQ n r k) i).1)), .blk b4 36 [vo], .blk b3 22 [.slice (some ⟨gr, 0, none⟩) n c_uo1], .blk b1 28 [va]]) (fun u0 => True) ?_ ?_
        · refine Run.region ?_
          refine Run.q (v := .int .i64 (((i : Nat) : Int))) rfl (OpQ.y (OpY.pure rfl)) ?_
          refine Run.q (v := .slice (some ⟨gr, 0, none⟩) n c_uo1) rfl (OpQ.y (OpY.load1 Tone_22 rfl (Cells.blk (.tail _ (.tail _ (.tail _ (List.Mem.head _)))) ⟨rfl, trivial⟩))) ?_
          refine Run.q (v := .int .i64 (((n : Nat) : Int))) rfl (OpQ.y (OpY.len Tsl_22 rfl)) ?_
          refine Run.q (v := .bool (decide ((((i : Nat) : Int)) < (((n : Nat) : Int))))) rfl (OpQ.y (OpY.pure rfl)) ?_
          rcases Bool.eq_false_or_eq_true (decide ((((i : Nat) : Int)) < (((n : Nat) : Int)))) with h25 | h25
          · refine Run.q (v := .bool true) rfl (OpQ.y (OpY.moveB rfl h25)) ?_
            have p25 := h25; try simp only [bs] at p25
            have hin : i < n := by omega
            have hf2 := (elS_ok (k := k) (by omega) (elQ_ok (m := r) k (by omega)) i (by omega)).facts hl hb h5
            have hlen2 := elS_len k (elQ n r k) i
            refine Run.q (v := .slice (some ⟨gr, 0, none⟩) n c_uo1) rfl (OpQ.y (OpY.load1 Tone_22 rfl (Cells.blk (.tail _ (.tail _ (.tail _ (List.Mem.head _)))) ⟨rfl, trivial⟩))) ?_
            refine Run.q (v := .int .i64 (((k : Nat) : Int))) rfl (OpQ.y (OpY.pure rfl)) ?_
            refine Run.q (v := .pointer (some ⟨gr, k, none⟩)) rfl (OpQ.y (OpY.index (kk := k) Tsl_22 rfl rfl (by omega) (by omega) (by first | rfl | omega))) ?_
            refine Run.q (v := .int .i64 (ix (nl (elS k (elQ n r k) i).1) (k))) rfl (OpQ.y (OpY.load1 Tone_3 rfl (Cells.own0 (.tail _ (List.Mem.head _)) (pre1 (by first | omega | (simp; omega)))))) ?_
            refine Run.q (v := .int .i64 (((k : Nat) : Int))) rfl (OpQ.y (OpY.pure rfl)) ?_
            refine Run.q (v := .int .i64 ((ix (nl (elS k (elQ n r k) i).1) (k)) >>> k)) rfl (OpQ.y (OpY.shr rfl rfl (by first | rfl | omega) (by omega))) ?_
            refine Run.q (v := .int .i64 (((ix (nl (elS k (elQ n r k) i).1) (k)) >>> k) % 2)) rfl (OpQ.y (OpY.and1 rfl rfl)) ?_
            refine Run.q (v := .bool ((((ix (nl (elS k (elQ n r k) i).1) (k)) >>> k) % 2) == 0)) rfl (OpQ.y (OpY.pure rfl)) ?_
            refine Run.q (v := .bool ((((ix (nl (elS k (elQ n r k) i).1) (k)) >>> k) % 2) == 0)) rfl (OpQ.y (OpY.pure rfl)) ?_
            refine Run.done ?_
            refine Run.goal ⟨(by repeat (first | exact Same.refl _ _ | refine Same.put rfl ?_ | refine Same.over rfl rfl ?_)), (), ?_, ?_, ?_⟩
            · trivial
            · exact ⟨(by (show Value.bool _ = Value.bool _; congr 1; first | (rw [bz0, decide_eq_true hin, Bool.true_and]; done) | (rw [decide_eq_false hin]; rfl))), trivial⟩
            · exact (Some'.weak (.takeEq (by first | rfl | simp) (.takeEq (by first | rfl | simp) (.take (.take (.take (.nil _)))))))
          · refine Run.q (v := .bool false) rfl (OpQ.y (OpY.moveB rfl h25)) ?_
            have p25 := h25; try simp only [bs] at p25
            have hin : ¬ i < n := by omega
            refine Run.pass rfl ?_
            refine Run.pass rfl ?_
            refine Run.pass rfl ?_
            refine Run.pass rfl ?_
            refine Run.pass rfl ?_
            refine Run.pass rfl ?_
            refine Run.pass rfl ?_
            refine Run.pass rfl ?_
            refine Run.q (v := .bool false) rfl (OpQ.y (OpY.pure rfl)) ?_
            refine Run.done ?_
            refine Run.goal ⟨(by repeat (first | exact Same.refl _ _ | refine Same.put rfl ?_ | refine Same.over rfl rfl ?_)), (), ?_, ?_, ?_⟩
            · trivial
            · exact ⟨(by (show Value.bool _ = Value.bool _; congr 1; first | (rw [bz0, decide_eq_true hin, Bool.true_and]; done) | (rw [decide_eq_false hin]; rfl))), trivial⟩
            · exact (Some'.weak (.takeEq (by first | rfl | simp) (.takeEq (by first | rfl | simp) (.take (.take (.take (.nil _)))))))
        · rintro u0 fr hcut
          show Run _ _ (over _ _ [(34, .bool (decide (i < n) && !((nx (elS k (elQ n r k) i).1 k).testBit k)))] fr) [.own vo 71 3 (((elS k (elQ n r k) i).2).length) (ints (flCX ((elS k (elQ n r k) i).2))), .own (.slice (some ⟨gr, 0, none⟩) n c_uo1) 3 1 n (ints (nl (elS k (elQ n r k) i).1)), .blk b4 36 [vo], .blk b3 22 [.slice (some ⟨gr, 0, none⟩) n c_uo1], .blk b1 28 [va]]
          refine Run.cond (b := decide (i < n) && !((nx (elS k (elQ n r k) i).1 k).testBit k)) rfl (fun h34 => ?_) (fun h34 => ?_)
          · have p34 := h34; try simp only [bs] at p34
            have hin : i < n := of_decide_eq_true (Bool.and_eq_true_iff.1 h34).1
            have hb0 : (nx (elS k (elQ n r k) i).1 k).testBit k = false := by have h := (Bool.and_eq_true_iff.1 h34).2; simpa using h
            have hf2 := (elS_ok (k := k) (by omega) (elQ_ok (m := r) k (by omega)) i (by omega)).facts hl hb h5
            have hlen2 := elS_len k (elQ n r k) i
            refine Run.skip ?_
            refine Run.seq ?_
            refine Run.block ?_
            refine Run.seq ?_
            refine Run.region ?_
            refine Run.q (v := .slice (some ⟨gr, 0, none⟩) n c_uo1) rfl (OpQ.y (OpY.load1 Tone_22 rfl (Cells.blk (.tail _ (.tail _ (.tail _ (List.Mem.head _)))) ⟨rfl, trivial⟩))) ?_
            refine Run.q (v := .int .i64 (((i : Nat) : Int))) rfl (OpQ.y (OpY.pure rfl)) ?_
            refine Run.q (v := .pointer (some ⟨gr, i, none⟩)) rfl (OpQ.y (OpY.index (kk := i) Tsl_22 rfl rfl (by omega) (by omega) (by first | rfl | omega))) ?_
            refine Run.q (v := .int .i64 (ix (nl (elS k (elQ n r k) i).1) (i))) rfl (OpQ.y (OpY.load1 Tone_3 rfl (Cells.own0 (.tail _ (List.Mem.head _)) (pre1 (by first | omega | (simp; omega)))))) ?_
            refine Run.q (v := .int .i64 (((k : Nat) : Int))) rfl (OpQ.y (OpY.pure rfl)) ?_
            refine Run.q (v := .int .i64 ((ix (nl (elS k (elQ n r k) i).1) (i)) >>> k)) rfl (OpQ.y (OpY.shr rfl rfl (by first | rfl | omega) (by omega))) ?_
            refine Run.q (v := .int .i64 (((ix (nl (elS k (elQ n r k) i).1) (i)) >>> k) % 2)) rfl (OpQ.y (OpY.and1 rfl rfl)) ?_
            refine Run.q (v := .bool ((((ix (nl (elS k (elQ n r k) i).1) (i)) >>> k) % 2) == 1)) rfl (OpQ.y (OpY.pure rfl)) ?_
            refine Run.done ?_
            refine Run.cond (b := (((ix (nl (elS k (elQ n r k) i).1) (i)) >>> k) % 2) == 1) rfl (fun h44 => ?_) (fun h44 => ?_)
            · have p44 := h44; try simp only [bs] at p44
              have hX := elS_add (by omega) hb0 (bt1 p44)
              refine Run.region ?_
              refine Run.q (v := .func (.func 127) #[] #[.pointer (some ⟨b3, 0, none⟩), .pointer (some ⟨b4, 0, none⟩)]) rfl (OpQ.y (OpY.pure rfl)) ?_
              refine Run.q (v := .int .i64 (((i : Nat) : Int))) rfl (OpQ.y (OpY.pure rfl)) ?_
              refine Run.q (v := .int .i64 (((k : Nat) : Int))) rfl (OpQ.y (OpY.pure rfl)) ?_
              refine Run.step rfl (OpStep.callM (H1 := [.blk b4 36 [vo], .blk b3 22 [.slice (some ⟨gr, 0, none⟩) n c_uo1], .own (.slice (some ⟨gr, 0, none⟩) n c_uo1) 3 1 n (ints (nl (elS k (elQ n r k) i).1)), .own vo 71 3 (((elS k (elQ n r k) i).2).length) (ints (flCX ((elS k (elQ n r k) i).2)))]) (H2 := [.blk b1 28 [va]]) (vs := [.int .i64 (((i : Nat) : Int)), .int .i64 (((k : Nat) : Int)), .pointer (some ⟨b3, 0, none⟩), .pointer (some ⟨b4, 0, none⟩)]) (caps := [.pointer (some ⟨b3, 0, none⟩), .pointer (some ⟨b4, 0, none⟩)]) Tcall_127 rfl rfl (((Weak.front [.own vo 71 3 (((elS k (elQ n r k) i).2).length) (ints (flCX ((elS k (elQ n r k) i).2)))] (.own (.slice (some ⟨gr, 0, none⟩) n c_uo1) 3 1 n (ints (nl (elS k (elQ n r k) i).1))) [.blk b4 36 [vo], .blk b3 22 [.slice (some ⟨gr, 0, none⟩) n c_uo1], .blk b1 28 [va]]).trans (Weak.front [.own (.slice (some ⟨gr, 0, none⟩) n c_uo1) 3 1 n (ints (nl (elS k (elQ n r k) i).1)), .own vo 71 3 (((elS k (elQ n r k) i).2).length) (ints (flCX ((elS k (elQ n r k) i).2))), .blk b4 36 [vo]] (.blk b3 22 [.slice (some ⟨gr, 0, none⟩) n c_uo1]) [.blk b1 28 [va]])).trans (Weak.front [.blk b3 22 [.slice (some ⟨gr, 0, none⟩) n c_uo1], .own (.slice (some ⟨gr, 0, none⟩) n c_uo1) 3 1 n (ints (nl (elS k (elQ n r k) i).1)), .own vo 71 3 (((elS k (elQ n r k) i).2).length) (ints (flCX ((elS k (elQ n r k) i).2)))] (.blk b4 36 [vo]) [.blk b1 28 [va]])) (fun w hs => elclo_spec (s := elS k (elQ n r k) i) hf2.1 hf2.2.2 (by omega) (by omega) h5 (by omega) (hs.sub (List.sublist_append_left _ _)).self) ?_)
              rintro _ _ ⟨rb1, rfl, rfl⟩
              show Run _ _ (putF _ _ _ (.tuple #[])) [.blk b4 36 [rb1], .blk b3 22 [.slice (some ⟨gr, 0, none⟩) n c_uo1], .own (.slice (some ⟨gr, 0, none⟩) n c_uo1) 3 1 n (ints (nl (addE (elS k (elQ n r k) i) (i, k)).1)), .own rb1 71 3 (((addE (elS k (elQ n r k) i) (i, k)).2).length) (ints (flCX ((addE (elS k (elQ n r k) i) (i, k)).2))), .blk b1 28 [va]]
              refine Run.done ?_
              refine Run.blockEnd ?_
              refine Run.region ?_
              refine Run.q (v := .int .i64 (((i : Nat) : Int))) rfl (OpQ.y (OpY.pure rfl)) ?_
              refine Run.q (v := .int .i64 (((i + 1 : Nat) : Int))) rfl (OpQ.y (OpY.add rfl rfl (by omega) (by omega) (by omega))) ?_
              refine Run.q (v := .int .i64 (((i + 1 : Nat) : Int))) rfl (OpQ.y (OpY.pure rfl)) ?_
              refine Run.done ?_
              refine Run.goal ⟨(by repeat (first | exact Same.refl _ _ | refine Same.put rfl ?_ | refine Same.over rfl rfl ?_)), (i + 1, rb1), ?_, ?_, ?_, ?_⟩
              · exact ⟨by omega, by omega⟩
              · show n - (i + 1) < n - i; omega
              · exact ⟨(by first | rfl | (congr 1; omega) | simp), trivial⟩
              · exact ((((((Weak.front [.blk b4 36 [rb1], .blk b3 22 [.slice (some ⟨gr, 0, none⟩) n c_uo1], .own (.slice (some ⟨gr, 0, none⟩) n c_uo1) 3 1 n (ints (nl (addE (elS k (elQ n r k) i) (i, k)).1)), .own rb1 71 3 (((addE (elS k (elQ n r k) i) (i, k)).2).length) (ints (flCX ((addE (elS k (elQ n r k) i) (i, k)).2)))] (.blk b1 28 [va]) []).trans (Weak.front [.blk b1 28 [va], .blk b4 36 [rb1]] (.blk b3 22 [.slice (some ⟨gr, 0, none⟩) n c_uo1]) [.own (.slice (some ⟨gr, 0, none⟩) n c_uo1) 3 1 n (ints (nl (addE (elS k (elQ n r k) i) (i, k)).1)), .own rb1 71 3 (((addE (elS k (elQ n r k) i) (i, k)).2).length) (ints (flCX ((addE (elS k (elQ n r k) i) (i, k)).2)))])).trans (Weak.front [.blk b3 22 [.slice (some ⟨gr, 0, none⟩) n c_uo1], .blk b1 28 [va]] (.blk b4 36 [rb1]) [.own (.slice (some ⟨gr, 0, none⟩) n c_uo1) 3 1 n (ints (nl (addE (elS k (elQ n r k) i) (i, k)).1)), .own rb1 71 3 (((addE (elS k (elQ n r k) i) (i, k)).2).length) (ints (flCX ((addE (elS k (elQ n r k) i) (i, k)).2)))])).trans (Weak.front [.blk b4 36 [rb1], .blk b3 22 [.slice (some ⟨gr, 0, none⟩) n c_uo1], .blk b1 28 [va]] (.own (.slice (some ⟨gr, 0, none⟩) n c_uo1) 3 1 n (ints (nl (addE (elS k (elQ n r k) i) (i, k)).1))) [.own rb1 71 3 (((addE (elS k (elQ n r k) i) (i, k)).2).length) (ints (flCX ((addE (elS k (elQ n r k) i) (i, k)).2)))])).trans (Weak.front [.own (.slice (some ⟨gr, 0, none⟩) n c_uo1) 3 1 n (ints (nl (addE (elS k (elQ n r k) i) (i, k)).1)), .blk b4 36 [rb1], .blk b3 22 [.slice (some ⟨gr, 0, none⟩) n c_uo1], .blk b1 28 [va]] (.own rb1 71 3 (((addE (elS k (elQ n r k) i) (i, k)).2).length) (ints (flCX ((addE (elS k (elQ n r k) i) (i, k)).2)))) [])).trans (Some'.weak (.takeEq (by first | rfl | (rw [hS0]; done) | (rw [hS0]; rfl) | (rw [hX]; done) | (rw [hX]; rfl)) (.takeEq (by first | rfl | (rw [hS0]; done) | (rw [hS0]; rfl) | (rw [hX]; done) | (rw [hX]; rfl)) (.takeEq (by first | rfl | (rw [hS0]; done) | (rw [hS0]; rfl) | (rw [hX]; done) | (rw [hX]; rfl)) (.take (.take (.nil _))))))))
            · have p44 := h44; try simp only [bs] at p44
              have hX := elS_skip (s := elQ n r k) (bn1 p44)
              refine Run.skip ?_
              refine Run.blockEnd ?_
              refine Run.region ?_
              refine Run.q (v := .int .i64 (((i : Nat) : Int))) rfl (OpQ.y (OpY.pure rfl)) ?_
              refine Run.q (v := .int .i64 (((i + 1 : Nat) : Int))) rfl (OpQ.y (OpY.add rfl rfl (by omega) (by omega) (by omega))) ?_
              refine Run.q (v := .int .i64 (((i + 1 : Nat) : Int))) rfl (OpQ.y (OpY.pure rfl)) ?_
              refine Run.done ?_
              refine Run.goal ⟨(by repeat (first | exact Same.refl _ _ | refine Same.put rfl ?_ | refine Same.over rfl rfl ?_)), (i + 1, vo), ?_, ?_, ?_, ?_⟩
              · exact ⟨by omega, by omega⟩
              · show n - (i + 1) < n - i; omega
              · exact ⟨(by first | rfl | (congr 1; omega) | simp), trivial⟩
              · exact ((((((Weak.front [.own vo 71 3 (((elS k (elQ n r k) i).2).length) (ints (flCX ((elS k (elQ n r k) i).2))), .own (.slice (some ⟨gr, 0, none⟩) n c_uo1) 3 1 n (ints (nl (elS k (elQ n r k) i).1)), .blk b4 36 [vo], .blk b3 22 [.slice (some ⟨gr, 0, none⟩) n c_uo1]] (.blk b1 28 [va]) []).trans (Weak.front [.blk b1 28 [va], .own vo 71 3 (((elS k (elQ n r k) i).2).length) (ints (flCX ((elS k (elQ n r k) i).2))), .own (.slice (some ⟨gr, 0, none⟩) n c_uo1) 3 1 n (ints (nl (elS k (elQ n r k) i).1)), .blk b4 36 [vo]] (.blk b3 22 [.slice (some ⟨gr, 0, none⟩) n c_uo1]) [])).trans (Weak.front [.blk b3 22 [.slice (some ⟨gr, 0, none⟩) n c_uo1], .blk b1 28 [va], .own vo 71 3 (((elS k (elQ n r k) i).2).length) (ints (flCX ((elS k (elQ n r k) i).2))), .own (.slice (some ⟨gr, 0, none⟩) n c_uo1) 3 1 n (ints (nl (elS k (elQ n r k) i).1))] (.blk b4 36 [vo]) [])).trans (Weak.front [.blk b4 36 [vo], .blk b3 22 [.slice (some ⟨gr, 0, none⟩) n c_uo1], .blk b1 28 [va], .own vo 71 3 (((elS k (elQ n r k) i).2).length) (ints (flCX ((elS k (elQ n r k) i).2)))] (.own (.slice (some ⟨gr, 0, none⟩) n c_uo1) 3 1 n (ints (nl (elS k (elQ n r k) i).1))) [])).trans (Weak.front [.own (.slice (some ⟨gr, 0, none⟩) n c_uo1) 3 1 n (ints (nl (elS k (elQ n r k) i).1)), .blk b4 36 [vo], .blk b3 22 [.slice (some ⟨gr, 0, none⟩) n c_uo1], .blk b1 28 [va]] (.own vo 71 3 (((elS k (elQ n r k) i).2).length) (ints (flCX ((elS k (elQ n r k) i).2)))) [])).trans (Some'.weak (.takeEq (by first | rfl | (rw [hS0]; done) | (rw [hS0]; rfl) | (rw [hX]; done) | (rw [hX]; rfl)) (.takeEq (by first | rfl | (rw [hS0]; done) | (rw [hS0]; rfl) | (rw [hX]; done) | (rw [hX]; rfl)) (.take (.take (.take (.nil _))))))))
          · have p34 := h34; try simp only [bs] at p34
            have hEx : elS k (elQ n r k) n = elS k (elQ n r k) i := by
              by_cases hin : i < n
              · have hb0 : (nx (elS k (elQ n r k) i).1 k).testBit k = true := by rw [decide_eq_true hin, Bool.true_and] at h34; simpa using h34
                have h := elS_stop hb0 (n - i); rwa [show i + (n - i) = n by omega] at h
              · rw [show n = i by omega]
            refine Run.exit rfl ?_
            refine Run.seq ?_
            refine Run.region ?_
            refine Run.q (v := .slice (some ⟨gr, 0, none⟩) n c_uo1) rfl (OpQ.y (OpY.load1 Tone_22 rfl (Cells.blk (.tail _ (.tail _ (.tail _ (List.Mem.head _)))) ⟨rfl, trivial⟩))) ?_
            refine Run.q (v := .int .i64 (((n : Nat) : Int))) rfl (OpQ.y (OpY.len Tsl_22 rfl)) ?_
            refine Run.q (v := .int .i64 0) rfl (OpQ.y (OpY.pure rfl)) ?_
            refine Run.done ?_
            refine Run.block ?_
            have hC0 : elC k (elS k (elQ n r k) n) 0 = elS k (elQ n r k) i := hEx
            refine Run.loop (ι := Nat × Value) [8, 51, 52, 53, 54, 55, 56, 57, 58, 59, 60, 61, 62, 63, 64, 65, 66, 67, 68, 69, 70, 71] (fun ⟨j, vo⟩ => [(51, .int .i64 (((j : Nat) : Int)))]) (fun ⟨j, vo⟩ => [.own vo 71 3 (((elC k (elS k (elQ n r k) n) j).2).length) (ints (flCX ((elC k (elS k (elQ n r k) n) j).2))), .own (.slice (some ⟨gr, 0, none⟩) n c_uo1) 3 1 n (ints (nl (elC k (elS k (elQ n r k) n) j).1)), .blk b4 36 [vo], .blk b3 22 [.slice (some ⟨gr, 0, none⟩) n c_uo1], .blk b1 28 [va]]) (fun ⟨j, vo⟩ => j ≤ n) (fun ⟨j, vo⟩ => n - j) (0, vo) ?_ ?_ ?_ ?_
            · exact Nat.zero_le _
            · exact ⟨rfl, trivial⟩
            · exact ((((((Weak.front [.own vo 71 3 (((elS k (elQ n r k) i).2).length) (ints (flCX ((elS k (elQ n r k) i).2))), .own (.slice (some ⟨gr, 0, none⟩) n c_uo1) 3 1 n (ints (nl (elS k (elQ n r k) i).1)), .blk b4 36 [vo], .blk b3 22 [.slice (some ⟨gr, 0, none⟩) n c_uo1]] (.blk b1 28 [va]) []).trans (Weak.front [.blk b1 28 [va], .own vo 71 3 (((elS k (elQ n r k) i).2).length) (ints (flCX ((elS k (elQ n r k) i).2))), .own (.slice (some ⟨gr, 0, none⟩) n c_uo1) 3 1 n (ints (nl (elS k (elQ n r k) i).1)), .blk b4 36 [vo]] (.blk b3 22 [.slice (some ⟨gr, 0, none⟩) n c_uo1]) [])).trans (Weak.front [.blk b3 22 [.slice (some ⟨gr, 0, none⟩) n c_uo1], .blk b1 28 [va], .own vo 71 3 (((elS k (elQ n r k) i).2).length) (ints (flCX ((elS k (elQ n r k) i).2))), .own (.slice (some ⟨gr, 0, none⟩) n c_uo1) 3 1 n (ints (nl (elS k (elQ n r k) i).1))] (.blk b4 36 [vo]) [])).trans (Weak.front [.blk b4 36 [vo], .blk b3 22 [.slice (some ⟨gr, 0, none⟩) n c_uo1], .blk b1 28 [va], .own vo 71 3 (((elS k (elQ n r k) i).2).length) (ints (flCX ((elS k (elQ n r k) i).2)))] (.own (.slice (some ⟨gr, 0, none⟩) n c_uo1) 3 1 n (ints (nl (elS k (elQ n r k) i).1))) [])).trans (Weak.front [.own (.slice (some ⟨gr, 0, none⟩) n c_uo1) 3 1 n (ints (nl (elS k (elQ n r k) i).1)), .blk b4 36 [vo], .blk b3 22 [.slice (some ⟨gr, 0, none⟩) n c_uo1], .blk b1 28 [va]] (.own vo 71 3 (((elS k (elQ n r k) i).2).length) (ints (flCX ((elS k (elQ n r k) i).2)))) [])).trans (Some'.weak (.takeEq (by first | rfl | (rw [hC0]; done) | (rw [hC0]; rfl) | (rw [hX]; done) | (rw [hX]; rfl)) (.takeEq (by first | rfl | (rw [hC0]; done) | (rw [hC0]; rfl) | (rw [hX]; done) | (rw [hX]; rfl)) (.take (.take (.take (.nil _))))))))
            · rintro ⟨j, vo⟩ fr hinv
              show Run _ _ (over _ _ [(51, .int .i64 (((j : Nat) : Int)))] fr) [.own vo 71 3 (((elC k (elS k (elQ n r k) n) j).2).length) (ints (flCX ((elC k (elS k (elQ n r k) n) j).2))), .own (.slice (some ⟨gr, 0, none⟩) n c_uo1) 3 1 n (ints (nl (elC k (elS k (elQ n r k) n) j).1)), .blk b4 36 [vo], .blk b3 22 [.slice (some ⟨gr, 0, none⟩) n c_uo1], .blk b1 28 [va]]
              try dsimp only at hinv
              refine Run.seq ?_
              refine Run.region ?_
              refine Run.q (v := .bool (decide ((((j : Nat) : Int)) < (((n : Nat) : Int))))) rfl (OpQ.y (OpY.pure rfl)) ?_
              refine Run.done ?_
              refine Run.seq ?_
              refine Run.cond (b := decide ((((j : Nat) : Int)) < (((n : Nat) : Int)))) rfl (fun h52 => ?_) (fun h52 => ?_)
              · have p52 := h52; try simp only [bs] at p52
                have hjn : j < n := by omega
                have hf3 := (elC_ok (k := k) (by omega) (elS_ok (k := k) (by omega) (elQ_ok (m := r) k (by omega)) n (Nat.le_refl n)) j (by omega)).facts hl hb h5
                have hlen3 := elC_len k (elS k (elQ n r k) n) j
                have hlen4 := elS_len k (elQ n r k) n
                refine Run.skip ?_
                refine Run.seq ?_
                refine Run.block ?_
                refine Run.seq ?_
                refine Run.region ?_
                refine Run.q (v := .int .i64 (((j : Nat) : Int))) rfl (OpQ.y (OpY.pure rfl)) ?_
                refine Run.q (v := .int .i64 (((j : Nat) : Int))) rfl (OpQ.y (OpY.pure rfl)) ?_
                refine Run.done ?_
                refine Run.seq ?_
                refine Run.region ?_
                refine Run.q (v := .int .i64 (((j : Nat) : Int))) rfl (OpQ.y (OpY.pure rfl)) ?_
                refine Run.q (v := .int .i64 (((k : Nat) : Int))) rfl (OpQ.y (OpY.pure rfl)) ?_
                refine Run.q (v := .bool ((((j : Nat) : Int)) != (((k : Nat) : Int)))) rfl (OpQ.y (OpY.pure rfl)) ?_
                rcases Bool.eq_false_or_eq_true ((((j : Nat) : Int)) != (((k : Nat) : Int))) with h57 | h57
                · refine Run.q (v := .bool true) rfl (OpQ.y (OpY.moveB rfl h57)) ?_
                  have p57 := h57; try simp only [bs] at p57
                  have hjk : j ≠ k := by omega
                  refine Run.q (v := .slice (some ⟨gr, 0, none⟩) n c_uo1) rfl (OpQ.y (OpY.load1 Tone_22 rfl (Cells.blk (.tail _ (.tail _ (.tail _ (List.Mem.head _)))) ⟨rfl, trivial⟩))) ?_
                  refine Run.q (v := .int .i64 (((j : Nat) : Int))) rfl (OpQ.y (OpY.pure rfl)) ?_
                  refine Run.q (v := .pointer (some ⟨gr, j, none⟩)) rfl (OpQ.y (OpY.index (kk := j) Tsl_22 rfl rfl (by omega) (by omega) (by first | rfl | omega))) ?_
                  refine Run.q (v := .int .i64 (ix (nl (elC k (elS k (elQ n r k) n) j).1) (j))) rfl (OpQ.y (OpY.load1 Tone_3 rfl (Cells.own0 (.tail _ (List.Mem.head _)) (pre1 (by first | omega | (simp; omega)))))) ?_
                  refine Run.q (v := .int .i64 (((k : Nat) : Int))) rfl (OpQ.y (OpY.pure rfl)) ?_
                  refine Run.q (v := .int .i64 ((ix (nl (elC k (elS k (elQ n r k) n) j).1) (j)) >>> k)) rfl (OpQ.y (OpY.shr rfl rfl (by first | rfl | omega) (by omega))) ?_
                  refine Run.q (v := .int .i64 (((ix (nl (elC k (elS k (elQ n r k) n) j).1) (j)) >>> k) % 2)) rfl (OpQ.y (OpY.and1 rfl rfl)) ?_
                  refine Run.q (v := .bool ((((ix (nl (elC k (elS k (elQ n r k) n) j).1) (j)) >>> k) % 2) == 1)) rfl (OpQ.y (OpY.pure rfl)) ?_
                  refine Run.q (v := .bool ((((ix (nl (elC k (elS k (elQ n r k) n) j).1) (j)) >>> k) % 2) == 1)) rfl (OpQ.y (OpY.pure rfl)) ?_
                  refine Run.done ?_
                  refine Run.cond (b := (((ix (nl (elC k (elS k (elQ n r k) n) j).1) (j)) >>> k) % 2) == 1) rfl (fun h66 => ?_) (fun h66 => ?_)
                  · have p66 := h66; try simp only [bs] at p66
                    have hX := elC_add hjk (bt1 p66)
                    refine Run.region ?_
                    refine Run.q (v := .func (.func 127) #[] #[.pointer (some ⟨b3, 0, none⟩), .pointer (some ⟨b4, 0, none⟩)]) rfl (OpQ.y (OpY.pure rfl)) ?_
                    refine Run.q (v := .int .i64 (((k : Nat) : Int))) rfl (OpQ.y (OpY.pure rfl)) ?_
                    refine Run.q (v := .int .i64 (((j : Nat) : Int))) rfl (OpQ.y (OpY.pure rfl)) ?_
                    refine Run.step rfl (OpStep.callM (H1 := [.blk b4 36 [vo], .blk b3 22 [.slice (some ⟨gr, 0, none⟩) n c_uo1], .own (.slice (some ⟨gr, 0, none⟩) n c_uo1) 3 1 n (ints (nl (elC k (elS k (elQ n r k) n) j).1)), .own vo 71 3 (((elC k (elS k (elQ n r k) n) j).2).length) (ints (flCX ((elC k (elS k (elQ n r k) n) j).2)))]) (H2 := [.blk b1 28 [va]]) (vs := [.int .i64 (((k : Nat) : Int)), .int .i64 (((j : Nat) : Int)), .pointer (some ⟨b3, 0, none⟩), .pointer (some ⟨b4, 0, none⟩)]) (caps := [.pointer (some ⟨b3, 0, none⟩), .pointer (some ⟨b4, 0, none⟩)]) Tcall_127 rfl rfl (((Weak.front [.own vo 71 3 (((elC k (elS k (elQ n r k) n) j).2).length) (ints (flCX ((elC k (elS k (elQ n r k) n) j).2)))] (.own (.slice (some ⟨gr, 0, none⟩) n c_uo1) 3 1 n (ints (nl (elC k (elS k (elQ n r k) n) j).1))) [.blk b4 36 [vo], .blk b3 22 [.slice (some ⟨gr, 0, none⟩) n c_uo1], .blk b1 28 [va]]).trans (Weak.front [.own (.slice (some ⟨gr, 0, none⟩) n c_uo1) 3 1 n (ints (nl (elC k (elS k (elQ n r k) n) j).1)), .own vo 71 3 (((elC k (elS k (elQ n r k) n) j).2).length) (ints (flCX ((elC k (elS k (elQ n r k) n) j).2))), .blk b4 36 [vo]] (.blk b3 22 [.slice (some ⟨gr, 0, none⟩) n c_uo1]) [.blk b1 28 [va]])).trans (Weak.front [.blk b3 22 [.slice (some ⟨gr, 0, none⟩) n c_uo1], .own (.slice (some ⟨gr, 0, none⟩) n c_uo1) 3 1 n (ints (nl (elC k (elS k (elQ n r k) n) j).1)), .own vo 71 3 (((elC k (elS k (elQ n r k) n) j).2).length) (ints (flCX ((elC k (elS k (elQ n r k) n) j).2)))] (.blk b4 36 [vo]) [.blk b1 28 [va]])) (fun w hs => elclo_spec (s := elC k (elS k (elQ n r k) n) j) hf3.1 hf3.2.2 (by omega) (by omega) h5 (by omega) (hs.sub (List.sublist_append_left _ _)).self) ?_)
                    rintro _ _ ⟨rb2, rfl, rfl⟩
                    show Run _ _ (putF _ _ _ (.tuple #[])) [.blk b4 36 [rb2], .blk b3 22 [.slice (some ⟨gr, 0, none⟩) n c_uo1], .own (.slice (some ⟨gr, 0, none⟩) n c_uo1) 3 1 n (ints (nl (addE (elC k (elS k (elQ n r k) n) j) (k, j)).1)), .own rb2 71 3 (((addE (elC k (elS k (elQ n r k) n) j) (k, j)).2).length) (ints (flCX ((addE (elC k (elS k (elQ n r k) n) j) (k, j)).2))), .blk b1 28 [va]]
                    refine Run.done ?_
                    refine Run.blockEnd ?_
                    refine Run.region ?_
                    refine Run.q (v := .int .i64 (((j + 1 : Nat) : Int))) rfl (OpQ.y (OpY.add rfl rfl (by omega) (by omega) (by omega))) ?_
                    refine Run.q (v := .int .i64 (((j + 1 : Nat) : Int))) rfl (OpQ.y (OpY.pure rfl)) ?_
                    refine Run.done ?_
                    refine Run.goal ⟨(by repeat (first | exact Same.refl _ _ | refine Same.put rfl ?_ | refine Same.over rfl rfl ?_)), (j + 1, rb2), ?_, ?_, ?_, ?_⟩
                    · exact (show j + 1 ≤ n by omega)
                    · show n - (j + 1) < n - j; omega
                    · exact ⟨(by first | rfl | (congr 1; omega) | simp), trivial⟩
                    · exact ((((((Weak.front [.blk b4 36 [rb2], .blk b3 22 [.slice (some ⟨gr, 0, none⟩) n c_uo1], .own (.slice (some ⟨gr, 0, none⟩) n c_uo1) 3 1 n (ints (nl (addE (elC k (elS k (elQ n r k) n) j) (k, j)).1)), .own rb2 71 3 (((addE (elC k (elS k (elQ n r k) n) j) (k, j)).2).length) (ints (flCX ((addE (elC k (elS k (elQ n r k) n) j) (k, j)).2)))] (.blk b1 28 [va]) []).trans (Weak.front [.blk b1 28 [va], .blk b4 36 [rb2]] (.blk b3 22 [.slice (some ⟨gr, 0, none⟩) n c_uo1]) [.own (.slice (some ⟨gr, 0, none⟩) n c_uo1) 3 1 n (ints (nl (addE (elC k (elS k (elQ n r k) n) j) (k, j)).1)), .own rb2 71 3 (((addE (elC k (elS k (elQ n r k) n) j) (k, j)).2).length) (ints (flCX ((addE (elC k (elS k (elQ n r k) n) j) (k, j)).2)))])).trans (Weak.front [.blk b3 22 [.slice (some ⟨gr, 0, none⟩) n c_uo1], .blk b1 28 [va]] (.blk b4 36 [rb2]) [.own (.slice (some ⟨gr, 0, none⟩) n c_uo1) 3 1 n (ints (nl (addE (elC k (elS k (elQ n r k) n) j) (k, j)).1)), .own rb2 71 3 (((addE (elC k (elS k (elQ n r k) n) j) (k, j)).2).length) (ints (flCX ((addE (elC k (elS k (elQ n r k) n) j) (k, j)).2)))])).trans (Weak.front [.blk b4 36 [rb2], .blk b3 22 [.slice (some ⟨gr, 0, none⟩) n c_uo1], .blk b1 28 [va]] (.own (.slice (some ⟨gr, 0, none⟩) n c_uo1) 3 1 n (ints (nl (addE (elC k (elS k (elQ n r k) n) j) (k, j)).1))) [.own rb2 71 3 (((addE (elC k (elS k (elQ n r k) n) j) (k, j)).2).length) (ints (flCX ((addE (elC k (elS k (elQ n r k) n) j) (k, j)).2)))])).trans (Weak.front [.own (.slice (some ⟨gr, 0, none⟩) n c_uo1) 3 1 n (ints (nl (addE (elC k (elS k (elQ n r k) n) j) (k, j)).1)), .blk b4 36 [rb2], .blk b3 22 [.slice (some ⟨gr, 0, none⟩) n c_uo1], .blk b1 28 [va]] (.own rb2 71 3 (((addE (elC k (elS k (elQ n r k) n) j) (k, j)).2).length) (ints (flCX ((addE (elC k (elS k (elQ n r k) n) j) (k, j)).2)))) [])).trans (Some'.weak (.takeEq (by first | rfl | (rw [hC0]; done) | (rw [hC0]; rfl) | (rw [hX]; done) | (rw [hX]; rfl)) (.takeEq (by first | rfl | (rw [hC0]; done) | (rw [hC0]; rfl) | (rw [hX]; done) | (rw [hX]; rfl)) (.takeEq (by first | rfl | (rw [hC0]; done) | (rw [hC0]; rfl) | (rw [hX]; done) | (rw [hX]; rfl)) (.take (.take (.nil _))))))))
                  · have p66 := h66; try simp only [bs] at p66
                    have hX := elC_skip (s := elS k (elQ n r k) n) (k := k) (j := j) (fun h => absurd h.2 (by rw [bn1 p66]; decide))
                    refine Run.skip ?_
                    refine Run.blockEnd ?_
                    refine Run.region ?_
                    refine Run.q (v := .int .i64 (((j + 1 : Nat) : Int))) rfl (OpQ.y (OpY.add rfl rfl (by omega) (by omega) (by omega))) ?_
                    refine Run.q (v := .int .i64 (((j + 1 : Nat) : Int))) rfl (OpQ.y (OpY.pure rfl)) ?_
                    refine Run.done ?_
                    refine Run.goal ⟨(by repeat (first | exact Same.refl _ _ | refine Same.put rfl ?_ | refine Same.over rfl rfl ?_)), (j + 1, vo), ?_, ?_, ?_, ?_⟩
                    · exact (show j + 1 ≤ n by omega)
                    · show n - (j + 1) < n - j; omega
                    · exact ⟨(by first | rfl | (congr 1; omega) | simp), trivial⟩
                    · exact ((((((Weak.front [.own vo 71 3 (((elC k (elS k (elQ n r k) n) j).2).length) (ints (flCX ((elC k (elS k (elQ n r k) n) j).2))), .own (.slice (some ⟨gr, 0, none⟩) n c_uo1) 3 1 n (ints (nl (elC k (elS k (elQ n r k) n) j).1)), .blk b4 36 [vo], .blk b3 22 [.slice (some ⟨gr, 0, none⟩) n c_uo1]] (.blk b1 28 [va]) []).trans (Weak.front [.blk b1 28 [va], .own vo 71 3 (((elC k (elS k (elQ n r k) n) j).2).length) (ints (flCX ((elC k (elS k (elQ n r k) n) j).2))), .own (.slice (some ⟨gr, 0, none⟩) n c_uo1) 3 1 n (ints (nl (elC k (elS k (elQ n r k) n) j).1)), .blk b4 36 [vo]] (.blk b3 22 [.slice (some ⟨gr, 0, none⟩) n c_uo1]) [])).trans (Weak.front [.blk b3 22 [.slice (some ⟨gr, 0, none⟩) n c_uo1], .blk b1 28 [va], .own vo 71 3 (((elC k (elS k (elQ n r k) n) j).2).length) (ints (flCX ((elC k (elS k (elQ n r k) n) j).2))), .own (.slice (some ⟨gr, 0, none⟩) n c_uo1) 3 1 n (ints (nl (elC k (elS k (elQ n r k) n) j).1))] (.blk b4 36 [vo]) [])).trans (Weak.front [.blk b4 36 [vo], .blk b3 22 [.slice (some ⟨gr, 0, none⟩) n c_uo1], .blk b1 28 [va], .own vo 71 3 (((elC k (elS k (elQ n r k) n) j).2).length) (ints (flCX ((elC k (elS k (elQ n r k) n) j).2)))] (.own (.slice (some ⟨gr, 0, none⟩) n c_uo1) 3 1 n (ints (nl (elC k (elS k (elQ n r k) n) j).1))) [])).trans (Weak.front [.own (.slice (some ⟨gr, 0, none⟩) n c_uo1) 3 1 n (ints (nl (elC k (elS k (elQ n r k) n) j).1)), .blk b4 36 [vo], .blk b3 22 [.slice (some ⟨gr, 0, none⟩) n c_uo1], .blk b1 28 [va]] (.own vo 71 3 (((elC k (elS k (elQ n r k) n) j).2).length) (ints (flCX ((elC k (elS k (elQ n r k) n) j).2)))) [])).trans (Some'.weak (.takeEq (by first | rfl | (rw [hC0]; done) | (rw [hC0]; rfl) | (rw [hX]; done) | (rw [hX]; rfl)) (.takeEq (by first | rfl | (rw [hC0]; done) | (rw [hC0]; rfl) | (rw [hX]; done) | (rw [hX]; rfl)) (.take (.take (.take (.nil _))))))))
                · refine Run.q (v := .bool false) rfl (OpQ.y (OpY.moveB rfl h57)) ?_
                  have p57 := h57; try simp only [bs] at p57
                  have hX := elC_skip (s := elS k (elQ n r k) n) (k := k) (j := j) (fun h => h.1 (by omega))
                  refine Run.pass rfl ?_
                  refine Run.pass rfl ?_
                  refine Run.pass rfl ?_
                  refine Run.pass rfl ?_
                  refine Run.pass rfl ?_
                  refine Run.pass rfl ?_
                  refine Run.pass rfl ?_
                  refine Run.pass rfl ?_
                  refine Run.q (v := .bool false) rfl (OpQ.y (OpY.pure rfl)) ?_
                  refine Run.done ?_
                  refine Run.cond (b := false) rfl (fun h => nomatch h) (fun _ => ?_)
                  refine Run.skip ?_
                  refine Run.blockEnd ?_
                  refine Run.region ?_
                  refine Run.q (v := .int .i64 (((j + 1 : Nat) : Int))) rfl (OpQ.y (OpY.add rfl rfl (by omega) (by omega) (by omega))) ?_
                  refine Run.q (v := .int .i64 (((j + 1 : Nat) : Int))) rfl (OpQ.y (OpY.pure rfl)) ?_
                  refine Run.done ?_
                  refine Run.goal ⟨(by repeat (first | exact Same.refl _ _ | refine Same.put rfl ?_ | refine Same.over rfl rfl ?_)), (j + 1, vo), ?_, ?_, ?_, ?_⟩
                  · exact (show j + 1 ≤ n by omega)
                  · show n - (j + 1) < n - j; omega
                  · exact ⟨(by first | rfl | (congr 1; omega) | simp), trivial⟩
                  · exact ((((((Weak.front [.own vo 71 3 (((elC k (elS k (elQ n r k) n) j).2).length) (ints (flCX ((elC k (elS k (elQ n r k) n) j).2))), .own (.slice (some ⟨gr, 0, none⟩) n c_uo1) 3 1 n (ints (nl (elC k (elS k (elQ n r k) n) j).1)), .blk b4 36 [vo], .blk b3 22 [.slice (some ⟨gr, 0, none⟩) n c_uo1]] (.blk b1 28 [va]) []).trans (Weak.front [.blk b1 28 [va], .own vo 71 3 (((elC k (elS k (elQ n r k) n) j).2).length) (ints (flCX ((elC k (elS k (elQ n r k) n) j).2))), .own (.slice (some ⟨gr, 0, none⟩) n c_uo1) 3 1 n (ints (nl (elC k (elS k (elQ n r k) n) j).1)), .blk b4 36 [vo]] (.blk b3 22 [.slice (some ⟨gr, 0, none⟩) n c_uo1]) [])).trans (Weak.front [.blk b3 22 [.slice (some ⟨gr, 0, none⟩) n c_uo1], .blk b1 28 [va], .own vo 71 3 (((elC k (elS k (elQ n r k) n) j).2).length) (ints (flCX ((elC k (elS k (elQ n r k) n) j).2))), .own (.slice (some ⟨gr, 0, none⟩) n c_uo1) 3 1 n (ints (nl (elC k (elS k (elQ n r k) n) j).1))] (.blk b4 36 [vo]) [])).trans (Weak.front [.blk b4 36 [vo], .blk b3 22 [.slice (some ⟨gr, 0, none⟩) n c_uo1], .blk b1 28 [va], .own vo 71 3 (((elC k (elS k (elQ n r k) n) j).2).length) (ints (flCX ((elC k (elS k (elQ n r k) n) j).2)))] (.own (.slice (some ⟨gr, 0, none⟩) n c_uo1) 3 1 n (ints (nl (elC k (elS k (elQ n r k) n) j).1))) [])).trans (Weak.front [.own (.slice (some ⟨gr, 0, none⟩) n c_uo1) 3 1 n (ints (nl (elC k (elS k (elQ n r k) n) j).1)), .blk b4 36 [vo], .blk b3 22 [.slice (some ⟨gr, 0, none⟩) n c_uo1], .blk b1 28 [va]] (.own vo 71 3 (((elC k (elS k (elQ n r k) n) j).2).length) (ints (flCX ((elC k (elS k (elQ n r k) n) j).2)))) [])).trans (Some'.weak (.takeEq (by first | rfl | (rw [hC0]; done) | (rw [hC0]; rfl) | (rw [hX]; done) | (rw [hX]; rfl)) (.takeEq (by first | rfl | (rw [hC0]; done) | (rw [hC0]; rfl) | (rw [hX]; done) | (rw [hX]; rfl)) (.take (.take (.take (.nil _))))))))
              · have p52 := h52; try simp only [bs] at p52
                have hjn : j = n := by omega
                have hQ : elQ n r (k + 1) = elC k (elS k (elQ n r k) n) j := by rw [hjn]; rfl
                refine Run.exit rfl ?_
                refine Run.blockEnd ?_
                refine Run.region ?_
                refine Run.q (v := .int .i64 (((k + 1 : Nat) : Int))) rfl (OpQ.y (OpY.add rfl rfl (by omega) (by omega) (by omega))) ?_
                refine Run.q (v := .int .i64 (((k + 1 : Nat) : Int))) rfl (OpQ.y (OpY.pure rfl)) ?_
                refine Run.done ?_
                refine Run.goal ⟨(by repeat (first | exact Same.refl _ _ | refine Same.put rfl ?_ | refine Same.over rfl rfl ?_)), (k + 1, vo), ?_, ?_, ?_, ?_⟩
                · exact (show k + 1 ≤ n by omega)
                · show n - (k + 1) < n - k; omega
                · exact ⟨(by first | rfl | (congr 1; omega) | simp), trivial⟩
                · exact ((((((Weak.front [.own vo 71 3 (((elC k (elS k (elQ n r k) n) j).2).length) (ints (flCX ((elC k (elS k (elQ n r k) n) j).2))), .own (.slice (some ⟨gr, 0, none⟩) n c_uo1) 3 1 n (ints (nl (elC k (elS k (elQ n r k) n) j).1)), .blk b4 36 [vo], .blk b3 22 [.slice (some ⟨gr, 0, none⟩) n c_uo1]] (.blk b1 28 [va]) []).trans (Weak.front [.blk b1 28 [va], .own vo 71 3 (((elC k (elS k (elQ n r k) n) j).2).length) (ints (flCX ((elC k (elS k (elQ n r k) n) j).2))), .own (.slice (some ⟨gr, 0, none⟩) n c_uo1) 3 1 n (ints (nl (elC k (elS k (elQ n r k) n) j).1)), .blk b4 36 [vo]] (.blk b3 22 [.slice (some ⟨gr, 0, none⟩) n c_uo1]) [])).trans (Weak.front [.blk b3 22 [.slice (some ⟨gr, 0, none⟩) n c_uo1], .blk b1 28 [va], .own vo 71 3 (((elC k (elS k (elQ n r k) n) j).2).length) (ints (flCX ((elC k (elS k (elQ n r k) n) j).2))), .own (.slice (some ⟨gr, 0, none⟩) n c_uo1) 3 1 n (ints (nl (elC k (elS k (elQ n r k) n) j).1))] (.blk b4 36 [vo]) [])).trans (Weak.front [.blk b4 36 [vo], .blk b3 22 [.slice (some ⟨gr, 0, none⟩) n c_uo1], .blk b1 28 [va], .own vo 71 3 (((elC k (elS k (elQ n r k) n) j).2).length) (ints (flCX ((elC k (elS k (elQ n r k) n) j).2)))] (.own (.slice (some ⟨gr, 0, none⟩) n c_uo1) 3 1 n (ints (nl (elC k (elS k (elQ n r k) n) j).1))) [])).trans (Weak.front [.own (.slice (some ⟨gr, 0, none⟩) n c_uo1) 3 1 n (ints (nl (elC k (elS k (elQ n r k) n) j).1)), .blk b4 36 [vo], .blk b3 22 [.slice (some ⟨gr, 0, none⟩) n c_uo1], .blk b1 28 [va]] (.own vo 71 3 (((elC k (elS k (elQ n r k) n) j).2).length) (ints (flCX ((elC k (elS k (elQ n r k) n) j).2)))) [])).trans (Some'.weak (.takeEq (by first | rfl | (rw [hQ]; done) | (rw [hQ]; rfl) | simp [elQ, flCX, ints]) (.takeEq (by first | rfl | (rw [hQ]; done) | (rw [hQ]; rfl) | simp [elQ, flCX, ints]) (.take (.take (.take (.nil _))))))))
    · have p17 := h17; try simp only [bs] at p17
      have hkn : k = n := by omega
      have hW : elW n r = (elQ n r k).2 := by rw [hkn]; rfl
      refine Run.exit rfl ?_
      refine Run.seq ?_
      refine Run.region ?_
      refine Run.q (v := vo) rfl (OpQ.y (OpY.load1 Tone_36 rfl (Cells.blk (.tail _ (.tail _ (List.Mem.head _))) ⟨rfl, trivial⟩))) ?_
      refine Run.q (v := vo) rfl (OpQ.y (OpY.pure rfl)) ?_
      refine Run.done ?_
      refine Run.ret ?_
      refine ⟨vo, [.own vo 71 3 ((elW n r).length) (ints (flCX (elW n r)))], Out.one rfl rfl, (Some'.weak (.takeEq (by rw [hW]) (.nil _))), ?_⟩
      rfl

theorem l12CX_n {va : Value} {l : List Nat} {a b n : Nat} {w : World} (hl : l.length = n) (h5 : n ≤ 5) (ha5 : a < n) (hb5 : b < n) (hb : ∀ i, nx l i < 32) (ha : Sl w va 1 n (ints (nl l))) : Calls Try.prog 71 #[.agg #[va], .int .i64 (a : Nat), .int .i64 (b : Nat)] w (Post No w fun v H => ∃ u, v = .agg #[u] ∧ H = [.own u 3 1 n (ints (nl (cx l (a, b))))]) := by
  subst hl
  exact l12CX_spec h5 ha5 hb5 hb ha

set_option maxHeartbeats 2000000 in
set_option maxRecDepth 20000 in
theorem l12Reduce_spec {va : Value} {n : Nat} {r : List Nat} {w : World} (hl : r.length = n) (h1 : 1 ≤ n) (h5 : n ≤ 5) (hb : ∀ i, nx r i < 2 ^ n) (ha : Sl w va 1 n (ints (nl r))) : Calls Try.prog 103 #[.agg #[va]] w (Post No w fun v H => H = [.own v 71 3 (elW n r).length (ints (flCX (elW n r)))]) := by
  have hnl := nl_length r
  refine enter (n := 91) (args := [.agg #[va]]) Try.func103 rfl rfl (St.empty _ _) ?_
  refine Run.seq ?_
  refine Run.region ?_
  refine Run.step rfl (OpStep.box (us := [va]) rfl fun b1 => ?_)
  refine Run.q (v := .slice none 0 0) rfl (OpQ.y (OpY.pure rfl)) ?_
  refine Run.done ?_
  refine Run.seq ?_
  refine Run.region ?_
  refine Run.q (v := .pointer (some ⟨b1, 0, none⟩)) rfl (OpQ.y (OpY.fieldAddr Tfo_28_0 rfl rfl)) ?_
  refine Run.q (v := va) rfl (OpQ.y (OpY.load1 Tone_22 rfl (Cells.blk (.head _) ⟨rfl, trivial⟩))) ?_
  refine Run.step rfl (OpStep.call (vs := [va]) (caps := []) Tcall_92 rfl rfl (fun w hs => l1Own_spec (by omega) (hs.sl ha)) ?_)
  rintro uo _ rfl
  show Run _ _ (putF _ _ _ uo) [.own uo 3 1 n (ints (nl r)), .blk b1 28 [va]]
  refine Run.formOwn (.head _) (fun A_uo1 c_uo1 hv hcapc_uo1 hmaxc_uo1 => ?_) (fun _ _ _ => ⟨nofun, nofun, nofun⟩)
  subst hv
  refine Run.q (v := .agg #[.slice A_uo1 n c_uo1]) rfl (OpQ.y (OpY.build (cs := [.slice A_uo1 n c_uo1]) (by kernel_rfl))) ?_
  refine Run.step rfl (OpStep.alloc (zs := [.slice none 0 0]) Tzero_28 fun b2 => ?_)
  refine Run.step rfl (OpStep.storeAll (us := [.slice A_uo1 n c_uo1]) Tsize_28 rfl rfl rfl (.here _) rfl ?_)
  refine Run.done ?_
  refine Run.seq ?_
  refine Run.region ?_
  refine Run.q (v := .pointer (some ⟨b2, 0, none⟩)) rfl (OpQ.y (OpY.fieldAddr Tfo_28_0 rfl rfl)) ?_
  refine Run.q (v := .slice A_uo1 n c_uo1) rfl (OpQ.y (OpY.load1 Tone_22 rfl (Cells.blk (.head _) ⟨rfl, trivial⟩))) ?_
  refine Run.q (v := .int .i64 (((n : Nat) : Int))) rfl (OpQ.y (OpY.len Tsl_22 rfl)) ?_
  refine Run.q (v := .int .i64 (((n : Nat) : Int))) rfl (OpQ.y (OpY.pure rfl)) ?_
  refine Run.done ?_
  refine Run.seq ?_
  refine Run.region ?_
  refine Run.q (v := .slice none 0 0) rfl (OpQ.y (OpY.pure rfl)) ?_
  refine Run.done ?_
  refine Run.seq ?_
  refine Run.seq ?_
  refine Run.region ?_
  refine Run.q (v := .int .i64 0) rfl (OpQ.y (OpY.pure rfl)) ?_
  refine Run.done ?_
  refine Run.weak (H' := [.own (.slice none 0 0) 71 3 0 ([]), .blk b2 28 [.slice A_uo1 n c_uo1], .own (.slice A_uo1 n c_uo1) 3 1 n (ints (nl r)), .blk b1 28 [va]]) (Weak.nilOwn _ _) ?_ ⟨_, _, rfl, fun _ => nofun, fun _ => nofun⟩
  refine Run.block ?_
  refine Run.loop (ι := Nat × Value × Value) ([5, 6, 7, 8, 16, 17, 18, 19, 20, 21, 22, 23, 24, 25, 26, 27, 28, 29, 30, 31, 32, 33, 34, 35, 36, 37, 38, 39, 40, 41, 42, 43, 44, 45, 46, 47, 48, 49, 50, 51, 52, 53, 54, 55, 56, 57, 58, 59, 60, 61] ++ [62, 63, 64, 65, 66, 67, 68, 69, 70, 71, 72, 73, 74, 75, 76, 77, 78, 79, 80, 81, 82, 83, 84, 85, 86, 87, 88, 89]) (fun ⟨k, vo, vr⟩ => [(5, vo), (6, .int .i64 (((k : Nat) : Int)))]) (fun ⟨k, vo, vr⟩ => [.own vo 71 3 (((elQ n r k).2).length) (ints (flCX ((elQ n r k).2))), .own vr 3 1 n (ints (nl (elQ n r k).1)), .blk b2 28 [vr], .blk b1 28 [va]]) (fun ⟨k, vo, vr⟩ => k ≤ n) (fun ⟨k, vo, vr⟩ => n - k) (0, .slice none 0 0, .slice A_uo1 n c_uo1) ?_ ?_ ?_ ?_
  · exact Nat.zero_le _
  · exact ⟨rfl, rfl, trivial⟩
  · exact (((((Weak.front [.own (.slice none 0 0) 71 3 0 ([]), .blk b2 28 [.slice A_uo1 n c_uo1], .own (.slice A_uo1 n c_uo1) 3 1 n (ints (nl r))] (.blk b1 28 [va]) []).trans (Weak.front [.blk b1 28 [va], .own (.slice none 0 0) 71 3 0 ([])] (.blk b2 28 [.slice A_uo1 n c_uo1]) [.own (.slice A_uo1 n c_uo1) 3 1 n (ints (nl r))])).trans (Weak.front [.blk b2 28 [.slice A_uo1 n c_uo1], .blk b1 28 [va], .own (.slice none 0 0) 71 3 0 ([])] (.own (.slice A_uo1 n c_uo1) 3 1 n (ints (nl r))) [])).trans (Weak.front [.own (.slice A_uo1 n c_uo1) 3 1 n (ints (nl r)), .blk b2 28 [.slice A_uo1 n c_uo1], .blk b1 28 [va]] (.own (.slice none 0 0) 71 3 0 ([])) [])).trans (Some'.weak (.takeEq (by first | rfl | (rw [hQ]; done) | (rw [hQ]; rfl) | simp [elQ, flCX, ints]) (.takeEq (by first | rfl | (rw [hQ]; done) | (rw [hQ]; rfl) | simp [elQ, flCX, ints]) (.takeEq (by first | rfl | (rw [hQ]; done) | (rw [hQ]; rfl) | simp [elQ, flCX, ints]) (.take (.nil _)))))))
  · rintro ⟨k, vo, vr⟩ fr hinv
    show Run _ _ (over _ _ [(5, vo), (6, .int .i64 (((k : Nat) : Int)))] fr) [.own vo 71 3 (((elQ n r k).2).length) (ints (flCX ((elQ n r k).2))), .own vr 3 1 n (ints (nl (elQ n r k).1)), .blk b2 28 [vr], .blk b1 28 [va]]
    try dsimp only at hinv
    refine Run.seq ?_
    refine Run.seq ?_
    refine Run.region ?_
    refine Run.q (v := .int .i64 (((k : Nat) : Int))) rfl (OpQ.y (OpY.pure rfl)) ?_
    refine Run.q (v := .int .i64 (((n : Nat) : Int))) rfl (OpQ.y (OpY.pure rfl)) ?_
    refine Run.q (v := .bool (decide ((((k : Nat) : Int)) < (((n : Nat) : Int))))) rfl (OpQ.y (OpY.pure rfl)) ?_
    refine Run.done ?_
    refine Run.cond (b := decide ((((k : Nat) : Int)) < (((n : Nat) : Int)))) rfl (fun h18 => ?_) (fun h18 => ?_)
    · have p18 := h18; try simp only [bs] at p18
      have hkn : k < n := by omega
      have hf1 := (elQ_ok (m := r) k (by omega)).facts hl hb h5
      have hlen1 := elQ_len n r k
      have hm50 : k * (2 * n) ≤ 50 := Nat.le_trans (Nat.mul_le_mul (show k ≤ 5 by omega) (Nat.mul_le_mul (Nat.le_refl 2) h5)) (by decide)
      refine Run.skip ?_
      refine Run.seq ?_
      refine Run.block ?_
      refine Run.seq ?_
      refine Run.seq ?_
      refine Run.region ?_
      refine Run.q (v := .int .i64 (((k : Nat) : Int))) rfl (OpQ.y (OpY.pure rfl)) ?_
      refine Run.q (v := .int .i64 (((k + 1 : Nat) : Int))) rfl (OpQ.y (OpY.add rfl rfl (by omega) (by omega) (by omega))) ?_
      refine Run.q (v := .int .i64 (((k + 1 : Nat) : Int))) rfl (OpQ.y (OpY.pure rfl)) ?_
      refine Run.done ?_
      refine Run.block ?_
      have hS0 : elS k (elQ n r k) (k + 1) = elQ n r k := elS_low _ (Nat.le_refl _)
      refine Run.loop (ι := Nat × Value × Value) [5, 7, 23, 24, 25, 26, 27, 28, 29, 30, 31, 32, 33, 34, 35, 36, 37, 38, 39, 40, 41, 42, 43, 44, 45, 46, 47, 48, 49, 50, 51, 52, 53, 54, 55, 56, 57, 58, 59] (fun ⟨i, vo, vr⟩ => [(5, vo), (7, .int .i64 (((i : Nat) : Int)))]) (fun ⟨i, vo, vr⟩ => [.own vo 71 3 (((elS k (elQ n r k) i).2).length) (ints (flCX ((elS k (elQ n r k) i).2))), .own vr 3 1 n (ints (nl (elS k (elQ n r k) i).1)), .blk b2 28 [vr], .blk b1 28 [va]]) (fun ⟨i, vo, vr⟩ => k + 1 ≤ i ∧ i ≤ n) (fun ⟨i, vo, vr⟩ => n - i) (k + 1, vo, vr) ?_ ?_ ?_ ?_
      · exact ⟨Nat.le_refl _, (show k + 1 ≤ n by omega)⟩
      · exact ⟨rfl, rfl, trivial⟩
      · exact (((((Weak.front [.own vo 71 3 (((elQ n r k).2).length) (ints (flCX ((elQ n r k).2))), .own vr 3 1 n (ints (nl (elQ n r k).1)), .blk b2 28 [vr]] (.blk b1 28 [va]) []).trans (Weak.front [.blk b1 28 [va], .own vo 71 3 (((elQ n r k).2).length) (ints (flCX ((elQ n r k).2))), .own vr 3 1 n (ints (nl (elQ n r k).1))] (.blk b2 28 [vr]) [])).trans (Weak.front [.blk b2 28 [vr], .blk b1 28 [va], .own vo 71 3 (((elQ n r k).2).length) (ints (flCX ((elQ n r k).2)))] (.own vr 3 1 n (ints (nl (elQ n r k).1))) [])).trans (Weak.front [.own vr 3 1 n (ints (nl (elQ n r k).1)), .blk b2 28 [vr], .blk b1 28 [va]] (.own vo 71 3 (((elQ n r k).2).length) (ints (flCX ((elQ n r k).2)))) [])).trans (Some'.weak (.takeEq (by first | rfl | (rw [hS0]; done) | (rw [hS0]; rfl) | (rw [hX]; done) | (rw [hX]; rfl)) (.takeEq (by first | rfl | (rw [hS0]; done) | (rw [hS0]; rfl) | (rw [hX]; done) | (rw [hX]; rfl)) (.take (.take (.nil _)))))))
      · rintro ⟨i, vo, vr⟩ fr hinv
        show Run _ _ (over _ _ [(5, vo), (7, .int .i64 (((i : Nat) : Int)))] fr) [.own vo 71 3 (((elS k (elQ n r k) i).2).length) (ints (flCX ((elS k (elQ n r k) i).2))), .own vr 3 1 n (ints (nl (elS k (elQ n r k) i).1)), .blk b2 28 [vr], .blk b1 28 [va]]
        try dsimp only at hinv
        refine Run.seq ?_
        refine Run.seq ?_
        refine Run.cut (ι := Unit) [23, 24, 25, 26, 27, 28, 29, 30, 31, 32, 33, 34, 35, 36, 37] (fun u0 => [(37, .bool (decide (i < n) && !((nx (elS k (elQ n r k) i).1 k).testBit k)))]) (fun u0 => [.own vo 71 3 (((elS k (elQ n r k) i).2).length) (ints (flCX ((elS k (elQ n r k) i).2))), .own vr 3 1 n (ints (nl (elS k (elQ n r k) i).1)), .blk b2 28 [vr], .blk b1 28 [va]]) (fun u0 => True) ?_ ?_
        · refine Run.region ?_
          refine Run.q (v := .int .i64 (((i : Nat) : Int))) rfl (OpQ.y (OpY.pure rfl)) ?_
          refine Run.q (v := .int .i64 (((n : Nat) : Int))) rfl (OpQ.y (OpY.pure rfl)) ?_
          refine Run.q (v := .bool (decide ((((i : Nat) : Int)) < (((n : Nat) : Int))))) rfl (OpQ.y (OpY.pure rfl)) ?_
          rcases Bool.eq_false_or_eq_true (decide ((((i : Nat) : Int)) < (((n : Nat) : Int)))) with h26 | h26
          · refine Run.q (v := .bool true) rfl (OpQ.y (OpY.moveB rfl h26)) ?_
            have p26 := h26; try simp only [bs] at p26
            have hin : i < n := by omega
            have hf2 := (elS_ok (k := k) (by omega) (elQ_ok (m := r) k (by omega)) i (by omega)).facts hl hb h5
            have hlen2 := elS_len k (elQ n r k) i
            refine Run.openOwn (.tail _ (List.Mem.head _)) (by omega) (fun gq4 cq4 hvgq4 hcapgq4 _ => ?_) (fun _ _ _ => ⟨nofun, nofun, nofun⟩)
            subst hvgq4
            refine Run.q (v := .pointer (some ⟨b2, 0, none⟩)) rfl (OpQ.y (OpY.fieldAddr Tfo_28_0 rfl rfl)) ?_
            refine Run.q (v := .slice (some ⟨gq4, 0, none⟩) n cq4) rfl (OpQ.y (OpY.load1 Tone_22 rfl (Cells.blk (.tail _ (.tail _ (List.Mem.head _))) ⟨rfl, trivial⟩))) ?_
            refine Run.q (v := .int .i64 (((k : Nat) : Int))) rfl (OpQ.y (OpY.pure rfl)) ?_
            refine Run.q (v := .pointer (some ⟨gq4, k, none⟩)) rfl (OpQ.y (OpY.index (kk := k) Tsl_22 rfl rfl (by omega) (by omega) (by first | rfl | omega))) ?_
            refine Run.q (v := .int .i64 (ix (nl (elS k (elQ n r k) i).1) (k))) rfl (OpQ.y (OpY.load1 Tone_3 rfl (Cells.own0 (.tail _ (List.Mem.head _)) (pre1 (by first | omega | (simp; omega)))))) ?_
            refine Run.q (v := .int .i64 (((k : Nat) : Int))) rfl (OpQ.y (OpY.pure rfl)) ?_
            refine Run.q (v := .int .u64 (((k : Nat) : Int))) rfl (OpQ.y (OpY.convIntEq Tsome_3 Tint_96 rfl (by rw [IntKind.wrap_u64]; omega))) ?_
            refine Run.q (v := .int .i64 ((ix (nl (elS k (elQ n r k) i).1) (k)) >>> k)) rfl (OpQ.y (OpY.shr rfl rfl (by first | rfl | omega) (by omega))) ?_
            refine Run.q (v := .int .i64 (((ix (nl (elS k (elQ n r k) i).1) (k)) >>> k) % 2)) rfl (OpQ.y (OpY.and1 rfl rfl)) ?_
            refine Run.q (v := .bool ((((ix (nl (elS k (elQ n r k) i).1) (k)) >>> k) % 2) == 0)) rfl (OpQ.y (OpY.pure rfl)) ?_
            refine Run.q (v := .bool ((((ix (nl (elS k (elQ n r k) i).1) (k)) >>> k) % 2) == 0)) rfl (OpQ.y (OpY.pure rfl)) ?_
            refine Run.done ?_
            refine Run.goal ⟨(by repeat (first | exact Same.refl _ _ | refine Same.put rfl ?_ | refine Same.over rfl rfl ?_)), (), ?_, ?_, ?_⟩
            · trivial
            · exact ⟨(by (show Value.bool _ = Value.bool _; congr 1; first | (rw [bz0, decide_eq_true hin, Bool.true_and]; done) | (rw [decide_eq_false hin]; rfl))), trivial⟩
            · exact (Some'.weak (.takeEq (by first | rfl | simp) (.takeEq (by first | rfl | simp) (.takeEq (by first | rfl | simp) (.take (.nil _))))))
          · refine Run.q (v := .bool false) rfl (OpQ.y (OpY.moveB rfl h26)) ?_
            have p26 := h26; try simp only [bs] at p26
            have hin : ¬ i < n := by omega
            refine Run.pass rfl ?_
            refine Run.pass rfl ?_
            refine Run.pass rfl ?_
            refine Run.pass rfl ?_
            refine Run.pass rfl ?_
            refine Run.pass rfl ?_
            refine Run.pass rfl ?_
            refine Run.pass rfl ?_
            refine Run.pass rfl ?_
            refine Run.pass rfl ?_
            refine Run.q (v := .bool false) rfl (OpQ.y (OpY.pure rfl)) ?_
            refine Run.done ?_
            refine Run.goal ⟨(by repeat (first | exact Same.refl _ _ | refine Same.put rfl ?_ | refine Same.over rfl rfl ?_)), (), ?_, ?_, ?_⟩
            · trivial
            · exact ⟨(by (show Value.bool _ = Value.bool _; congr 1; first | (rw [bz0, decide_eq_true hin, Bool.true_and]; done) | (rw [decide_eq_false hin]; rfl))), trivial⟩
            · exact (Some'.weak (.takeEq (by first | rfl | simp) (.takeEq (by first | rfl | simp) (.take (.take (.nil _))))))
        · rintro u0 fr hcut
          show Run _ _ (over _ _ [(37, .bool (decide (i < n) && !((nx (elS k (elQ n r k) i).1 k).testBit k)))] fr) [.own vo 71 3 (((elS k (elQ n r k) i).2).length) (ints (flCX ((elS k (elQ n r k) i).2))), .own vr 3 1 n (ints (nl (elS k (elQ n r k) i).1)), .blk b2 28 [vr], .blk b1 28 [va]]
          refine Run.cond (b := decide (i < n) && !((nx (elS k (elQ n r k) i).1 k).testBit k)) rfl (fun h37 => ?_) (fun h37 => ?_)
          · have p37 := h37; try simp only [bs] at p37
            have hin : i < n := of_decide_eq_true (Bool.and_eq_true_iff.1 h37).1
            have hb0 : (nx (elS k (elQ n r k) i).1 k).testBit k = false := by have h := (Bool.and_eq_true_iff.1 h37).2; simpa using h
            have hf2 := (elS_ok (k := k) (by omega) (elQ_ok (m := r) k (by omega)) i (by omega)).facts hl hb h5
            have hlen2 := elS_len k (elQ n r k) i
            refine Run.openOwn (.tail _ (List.Mem.head _)) (by omega) (fun gq4 cq4 hvgq4 hcapgq4 _ => ?_) (fun _ _ _ => ⟨nofun, nofun, nofun⟩)
            subst hvgq4
            refine Run.skip ?_
            refine Run.seq ?_
            refine Run.block ?_
            refine Run.seq ?_
            refine Run.region ?_
            refine Run.q (v := .pointer (some ⟨b2, 0, none⟩)) rfl (OpQ.y (OpY.fieldAddr Tfo_28_0 rfl rfl)) ?_
            refine Run.q (v := .slice (some ⟨gq4, 0, none⟩) n cq4) rfl (OpQ.y (OpY.load1 Tone_22 rfl (Cells.blk (.tail _ (.tail _ (List.Mem.head _))) ⟨rfl, trivial⟩))) ?_
            refine Run.q (v := .int .i64 (((i : Nat) : Int))) rfl (OpQ.y (OpY.pure rfl)) ?_
            refine Run.q (v := .pointer (some ⟨gq4, i, none⟩)) rfl (OpQ.y (OpY.index (kk := i) Tsl_22 rfl rfl (by omega) (by omega) (by first | rfl | omega))) ?_
            refine Run.q (v := .int .i64 (ix (nl (elS k (elQ n r k) i).1) (i))) rfl (OpQ.y (OpY.load1 Tone_3 rfl (Cells.own0 (.tail _ (List.Mem.head _)) (pre1 (by first | omega | (simp; omega)))))) ?_
            refine Run.q (v := .int .i64 (((k : Nat) : Int))) rfl (OpQ.y (OpY.pure rfl)) ?_
            refine Run.q (v := .int .u64 (((k : Nat) : Int))) rfl (OpQ.y (OpY.convIntEq Tsome_3 Tint_96 rfl (by rw [IntKind.wrap_u64]; omega))) ?_
            refine Run.q (v := .int .i64 ((ix (nl (elS k (elQ n r k) i).1) (i)) >>> k)) rfl (OpQ.y (OpY.shr rfl rfl (by first | rfl | omega) (by omega))) ?_
            refine Run.q (v := .int .i64 (((ix (nl (elS k (elQ n r k) i).1) (i)) >>> k) % 2)) rfl (OpQ.y (OpY.and1 rfl rfl)) ?_
            refine Run.q (v := .bool ((((ix (nl (elS k (elQ n r k) i).1) (i)) >>> k) % 2) == 1)) rfl (OpQ.y (OpY.pure rfl)) ?_
            refine Run.done ?_
            refine Run.cond (b := (((ix (nl (elS k (elQ n r k) i).1) (i)) >>> k) % 2) == 1) rfl (fun h49 => ?_) (fun h49 => ?_)
            · have p49 := h49; try simp only [bs] at p49
              have hX := elS_add (by omega) hb0 (bt1 p49)
              refine Run.seq ?_
              refine Run.region ?_
              refine Run.q (v := .agg #[.slice (some ⟨gq4, 0, none⟩) n cq4]) rfl (OpQ.y (OpY.loadN (cs := [.slice (some ⟨gq4, 0, none⟩) n cq4]) Tagg_28 rfl (Cells.blk (.tail _ (.tail _ (List.Mem.head _))) ⟨rfl, trivial⟩))) ?_
              refine Run.q (v := .int .i64 (((i : Nat) : Int))) rfl (OpQ.y (OpY.pure rfl)) ?_
              refine Run.q (v := .int .i64 (((k : Nat) : Int))) rfl (OpQ.y (OpY.pure rfl)) ?_
              refine Run.step rfl (OpStep.call (vs := [.agg #[.slice (some ⟨gq4, 0, none⟩) n cq4], .int .i64 (((i : Nat) : Int)), .int .i64 (((k : Nat) : Int))]) (caps := []) Tcall_71 rfl rfl (fun w hs => l12CX_n hf2.1 h5 (by omega) (by omega) hf2.2.2 (hs.slOwn (.tail _ (List.Mem.head _)))) ?_)
              rintro _ _ ⟨ur1, rfl, rfl⟩
              show Run _ _ (putF _ _ _ (.agg #[ur1])) [.own ur1 3 1 n (ints (nl (addE (elS k (elQ n r k) i) (i, k)).1)), .own vo 71 3 (((elS k (elQ n r k) i).2).length) (ints (flCX ((elS k (elQ n r k) i).2))), .own (.slice (some ⟨gq4, 0, none⟩) n cq4) 3 1 n (ints (nl (elS k (elQ n r k) i).1)), .blk b2 28 [.slice (some ⟨gq4, 0, none⟩) n cq4], .blk b1 28 [va]]
              refine Run.formOwn (.head _) (fun A_ur11 c_ur11 hv hcapc_ur11 hmaxc_ur11 => ?_) (fun _ _ _ => ⟨nofun, nofun, nofun⟩)
              subst hv
              refine Run.step rfl (OpStep.storeAll (us := [.slice A_ur11 n c_ur11]) Tsize_28 rfl rfl rfl (.there _ (.there _ (.there _ (.here _)))) rfl ?_)
              refine Run.done ?_
              refine Run.region ?_
              refine Run.q (v := vo) rfl (OpQ.y (OpY.pure rfl)) ?_
              refine Run.q (v := .int .i64 (((i : Nat) : Int))) rfl (OpQ.y (OpY.pure rfl)) ?_
              refine Run.q (v := .int .i64 (((k : Nat) : Int))) rfl (OpQ.y (OpY.pure rfl)) ?_
              refine Run.q (v := .agg #[.int .i64 9, .int .i64 (((i : Nat) : Int)), .int .i64 (((k : Nat) : Int))]) rfl (OpQ.y (OpY.build (cs := [.int .i64 9, .int .i64 (((i : Nat) : Int)), .int .i64 (((k : Nat) : Int))]) (by kernel_rfl))) ?_
              refine Run.step rfl (OpStep.buildSlice (us := [.int .i64 9, .int .i64 (((i : Nat) : Int)), .int .i64 (((k : Nat) : Int))]) Tsl_36 (by decide) (by decide) ⟨rfl, [.int .i64 9, .int .i64 (((i : Nat) : Int)), .int .i64 (((k : Nat) : Int))], _, rfl, rfl, rfl, rfl⟩ rfl fun b3 => ?_)
              refine Run.step rfl (OpStep.append (H1 := [.own (.slice (some ⟨b3, 0, none⟩) 1 1) 71 3 1 ([.int .i64 9, .int .i64 (((i : Nat) : Int)), .int .i64 (((k : Nat) : Int))]), .own (.slice A_ur11 n c_ur11) 3 1 n (ints (nl (addE (elS k (elQ n r k) i) (i, k)).1))]) (H2 := [.own (.slice (some ⟨gq4, 0, none⟩) n cq4) 3 1 n (ints (nl (elS k (elQ n r k) i).1)), .blk b2 28 [.slice A_ur11 n c_ur11], .blk b1 28 [va]]) (v := vo) (u := .slice (some ⟨b3, 0, none⟩) 1 1) (n := ((elS k (elQ n r k) i).2).length) (m := 1) (xs := ints (flCX ((elS k (elQ n r k) i).2))) (ys := [.int .i64 9, .int .i64 (((i : Nat) : Int)), .int .i64 (((k : Nat) : Int))]) Tsl_36 (by decide) rfl rfl rfl rfl (fun w hs => hs.slOwn (.head _)) (by simp [Value.oneCell']) (by omega) (by simp only [maxLen]; omega) fun av1 hnav1 => ?_)
              refine Run.weak (H' := [.own (.slice (some ⟨b3, 0, none⟩) 1 1) 71 3 1 ([.int .i64 9, .int .i64 (((i : Nat) : Int)), .int .i64 (((k : Nat) : Int))]), .own (.slice A_ur11 n c_ur11) 3 1 n (ints (nl (addE (elS k (elQ n r k) i) (i, k)).1)), .own av1 71 3 (((addE (elS k (elQ n r k) i) (i, k)).2).length) (ints (flCX ((addE (elS k (elQ n r k) i) (i, k)).2))), .own (.slice (some ⟨gq4, 0, none⟩) n cq4) 3 1 n (ints (nl (elS k (elQ n r k) i).1)), .blk b2 28 [.slice A_ur11 n c_ur11], .blk b1 28 [va]]) (Some'.weak (.take (.take (.takeEq (by rw [show (addE (elS k (elQ n r k) i) (i, k)).2 = (elS k (elQ n r k) i).2 ++ [(i, k)] from rfl, ← ints_flCX]; simp) (.take (.take (.take (.nil _)))))))) ?_ ⟨_, _, rfl, fun _ => nofun, fun _ => nofun⟩
              refine Run.q (v := av1) rfl (OpQ.y (OpY.pure rfl)) ?_
              refine Run.done ?_
              refine Run.blockEnd ?_
              refine Run.region ?_
              refine Run.q (v := .int .i64 (((i : Nat) : Int))) rfl (OpQ.y (OpY.pure rfl)) ?_
              refine Run.q (v := .int .i64 (((i + 1 : Nat) : Int))) rfl (OpQ.y (OpY.add rfl rfl (by omega) (by omega) (by omega))) ?_
              refine Run.q (v := .int .i64 (((i + 1 : Nat) : Int))) rfl (OpQ.y (OpY.pure rfl)) ?_
              refine Run.done ?_
              refine Run.goal ⟨(by repeat (first | exact Same.refl _ _ | refine Same.put rfl ?_ | refine Same.over rfl rfl ?_)), (i + 1, av1, .slice A_ur11 n c_ur11), ?_, ?_, ?_, ?_⟩
              · exact ⟨by omega, by omega⟩
              · show n - (i + 1) < n - i; omega
              · exact ⟨(by first | rfl | (congr 1; omega) | simp), (by first | rfl | (congr 1; omega) | simp), trivial⟩
              · exact (((((Weak.front [.own (.slice (some ⟨b3, 0, none⟩) 1 1) 71 3 1 ([.int .i64 9, .int .i64 (((i : Nat) : Int)), .int .i64 (((k : Nat) : Int))]), .own (.slice A_ur11 n c_ur11) 3 1 n (ints (nl (addE (elS k (elQ n r k) i) (i, k)).1)), .own av1 71 3 (((addE (elS k (elQ n r k) i) (i, k)).2).length) (ints (flCX ((addE (elS k (elQ n r k) i) (i, k)).2))), .own (.slice (some ⟨gq4, 0, none⟩) n cq4) 3 1 n (ints (nl (elS k (elQ n r k) i).1)), .blk b2 28 [.slice A_ur11 n c_ur11]] (.blk b1 28 [va]) []).trans (Weak.front [.blk b1 28 [va], .own (.slice (some ⟨b3, 0, none⟩) 1 1) 71 3 1 ([.int .i64 9, .int .i64 (((i : Nat) : Int)), .int .i64 (((k : Nat) : Int))]), .own (.slice A_ur11 n c_ur11) 3 1 n (ints (nl (addE (elS k (elQ n r k) i) (i, k)).1)), .own av1 71 3 (((addE (elS k (elQ n r k) i) (i, k)).2).length) (ints (flCX ((addE (elS k (elQ n r k) i) (i, k)).2))), .own (.slice (some ⟨gq4, 0, none⟩) n cq4) 3 1 n (ints (nl (elS k (elQ n r k) i).1))] (.blk b2 28 [.slice A_ur11 n c_ur11]) [])).trans (Weak.front [.blk b2 28 [.slice A_ur11 n c_ur11], .blk b1 28 [va], .own (.slice (some ⟨b3, 0, none⟩) 1 1) 71 3 1 ([.int .i64 9, .int .i64 (((i : Nat) : Int)), .int .i64 (((k : Nat) : Int))])] (.own (.slice A_ur11 n c_ur11) 3 1 n (ints (nl (addE (elS k (elQ n r k) i) (i, k)).1))) [.own av1 71 3 (((addE (elS k (elQ n r k) i) (i, k)).2).length) (ints (flCX ((addE (elS k (elQ n r k) i) (i, k)).2))), .own (.slice (some ⟨gq4, 0, none⟩) n cq4) 3 1 n (ints (nl (elS k (elQ n r k) i).1))])).trans (Weak.front [.own (.slice A_ur11 n c_ur11) 3 1 n (ints (nl (addE (elS k (elQ n r k) i) (i, k)).1)), .blk b2 28 [.slice A_ur11 n c_ur11], .blk b1 28 [va], .own (.slice (some ⟨b3, 0, none⟩) 1 1) 71 3 1 ([.int .i64 9, .int .i64 (((i : Nat) : Int)), .int .i64 (((k : Nat) : Int))])] (.own av1 71 3 (((addE (elS k (elQ n r k) i) (i, k)).2).length) (ints (flCX ((addE (elS k (elQ n r k) i) (i, k)).2)))) [.own (.slice (some ⟨gq4, 0, none⟩) n cq4) 3 1 n (ints (nl (elS k (elQ n r k) i).1))])).trans (Some'.weak (.takeEq (by first | rfl | (rw [hS0]; done) | (rw [hS0]; rfl) | (rw [hX]; done) | (rw [hX]; rfl)) (.takeEq (by first | rfl | (rw [hS0]; done) | (rw [hS0]; rfl) | (rw [hX]; done) | (rw [hX]; rfl)) (.takeEq (by first | rfl | (rw [hS0]; done) | (rw [hS0]; rfl) | (rw [hX]; done) | (rw [hX]; rfl)) (.take (.nil _)))))))
            · have p49 := h49; try simp only [bs] at p49
              have hX := elS_skip (s := elQ n r k) (bn1 p49)
              refine Run.skip ?_
              refine Run.blockEnd ?_
              refine Run.region ?_
              refine Run.q (v := .int .i64 (((i : Nat) : Int))) rfl (OpQ.y (OpY.pure rfl)) ?_
              refine Run.q (v := .int .i64 (((i + 1 : Nat) : Int))) rfl (OpQ.y (OpY.add rfl rfl (by omega) (by omega) (by omega))) ?_
              refine Run.q (v := .int .i64 (((i + 1 : Nat) : Int))) rfl (OpQ.y (OpY.pure rfl)) ?_
              refine Run.done ?_
              refine Run.goal ⟨(by repeat (first | exact Same.refl _ _ | refine Same.put rfl ?_ | refine Same.over rfl rfl ?_)), (i + 1, vo, .slice (some ⟨gq4, 0, none⟩) n cq4), ?_, ?_, ?_, ?_⟩
              · exact ⟨by omega, by omega⟩
              · show n - (i + 1) < n - i; omega
              · exact ⟨(by first | rfl | (congr 1; omega) | simp), (by first | rfl | (congr 1; omega) | simp), trivial⟩
              · exact (((((Weak.front [.own vo 71 3 (((elS k (elQ n r k) i).2).length) (ints (flCX ((elS k (elQ n r k) i).2))), .own (.slice (some ⟨gq4, 0, none⟩) n cq4) 3 1 n (ints (nl (elS k (elQ n r k) i).1)), .blk b2 28 [.slice (some ⟨gq4, 0, none⟩) n cq4]] (.blk b1 28 [va]) []).trans (Weak.front [.blk b1 28 [va], .own vo 71 3 (((elS k (elQ n r k) i).2).length) (ints (flCX ((elS k (elQ n r k) i).2))), .own (.slice (some ⟨gq4, 0, none⟩) n cq4) 3 1 n (ints (nl (elS k (elQ n r k) i).1))] (.blk b2 28 [.slice (some ⟨gq4, 0, none⟩) n cq4]) [])).trans (Weak.front [.blk b2 28 [.slice (some ⟨gq4, 0, none⟩) n cq4], .blk b1 28 [va], .own vo 71 3 (((elS k (elQ n r k) i).2).length) (ints (flCX ((elS k (elQ n r k) i).2)))] (.own (.slice (some ⟨gq4, 0, none⟩) n cq4) 3 1 n (ints (nl (elS k (elQ n r k) i).1))) [])).trans (Weak.front [.own (.slice (some ⟨gq4, 0, none⟩) n cq4) 3 1 n (ints (nl (elS k (elQ n r k) i).1)), .blk b2 28 [.slice (some ⟨gq4, 0, none⟩) n cq4], .blk b1 28 [va]] (.own vo 71 3 (((elS k (elQ n r k) i).2).length) (ints (flCX ((elS k (elQ n r k) i).2)))) [])).trans (Some'.weak (.takeEq (by first | rfl | (rw [hS0]; done) | (rw [hS0]; rfl) | (rw [hX]; done) | (rw [hX]; rfl)) (.takeEq (by first | rfl | (rw [hS0]; done) | (rw [hS0]; rfl) | (rw [hX]; done) | (rw [hX]; rfl)) (.takeEq (by first | rfl | (rw [hS0]; done) | (rw [hS0]; rfl) | (rw [hX]; done) | (rw [hX]; rfl)) (.take (.nil _)))))))
          · have p37 := h37; try simp only [bs] at p37
            have hEx : elS k (elQ n r k) n = elS k (elQ n r k) i := by
              by_cases hin : i < n
              · have hb0 : (nx (elS k (elQ n r k) i).1 k).testBit k = true := by rw [decide_eq_true hin, Bool.true_and] at h37; simpa using h37
                have h := elS_stop hb0 (n - i); rwa [show i + (n - i) = n by omega] at h
              · rw [show n = i by omega]
            refine Run.exit rfl ?_
            refine Run.seq ?_
            refine Run.region ?_
            refine Run.q (v := .int .i64 0) rfl (OpQ.y (OpY.pure rfl)) ?_
            refine Run.done ?_
            refine Run.block ?_
            have hC0 : elC k (elS k (elQ n r k) n) 0 = elS k (elQ n r k) i := hEx
            refine Run.loop (ι := Nat × Value × Value) [5, 8, 60, 61, 62, 63, 64, 65, 66, 67, 68, 69, 70, 71, 72, 73, 74, 75, 76, 77, 78, 79, 80, 81, 82, 83, 84, 85, 86, 87, 88, 89] (fun ⟨j, vo, vr⟩ => [(5, vo), (8, .int .i64 (((j : Nat) : Int)))]) (fun ⟨j, vo, vr⟩ => [.own vo 71 3 (((elC k (elS k (elQ n r k) n) j).2).length) (ints (flCX ((elC k (elS k (elQ n r k) n) j).2))), .own vr 3 1 n (ints (nl (elC k (elS k (elQ n r k) n) j).1)), .blk b2 28 [vr], .blk b1 28 [va]]) (fun ⟨j, vo, vr⟩ => j ≤ n) (fun ⟨j, vo, vr⟩ => n - j) (0, vo, vr) ?_ ?_ ?_ ?_
            · exact Nat.zero_le _
            · exact ⟨rfl, rfl, trivial⟩
            · exact (((((Weak.front [.own vo 71 3 (((elS k (elQ n r k) i).2).length) (ints (flCX ((elS k (elQ n r k) i).2))), .own vr 3 1 n (ints (nl (elS k (elQ n r k) i).1)), .blk b2 28 [vr]] (.blk b1 28 [va]) []).trans (Weak.front [.blk b1 28 [va], .own vo 71 3 (((elS k (elQ n r k) i).2).length) (ints (flCX ((elS k (elQ n r k) i).2))), .own vr 3 1 n (ints (nl (elS k (elQ n r k) i).1))] (.blk b2 28 [vr]) [])).trans (Weak.front [.blk b2 28 [vr], .blk b1 28 [va], .own vo 71 3 (((elS k (elQ n r k) i).2).length) (ints (flCX ((elS k (elQ n r k) i).2)))] (.own vr 3 1 n (ints (nl (elS k (elQ n r k) i).1))) [])).trans (Weak.front [.own vr 3 1 n (ints (nl (elS k (elQ n r k) i).1)), .blk b2 28 [vr], .blk b1 28 [va]] (.own vo 71 3 (((elS k (elQ n r k) i).2).length) (ints (flCX ((elS k (elQ n r k) i).2)))) [])).trans (Some'.weak (.takeEq (by first | rfl | (rw [hC0]; done) | (rw [hC0]; rfl) | (rw [hX]; done) | (rw [hX]; rfl)) (.takeEq (by first | rfl | (rw [hC0]; done) | (rw [hC0]; rfl) | (rw [hX]; done) | (rw [hX]; rfl)) (.take (.take (.nil _)))))))
            · rintro ⟨j, vo, vr⟩ fr hinv
              show Run _ _ (over _ _ [(5, vo), (8, .int .i64 (((j : Nat) : Int)))] fr) [.own vo 71 3 (((elC k (elS k (elQ n r k) n) j).2).length) (ints (flCX ((elC k (elS k (elQ n r k) n) j).2))), .own vr 3 1 n (ints (nl (elC k (elS k (elQ n r k) n) j).1)), .blk b2 28 [vr], .blk b1 28 [va]]
              try dsimp only at hinv
              refine Run.seq ?_
              refine Run.seq ?_
              refine Run.region ?_
              refine Run.q (v := .int .i64 (((j : Nat) : Int))) rfl (OpQ.y (OpY.pure rfl)) ?_
              refine Run.q (v := .int .i64 (((n : Nat) : Int))) rfl (OpQ.y (OpY.pure rfl)) ?_
              refine Run.q (v := .bool (decide ((((j : Nat) : Int)) < (((n : Nat) : Int))))) rfl (OpQ.y (OpY.pure rfl)) ?_
              refine Run.done ?_
              refine Run.cond (b := decide ((((j : Nat) : Int)) < (((n : Nat) : Int)))) rfl (fun h62 => ?_) (fun h62 => ?_)
              · have p62 := h62; try simp only [bs] at p62
                have hjn : j < n := by omega
                have hf3 := (elC_ok (k := k) (by omega) (elS_ok (k := k) (by omega) (elQ_ok (m := r) k (by omega)) n (Nat.le_refl n)) j (by omega)).facts hl hb h5
                have hlen3 := elC_len k (elS k (elQ n r k) n) j
                have hlen4 := elS_len k (elQ n r k) n
                refine Run.skip ?_
                refine Run.seq ?_
                refine Run.block ?_
                refine Run.seq ?_
                refine Run.region ?_
                refine Run.q (v := .int .i64 (((j : Nat) : Int))) rfl (OpQ.y (OpY.pure rfl)) ?_
                refine Run.q (v := .int .i64 (((k : Nat) : Int))) rfl (OpQ.y (OpY.pure rfl)) ?_
                refine Run.q (v := .bool ((((j : Nat) : Int)) != (((k : Nat) : Int)))) rfl (OpQ.y (OpY.pure rfl)) ?_
                rcases Bool.eq_false_or_eq_true ((((j : Nat) : Int)) != (((k : Nat) : Int))) with h68 | h68
                · refine Run.q (v := .bool true) rfl (OpQ.y (OpY.moveB rfl h68)) ?_
                  have p68 := h68; try simp only [bs] at p68
                  have hjk : j ≠ k := by omega
                  refine Run.openOwn (.tail _ (List.Mem.head _)) (by omega) (fun gq4 cq4 hvgq4 hcapgq4 _ => ?_) (fun _ _ _ => ⟨nofun, nofun, nofun⟩)
                  subst hvgq4
                  refine Run.q (v := .pointer (some ⟨b2, 0, none⟩)) rfl (OpQ.y (OpY.fieldAddr Tfo_28_0 rfl rfl)) ?_
                  refine Run.q (v := .slice (some ⟨gq4, 0, none⟩) n cq4) rfl (OpQ.y (OpY.load1 Tone_22 rfl (Cells.blk (.tail _ (.tail _ (List.Mem.head _))) ⟨rfl, trivial⟩))) ?_
                  refine Run.q (v := .int .i64 (((j : Nat) : Int))) rfl (OpQ.y (OpY.pure rfl)) ?_
                  refine Run.q (v := .pointer (some ⟨gq4, j, none⟩)) rfl (OpQ.y (OpY.index (kk := j) Tsl_22 rfl rfl (by omega) (by omega) (by first | rfl | omega))) ?_
                  refine Run.q (v := .int .i64 (ix (nl (elC k (elS k (elQ n r k) n) j).1) (j))) rfl (OpQ.y (OpY.load1 Tone_3 rfl (Cells.own0 (.tail _ (List.Mem.head _)) (pre1 (by first | omega | (simp; omega)))))) ?_
                  refine Run.q (v := .int .i64 (((k : Nat) : Int))) rfl (OpQ.y (OpY.pure rfl)) ?_
                  refine Run.q (v := .int .u64 (((k : Nat) : Int))) rfl (OpQ.y (OpY.convIntEq Tsome_3 Tint_96 rfl (by rw [IntKind.wrap_u64]; omega))) ?_
                  refine Run.q (v := .int .i64 ((ix (nl (elC k (elS k (elQ n r k) n) j).1) (j)) >>> k)) rfl (OpQ.y (OpY.shr rfl rfl (by first | rfl | omega) (by omega))) ?_
                  refine Run.q (v := .int .i64 (((ix (nl (elC k (elS k (elQ n r k) n) j).1) (j)) >>> k) % 2)) rfl (OpQ.y (OpY.and1 rfl rfl)) ?_
                  refine Run.q (v := .bool ((((ix (nl (elC k (elS k (elQ n r k) n) j).1) (j)) >>> k) % 2) == 1)) rfl (OpQ.y (OpY.pure rfl)) ?_
                  refine Run.q (v := .bool ((((ix (nl (elC k (elS k (elQ n r k) n) j).1) (j)) >>> k) % 2) == 1)) rfl (OpQ.y (OpY.pure rfl)) ?_
                  refine Run.done ?_
                  refine Run.cond (b := (((ix (nl (elC k (elS k (elQ n r k) n) j).1) (j)) >>> k) % 2) == 1) rfl (fun h79 => ?_) (fun h79 => ?_)
                  · have p79 := h79; try simp only [bs] at p79
                    have hX := elC_add hjk (bt1 p79)
                    refine Run.seq ?_
                    refine Run.region ?_
                    refine Run.q (v := .agg #[.slice (some ⟨gq4, 0, none⟩) n cq4]) rfl (OpQ.y (OpY.loadN (cs := [.slice (some ⟨gq4, 0, none⟩) n cq4]) Tagg_28 rfl (Cells.blk (.tail _ (.tail _ (List.Mem.head _))) ⟨rfl, trivial⟩))) ?_
                    refine Run.q (v := .int .i64 (((k : Nat) : Int))) rfl (OpQ.y (OpY.pure rfl)) ?_
                    refine Run.q (v := .int .i64 (((j : Nat) : Int))) rfl (OpQ.y (OpY.pure rfl)) ?_
                    refine Run.step rfl (OpStep.call (vs := [.agg #[.slice (some ⟨gq4, 0, none⟩) n cq4], .int .i64 (((k : Nat) : Int)), .int .i64 (((j : Nat) : Int))]) (caps := []) Tcall_71 rfl rfl (fun w hs => l12CX_n hf3.1 h5 (by omega) (by omega) hf3.2.2 (hs.slOwn (.tail _ (List.Mem.head _)))) ?_)
                    rintro _ _ ⟨ur2, rfl, rfl⟩
                    show Run _ _ (putF _ _ _ (.agg #[ur2])) [.own ur2 3 1 n (ints (nl (addE (elC k (elS k (elQ n r k) n) j) (k, j)).1)), .own vo 71 3 (((elC k (elS k (elQ n r k) n) j).2).length) (ints (flCX ((elC k (elS k (elQ n r k) n) j).2))), .own (.slice (some ⟨gq4, 0, none⟩) n cq4) 3 1 n (ints (nl (elC k (elS k (elQ n r k) n) j).1)), .blk b2 28 [.slice (some ⟨gq4, 0, none⟩) n cq4], .blk b1 28 [va]]
                    refine Run.formOwn (.head _) (fun A_ur21 c_ur21 hv hcapc_ur21 hmaxc_ur21 => ?_) (fun _ _ _ => ⟨nofun, nofun, nofun⟩)
                    subst hv
                    refine Run.step rfl (OpStep.storeAll (us := [.slice A_ur21 n c_ur21]) Tsize_28 rfl rfl rfl (.there _ (.there _ (.there _ (.here _)))) rfl ?_)
                    refine Run.done ?_
                    refine Run.region ?_
                    refine Run.q (v := vo) rfl (OpQ.y (OpY.pure rfl)) ?_
                    refine Run.q (v := .int .i64 (((k : Nat) : Int))) rfl (OpQ.y (OpY.pure rfl)) ?_
                    refine Run.q (v := .int .i64 (((j : Nat) : Int))) rfl (OpQ.y (OpY.pure rfl)) ?_
                    refine Run.q (v := .agg #[.int .i64 9, .int .i64 (((k : Nat) : Int)), .int .i64 (((j : Nat) : Int))]) rfl (OpQ.y (OpY.build (cs := [.int .i64 9, .int .i64 (((k : Nat) : Int)), .int .i64 (((j : Nat) : Int))]) (by kernel_rfl))) ?_
                    refine Run.step rfl (OpStep.buildSlice (us := [.int .i64 9, .int .i64 (((k : Nat) : Int)), .int .i64 (((j : Nat) : Int))]) Tsl_36 (by decide) (by decide) ⟨rfl, [.int .i64 9, .int .i64 (((k : Nat) : Int)), .int .i64 (((j : Nat) : Int))], _, rfl, rfl, rfl, rfl⟩ rfl fun b4 => ?_)
                    refine Run.step rfl (OpStep.append (H1 := [.own (.slice (some ⟨b4, 0, none⟩) 1 1) 71 3 1 ([.int .i64 9, .int .i64 (((k : Nat) : Int)), .int .i64 (((j : Nat) : Int))]), .own (.slice A_ur21 n c_ur21) 3 1 n (ints (nl (addE (elC k (elS k (elQ n r k) n) j) (k, j)).1))]) (H2 := [.own (.slice (some ⟨gq4, 0, none⟩) n cq4) 3 1 n (ints (nl (elC k (elS k (elQ n r k) n) j).1)), .blk b2 28 [.slice A_ur21 n c_ur21], .blk b1 28 [va]]) (v := vo) (u := .slice (some ⟨b4, 0, none⟩) 1 1) (n := ((elC k (elS k (elQ n r k) n) j).2).length) (m := 1) (xs := ints (flCX ((elC k (elS k (elQ n r k) n) j).2))) (ys := [.int .i64 9, .int .i64 (((k : Nat) : Int)), .int .i64 (((j : Nat) : Int))]) Tsl_36 (by decide) rfl rfl rfl rfl (fun w hs => hs.slOwn (.head _)) (by simp [Value.oneCell']) (by omega) (by simp only [maxLen]; omega) fun av2 hnav2 => ?_)
                    refine Run.weak (H' := [.own (.slice (some ⟨b4, 0, none⟩) 1 1) 71 3 1 ([.int .i64 9, .int .i64 (((k : Nat) : Int)), .int .i64 (((j : Nat) : Int))]), .own (.slice A_ur21 n c_ur21) 3 1 n (ints (nl (addE (elC k (elS k (elQ n r k) n) j) (k, j)).1)), .own av2 71 3 (((addE (elC k (elS k (elQ n r k) n) j) (k, j)).2).length) (ints (flCX ((addE (elC k (elS k (elQ n r k) n) j) (k, j)).2))), .own (.slice (some ⟨gq4, 0, none⟩) n cq4) 3 1 n (ints (nl (elC k (elS k (elQ n r k) n) j).1)), .blk b2 28 [.slice A_ur21 n c_ur21], .blk b1 28 [va]]) (Some'.weak (.take (.take (.takeEq (by rw [show (addE (elC k (elS k (elQ n r k) n) j) (k, j)).2 = (elC k (elS k (elQ n r k) n) j).2 ++ [(k, j)] from rfl, ← ints_flCX]; simp) (.take (.take (.take (.nil _)))))))) ?_ ⟨_, _, rfl, fun _ => nofun, fun _ => nofun⟩
                    refine Run.q (v := av2) rfl (OpQ.y (OpY.pure rfl)) ?_
                    refine Run.done ?_
                    refine Run.blockEnd ?_
                    refine Run.region ?_
                    refine Run.q (v := .int .i64 (((j : Nat) : Int))) rfl (OpQ.y (OpY.pure rfl)) ?_
                    refine Run.q (v := .int .i64 (((j + 1 : Nat) : Int))) rfl (OpQ.y (OpY.add rfl rfl (by omega) (by omega) (by omega))) ?_
                    refine Run.q (v := .int .i64 (((j + 1 : Nat) : Int))) rfl (OpQ.y (OpY.pure rfl)) ?_
                    refine Run.done ?_
                    refine Run.goal ⟨(by repeat (first | exact Same.refl _ _ | refine Same.put rfl ?_ | refine Same.over rfl rfl ?_)), (j + 1, av2, .slice A_ur21 n c_ur21), ?_, ?_, ?_, ?_⟩
                    · exact (show j + 1 ≤ n by omega)
                    · show n - (j + 1) < n - j; omega
                    · exact ⟨(by first | rfl | (congr 1; omega) | simp), (by first | rfl | (congr 1; omega) | simp), trivial⟩
                    · exact (((((Weak.front [.own (.slice (some ⟨b4, 0, none⟩) 1 1) 71 3 1 ([.int .i64 9, .int .i64 (((k : Nat) : Int)), .int .i64 (((j : Nat) : Int))]), .own (.slice A_ur21 n c_ur21) 3 1 n (ints (nl (addE (elC k (elS k (elQ n r k) n) j) (k, j)).1)), .own av2 71 3 (((addE (elC k (elS k (elQ n r k) n) j) (k, j)).2).length) (ints (flCX ((addE (elC k (elS k (elQ n r k) n) j) (k, j)).2))), .own (.slice (some ⟨gq4, 0, none⟩) n cq4) 3 1 n (ints (nl (elC k (elS k (elQ n r k) n) j).1)), .blk b2 28 [.slice A_ur21 n c_ur21]] (.blk b1 28 [va]) []).trans (Weak.front [.blk b1 28 [va], .own (.slice (some ⟨b4, 0, none⟩) 1 1) 71 3 1 ([.int .i64 9, .int .i64 (((k : Nat) : Int)), .int .i64 (((j : Nat) : Int))]), .own (.slice A_ur21 n c_ur21) 3 1 n (ints (nl (addE (elC k (elS k (elQ n r k) n) j) (k, j)).1)), .own av2 71 3 (((addE (elC k (elS k (elQ n r k) n) j) (k, j)).2).length) (ints (flCX ((addE (elC k (elS k (elQ n r k) n) j) (k, j)).2))), .own (.slice (some ⟨gq4, 0, none⟩) n cq4) 3 1 n (ints (nl (elC k (elS k (elQ n r k) n) j).1))] (.blk b2 28 [.slice A_ur21 n c_ur21]) [])).trans (Weak.front [.blk b2 28 [.slice A_ur21 n c_ur21], .blk b1 28 [va], .own (.slice (some ⟨b4, 0, none⟩) 1 1) 71 3 1 ([.int .i64 9, .int .i64 (((k : Nat) : Int)), .int .i64 (((j : Nat) : Int))])] (.own (.slice A_ur21 n c_ur21) 3 1 n (ints (nl (addE (elC k (elS k (elQ n r k) n) j) (k, j)).1))) [.own av2 71 3 (((addE (elC k (elS k (elQ n r k) n) j) (k, j)).2).length) (ints (flCX ((addE (elC k (elS k (elQ n r k) n) j) (k, j)).2))), .own (.slice (some ⟨gq4, 0, none⟩) n cq4) 3 1 n (ints (nl (elC k (elS k (elQ n r k) n) j).1))])).trans (Weak.front [.own (.slice A_ur21 n c_ur21) 3 1 n (ints (nl (addE (elC k (elS k (elQ n r k) n) j) (k, j)).1)), .blk b2 28 [.slice A_ur21 n c_ur21], .blk b1 28 [va], .own (.slice (some ⟨b4, 0, none⟩) 1 1) 71 3 1 ([.int .i64 9, .int .i64 (((k : Nat) : Int)), .int .i64 (((j : Nat) : Int))])] (.own av2 71 3 (((addE (elC k (elS k (elQ n r k) n) j) (k, j)).2).length) (ints (flCX ((addE (elC k (elS k (elQ n r k) n) j) (k, j)).2)))) [.own (.slice (some ⟨gq4, 0, none⟩) n cq4) 3 1 n (ints (nl (elC k (elS k (elQ n r k) n) j).1))])).trans (Some'.weak (.takeEq (by first | rfl | (rw [hC0]; done) | (rw [hC0]; rfl) | (rw [hX]; done) | (rw [hX]; rfl)) (.takeEq (by first | rfl | (rw [hC0]; done) | (rw [hC0]; rfl) | (rw [hX]; done) | (rw [hX]; rfl)) (.takeEq (by first | rfl | (rw [hC0]; done) | (rw [hC0]; rfl) | (rw [hX]; done) | (rw [hX]; rfl)) (.take (.nil _)))))))
                  · have p79 := h79; try simp only [bs] at p79
                    have hX := elC_skip (s := elS k (elQ n r k) n) (k := k) (j := j) (fun h => absurd h.2 (by rw [bn1 p79]; decide))
                    refine Run.skip ?_
                    refine Run.blockEnd ?_
                    refine Run.region ?_
                    refine Run.q (v := .int .i64 (((j : Nat) : Int))) rfl (OpQ.y (OpY.pure rfl)) ?_
                    refine Run.q (v := .int .i64 (((j + 1 : Nat) : Int))) rfl (OpQ.y (OpY.add rfl rfl (by omega) (by omega) (by omega))) ?_
                    refine Run.q (v := .int .i64 (((j + 1 : Nat) : Int))) rfl (OpQ.y (OpY.pure rfl)) ?_
                    refine Run.done ?_
                    refine Run.goal ⟨(by repeat (first | exact Same.refl _ _ | refine Same.put rfl ?_ | refine Same.over rfl rfl ?_)), (j + 1, vo, .slice (some ⟨gq4, 0, none⟩) n cq4), ?_, ?_, ?_, ?_⟩
                    · exact (show j + 1 ≤ n by omega)
                    · show n - (j + 1) < n - j; omega
                    · exact ⟨(by first | rfl | (congr 1; omega) | simp), (by first | rfl | (congr 1; omega) | simp), trivial⟩
                    · exact (((((Weak.front [.own vo 71 3 (((elC k (elS k (elQ n r k) n) j).2).length) (ints (flCX ((elC k (elS k (elQ n r k) n) j).2))), .own (.slice (some ⟨gq4, 0, none⟩) n cq4) 3 1 n (ints (nl (elC k (elS k (elQ n r k) n) j).1)), .blk b2 28 [.slice (some ⟨gq4, 0, none⟩) n cq4]] (.blk b1 28 [va]) []).trans (Weak.front [.blk b1 28 [va], .own vo 71 3 (((elC k (elS k (elQ n r k) n) j).2).length) (ints (flCX ((elC k (elS k (elQ n r k) n) j).2))), .own (.slice (some ⟨gq4, 0, none⟩) n cq4) 3 1 n (ints (nl (elC k (elS k (elQ n r k) n) j).1))] (.blk b2 28 [.slice (some ⟨gq4, 0, none⟩) n cq4]) [])).trans (Weak.front [.blk b2 28 [.slice (some ⟨gq4, 0, none⟩) n cq4], .blk b1 28 [va], .own vo 71 3 (((elC k (elS k (elQ n r k) n) j).2).length) (ints (flCX ((elC k (elS k (elQ n r k) n) j).2)))] (.own (.slice (some ⟨gq4, 0, none⟩) n cq4) 3 1 n (ints (nl (elC k (elS k (elQ n r k) n) j).1))) [])).trans (Weak.front [.own (.slice (some ⟨gq4, 0, none⟩) n cq4) 3 1 n (ints (nl (elC k (elS k (elQ n r k) n) j).1)), .blk b2 28 [.slice (some ⟨gq4, 0, none⟩) n cq4], .blk b1 28 [va]] (.own vo 71 3 (((elC k (elS k (elQ n r k) n) j).2).length) (ints (flCX ((elC k (elS k (elQ n r k) n) j).2)))) [])).trans (Some'.weak (.takeEq (by first | rfl | (rw [hC0]; done) | (rw [hC0]; rfl) | (rw [hX]; done) | (rw [hX]; rfl)) (.takeEq (by first | rfl | (rw [hC0]; done) | (rw [hC0]; rfl) | (rw [hX]; done) | (rw [hX]; rfl)) (.takeEq (by first | rfl | (rw [hC0]; done) | (rw [hC0]; rfl) | (rw [hX]; done) | (rw [hX]; rfl)) (.take (.nil _)))))))
                · refine Run.q (v := .bool false) rfl (OpQ.y (OpY.moveB rfl h68)) ?_
                  have p68 := h68; try simp only [bs] at p68
                  have hX := elC_skip (s := elS k (elQ n r k) n) (k := k) (j := j) (fun h => h.1 (by omega))
                  refine Run.pass rfl ?_
                  refine Run.pass rfl ?_
                  refine Run.pass rfl ?_
                  refine Run.pass rfl ?_
                  refine Run.pass rfl ?_
                  refine Run.pass rfl ?_
                  refine Run.pass rfl ?_
                  refine Run.pass rfl ?_
                  refine Run.pass rfl ?_
                  refine Run.pass rfl ?_
                  refine Run.q (v := .bool false) rfl (OpQ.y (OpY.pure rfl)) ?_
                  refine Run.done ?_
                  refine Run.cond (b := false) rfl (fun h => nomatch h) (fun _ => ?_)
                  refine Run.skip ?_
                  refine Run.blockEnd ?_
                  refine Run.region ?_
                  refine Run.q (v := .int .i64 (((j : Nat) : Int))) rfl (OpQ.y (OpY.pure rfl)) ?_
                  refine Run.q (v := .int .i64 (((j + 1 : Nat) : Int))) rfl (OpQ.y (OpY.add rfl rfl (by omega) (by omega) (by omega))) ?_
                  refine Run.q (v := .int .i64 (((j + 1 : Nat) : Int))) rfl (OpQ.y (OpY.pure rfl)) ?_
                  refine Run.done ?_
                  refine Run.goal ⟨(by repeat (first | exact Same.refl _ _ | refine Same.put rfl ?_ | refine Same.over rfl rfl ?_)), (j + 1, vo, vr), ?_, ?_, ?_, ?_⟩
                  · exact (show j + 1 ≤ n by omega)
                  · show n - (j + 1) < n - j; omega
                  · exact ⟨(by first | rfl | (congr 1; omega) | simp), (by first | rfl | (congr 1; omega) | simp), trivial⟩
                  · exact (((((Weak.front [.own vo 71 3 (((elC k (elS k (elQ n r k) n) j).2).length) (ints (flCX ((elC k (elS k (elQ n r k) n) j).2))), .own vr 3 1 n (ints (nl (elC k (elS k (elQ n r k) n) j).1)), .blk b2 28 [vr]] (.blk b1 28 [va]) []).trans (Weak.front [.blk b1 28 [va], .own vo 71 3 (((elC k (elS k (elQ n r k) n) j).2).length) (ints (flCX ((elC k (elS k (elQ n r k) n) j).2))), .own vr 3 1 n (ints (nl (elC k (elS k (elQ n r k) n) j).1))] (.blk b2 28 [vr]) [])).trans (Weak.front [.blk b2 28 [vr], .blk b1 28 [va], .own vo 71 3 (((elC k (elS k (elQ n r k) n) j).2).length) (ints (flCX ((elC k (elS k (elQ n r k) n) j).2)))] (.own vr 3 1 n (ints (nl (elC k (elS k (elQ n r k) n) j).1))) [])).trans (Weak.front [.own vr 3 1 n (ints (nl (elC k (elS k (elQ n r k) n) j).1)), .blk b2 28 [vr], .blk b1 28 [va]] (.own vo 71 3 (((elC k (elS k (elQ n r k) n) j).2).length) (ints (flCX ((elC k (elS k (elQ n r k) n) j).2)))) [])).trans (Some'.weak (.takeEq (by first | rfl | (rw [hC0]; done) | (rw [hC0]; rfl) | (rw [hX]; done) | (rw [hX]; rfl)) (.takeEq (by first | rfl | (rw [hC0]; done) | (rw [hC0]; rfl) | (rw [hX]; done) | (rw [hX]; rfl)) (.take (.take (.nil _)))))))
              · have p62 := h62; try simp only [bs] at p62
                have hjn : j = n := by omega
                have hQ : elQ n r (k + 1) = elC k (elS k (elQ n r k) n) j := by rw [hjn]; rfl
                refine Run.exit rfl ?_
                refine Run.blockEnd ?_
                refine Run.region ?_
                refine Run.q (v := .int .i64 (((k : Nat) : Int))) rfl (OpQ.y (OpY.pure rfl)) ?_
                refine Run.q (v := .int .i64 (((k + 1 : Nat) : Int))) rfl (OpQ.y (OpY.add rfl rfl (by omega) (by omega) (by omega))) ?_
                refine Run.q (v := .int .i64 (((k + 1 : Nat) : Int))) rfl (OpQ.y (OpY.pure rfl)) ?_
                refine Run.done ?_
                refine Run.goal ⟨(by repeat (first | exact Same.refl _ _ | refine Same.put rfl ?_ | refine Same.over rfl rfl ?_)), (k + 1, vo, vr), ?_, ?_, ?_, ?_⟩
                · exact (show k + 1 ≤ n by omega)
                · show n - (k + 1) < n - k; omega
                · exact ⟨(by first | rfl | (congr 1; omega) | simp), (by first | rfl | (congr 1; omega) | simp), trivial⟩
                · exact (((((Weak.front [.own vo 71 3 (((elC k (elS k (elQ n r k) n) j).2).length) (ints (flCX ((elC k (elS k (elQ n r k) n) j).2))), .own vr 3 1 n (ints (nl (elC k (elS k (elQ n r k) n) j).1)), .blk b2 28 [vr]] (.blk b1 28 [va]) []).trans (Weak.front [.blk b1 28 [va], .own vo 71 3 (((elC k (elS k (elQ n r k) n) j).2).length) (ints (flCX ((elC k (elS k (elQ n r k) n) j).2))), .own vr 3 1 n (ints (nl (elC k (elS k (elQ n r k) n) j).1))] (.blk b2 28 [vr]) [])).trans (Weak.front [.blk b2 28 [vr], .blk b1 28 [va], .own vo 71 3 (((elC k (elS k (elQ n r k) n) j).2).length) (ints (flCX ((elC k (elS k (elQ n r k) n) j).2)))] (.own vr 3 1 n (ints (nl (elC k (elS k (elQ n r k) n) j).1))) [])).trans (Weak.front [.own vr 3 1 n (ints (nl (elC k (elS k (elQ n r k) n) j).1)), .blk b2 28 [vr], .blk b1 28 [va]] (.own vo 71 3 (((elC k (elS k (elQ n r k) n) j).2).length) (ints (flCX ((elC k (elS k (elQ n r k) n) j).2)))) [])).trans (Some'.weak (.takeEq (by first | rfl | (rw [hQ]; done) | (rw [hQ]; rfl) | simp [elQ, flCX, ints]) (.takeEq (by first | rfl | (rw [hQ]; done) | (rw [hQ]; rfl) | simp [elQ, flCX, ints]) (.take (.take (.nil _)))))))
    · have p18 := h18; try simp only [bs] at p18
      have hkn : k = n := by omega
      have hW : elW n r = (elQ n r k).2 := by rw [hkn]; rfl
      refine Run.exit rfl ?_
      refine Run.seq ?_
      refine Run.region ?_
      refine Run.q (v := vo) rfl (OpQ.y (OpY.pure rfl)) ?_
      refine Run.q (v := vo) rfl (OpQ.y (OpY.pure rfl)) ?_
      refine Run.done ?_
      refine Run.ret ?_
      refine ⟨vo, [.own vo 71 3 ((elW n r).length) (ints (flCX (elW n r)))], Out.one rfl rfl, (Some'.weak (.takeEq (by rw [hW]) (.nil _))), ?_⟩
      rfl


/-- Gates the other way round. -/
theorem gat_rev {w : List (Nat × Nat)} {k : Nat} (h : k < w.length) : gat w.reverse k = gat w (w.length - 1 - k) := by
  simp only [gat, List.getD, List.getElem?_reverse h]
def revK (w : List (Nat × Nat)) (k : Nat) : List (Nat × Nat) := w.reverse.take k ++ (w.take (w.length - k)).drop k ++ w.reverse.drop (w.length - k)
theorem flCX_ext {u v : List (Nat × Nat)} (hl : u.length = v.length) (h : ∀ i, i < u.length → gat u i = gat v i) : u = v := by
  refine List.ext_getElem hl fun i h1 h2 => ?_
  have := h i h1
  simpa [gat, List.getD, h1, h2] using this
theorem flCX_set {v : List (Nat × Nat)} {e : Nat × Nat} : ∀ {k : Nat}, k < v.length → (((flCX v).set (k * 3) 9).set (k * 3 + 1) (e.1 : Int)).set (k * 3 + 2) (e.2 : Int) = flCX (v.set k e) := by
  induction v with
  | nil => intro k h; simp at h
  | cons x v ih =>
    intro k h
    cases k with
    | zero => rfl
    | succ k =>
      have := ih (k := k) (by simpa using h)
      rw [List.set_cons_succ]
      obtain ⟨a, b⟩ := x
      show _ = 9 :: (a : Int) :: (b : Int) :: flCX (v.set k e)
      rw [← this, show (k + 1) * 3 = k * 3 + 1 + 1 + 1 by omega, show k * 3 + 1 + 1 + 1 + 1 = (k * 3 + 1) + 1 + 1 + 1 by omega, show k * 3 + 1 + 1 + 1 + 2 = (k * 3 + 2) + 1 + 1 + 1 by omega]
      simp only [flCX, List.set_cons_succ]
theorem gat_set {v : List (Nat × Nat)} {e : Nat × Nat} {k j : Nat} (h : j < v.length) : gat (v.set k e) j = if k = j then e else gat v j := by
  by_cases c : k = j
  · subst c; simp [gat, List.getD, h]
  · simp [gat, List.getD, h, c]
theorem flCX_ix3 {l : List (Nat × Nat)} {k : Nat} (h : k < l.length) : ix (flCX l) (k * 3) = 9 ∧ ix (flCX l) (k * 3 + 1) = ((gat l k).1 : Int) ∧ ix (flCX l) (k * 3 + 2) = ((gat l k).2 : Int) := by
  obtain ⟨h1, h2, h3⟩ := flCX_get h
  simp [ix, List.getD, h1, h2, h3]
/-- The list whose first and last k gates have changed places. -/
def rvS (w : List (Nat × Nat)) : Nat → List (Nat × Nat)
  | 0 => w
  | k + 1 => ((rvS w k).set k (gat (rvS w k) (w.length - 1 - k))).set (w.length - 1 - k) (gat (rvS w k) k)
@[simp] theorem rvS_length (w : List (Nat × Nat)) : ∀ k, (rvS w k).length = w.length
  | 0 => rfl
  | k + 1 => by simp [rvS, rvS_length w k]
theorem gat_rvS {w : List (Nat × Nat)} : ∀ {k : Nat}, 2 * k ≤ w.length → ∀ i, i < w.length → gat (rvS w k) i = if i < k ∨ w.length - k ≤ i then gat w (w.length - 1 - i) else gat w i
  | 0, _, i, hi => by rw [if_neg (by omega)]; rfl
  | k + 1, hk, i, hi => by
    have ih := gat_rvS (w := w) (k := k) (by omega)
    rw [rvS, gat_set (by simpa using hi), gat_set (by simpa using hi)]
    by_cases c1 : w.length - 1 - k = i
    · rw [if_pos c1, ih k (by omega), if_neg (by omega), if_pos (by omega)]; congr 1; omega
    · rw [if_neg c1]
      by_cases c2 : k = i
      · rw [if_pos c2, ih _ (by omega), if_neg (by omega), if_pos (by omega)]; congr 1; omega
      · rw [if_neg c2, ih i hi]
        by_cases c3 : i < k ∨ w.length - k ≤ i
        · rw [if_pos c3, if_pos (by omega)]
        · rw [if_neg c3, if_neg (by omega)]
theorem rvS_done {w : List (Nat × Nat)} {k : Nat} (h1 : 2 * k ≤ w.length) (h2 : w.length ≤ 2 * k + 1) : rvS w k = w.reverse := by
  refine flCX_ext (by simp) fun i hi => ?_
  simp only [rvS_length] at hi
  rw [gat_rvS h1 i hi, gat_rev hi]
  split
  · rfl
  · congr 1; omega

set_option maxHeartbeats 1000000 in
set_option maxRecDepth 20000 in
theorem Reverse_spec {g n c : Nat} {l : List (Nat × Nat)} {w : World} (hl : l.length = n) (hn : n ≤ 100000) (h : (Res.own (.slice (some ⟨g, 0, none⟩) n c) 71 3 n (ints (flCX l))).holds w) : Calls Try.prog 99 #[.slice (some ⟨g, 0, none⟩) n c] w (Post (Of [.own (.slice (some ⟨g, 0, none⟩) n c) 71 3 n (ints (flCX l))]) w fun v H => v = .tuple #[] ∧ H = [.own (.slice (some ⟨g, 0, none⟩) n c) 71 3 n (ints (flCX (l.reverse)))]) := by
  refine enter (n := 28) (args := [.slice (some ⟨g, 0, none⟩) n c]) Try.func99 rfl rfl (St.start1 h) ?_
  refine Run.seq ?_
  refine Run.region ?_
  refine Run.q (v := .slice (some ⟨g, 0, none⟩) n c) rfl (OpQ.y (OpY.pure rfl)) ?_
  refine Run.q (v := .int .i64 (((n : Nat) : Int))) rfl (OpQ.y (OpY.len Tsl_36 rfl)) ?_
  refine Run.q (v := .int .i64 ((((n : Nat) : Int)) - 1)) rfl (OpQ.y (OpY.sub rfl rfl rfl (by omega) (by omega))) ?_
  refine Run.q (v := .int .i64 0) rfl (OpQ.y (OpY.pure rfl)) ?_
  refine Run.q (v := .int .i64 ((((n : Nat) : Int)) - 1)) rfl (OpQ.y (OpY.pure rfl)) ?_
  refine Run.done ?_
  refine Run.block ?_
  refine Run.loop (ι := Nat) [2, 3, 7, 8, 9, 10, 11, 12, 13, 14, 15, 16, 17, 18, 19, 20, 21, 22, 23, 24, 25, 26, 27] (fun k => [(2, .int .i64 (((k : Nat) : Int))), (3, .int .i64 ((n : Int) - 1 - ((k : Nat) : Int)))]) (fun k => [.own (.slice (some ⟨g, 0, none⟩) n c) 71 3 n (ints (flCX (rvS l k)))]) (fun k => 2 * k ≤ n) (fun k => n - 2 * k) 0 ?_ ?_ ?_ ?_
  · omega
  · exact ⟨rfl, (by show Value.int _ _ = Value.int _ _; congr 1; omega), trivial⟩
  · exact (Some'.weak (.takeEq (by first | rfl | (rw [ha.1, ha.2.1, ha.2.2, hb.1, hb.2.1, hb.2.2, hY])) (.nil _)))
  · rintro k fr hinv
    show Run _ _ (over _ _ [(2, .int .i64 (((k : Nat) : Int))), (3, .int .i64 ((n : Int) - 1 - ((k : Nat) : Int)))] fr) [.own (.slice (some ⟨g, 0, none⟩) n c) 71 3 n (ints (flCX (rvS l k)))]
    try dsimp only at hinv
    refine Run.seq ?_
    refine Run.seq ?_
    refine Run.region ?_
    refine Run.q (v := .int .i64 (((k : Nat) : Int))) rfl (OpQ.y (OpY.pure rfl)) ?_
    refine Run.q (v := .int .i64 ((n : Int) - 1 - ((k : Nat) : Int))) rfl (OpQ.y (OpY.pure rfl)) ?_
    refine Run.q (v := .bool (decide ((((k : Nat) : Int)) < ((n : Int) - 1 - ((k : Nat) : Int))))) rfl (OpQ.y (OpY.pure rfl)) ?_
    refine Run.done ?_
    refine Run.cond (b := decide ((((k : Nat) : Int)) < ((n : Int) - 1 - ((k : Nat) : Int)))) rfl (fun h9 => ?_) (fun h9 => ?_)
    · have p9 := h9; try simp only [bs] at p9
      have hkl : 2 * (k + 1) ≤ n := by omega
      have hrl : (rvS l k).length = n := by simp [hl]
      have hfl := flCX_length (rvS l k)
      have ha := flCX_ix3 (l := rvS l k) (k := k) (by omega)
      have hb := flCX_ix3 (l := rvS l k) (k := n - 1 - k) (by omega)
      have hX : rvS l (k + 1) = ((rvS l k).set k (gat (rvS l k) (n - 1 - k))).set (n - 1 - k) (gat (rvS l k) k) := by rw [rvS, hl]
      have hY : (((((((flCX (rvS l k)).set (k * 3) 9).set (k * 3 + 1) ((gat (rvS l k) (n - 1 - k)).1 : Int)).set (k * 3 + 2) ((gat (rvS l k) (n - 1 - k)).2 : Int)).set ((n - 1 - k) * 3) 9).set ((n - 1 - k) * 3 + 1) ((gat (rvS l k) k).1 : Int)).set ((n - 1 - k) * 3 + 2) ((gat (rvS l k) k).2 : Int)) = flCX (rvS l (k + 1)) := by rw [flCX_set (by omega), flCX_set (by simp; omega), ← hX]
      refine Run.skip ?_
      refine Run.seq ?_
      refine Run.block ?_
      refine Run.lastly [13, 15] (by kernel_rfl) ?_
      refine DL.takeP (i := 0) (v := .slice (some ⟨g, 0, none⟩) n c) rfl (by kernel_rfl) (by kernel_rfl) (by kernel_rfl) (fun _ _ _ h => h) rfl (fun _ => OpY.pure rfl) ?_
      refine DL.takeP (i := 1) (v := .int .i64 (((k : Nat) : Int))) rfl (by kernel_rfl) (by kernel_rfl) (by kernel_rfl) (fun _ _ _ h => h) rfl (fun _ => OpY.pure rfl) ?_
      refine DL.takeP (i := 2) (v := .slice (some ⟨g, 0, none⟩) n c) rfl (by kernel_rfl) (by kernel_rfl) (by kernel_rfl) (fun _ _ _ h => h) rfl (fun _ => OpY.pure rfl) ?_
      refine DL.takeP (i := 3) (v := .int .i64 ((n : Int) - 1 - ((k : Nat) : Int))) rfl (by kernel_rfl) (by kernel_rfl) (by kernel_rfl) (fun _ _ _ h => h) rfl (fun _ => OpY.pure rfl) ?_
      refine DL.takeP (i := 4) (v := .slice (some ⟨g, 0, none⟩) n c) rfl (by kernel_rfl) (by kernel_rfl) (by kernel_rfl) (fun _ _ _ h => h) rfl (fun _ => OpY.pure rfl) ?_
      refine DL.takeP (i := 5) (v := .int .i64 ((n : Int) - 1 - ((k : Nat) : Int))) rfl (by kernel_rfl) (by kernel_rfl) (by kernel_rfl) (fun _ _ _ h => h) rfl (fun _ => OpY.pure rfl) ?_
      refine DL.takeP (i := 6) (v := .pointer (some ⟨g, (n - 1 - k) * 3, none⟩)) rfl (by kernel_rfl) (by kernel_rfl) (by kernel_rfl) (fun _ _ _ h => h) rfl (fun _ => OpY.index (kk := n - 1 - k) Tsl_36 rfl rfl (by omega) (by omega) (by first | rfl | omega)) ?_
      refine DL.take (i := 7) (v := .agg #[.int .i64 (ix (flCX (rvS l k)) ((n - 1 - k) * 3)), .int .i64 (ix (flCX (rvS l k)) ((n - 1 - k) * 3 + 1)), .int .i64 (ix (flCX (rvS l k)) ((n - 1 - k) * 3 + 2))]) rfl (by kernel_rfl) (by kernel_rfl) (by kernel_rfl) (by kernel_rfl) (fun _ _ _ h => h) (Some'.weak (.take (.nil _))) rfl (OpY.loadN (cs := [.int .i64 (ix (flCX (rvS l k)) ((n - 1 - k) * 3)), .int .i64 (ix (flCX (rvS l k)) ((n - 1 - k) * 3 + 1)), .int .i64 (ix (flCX (rvS l k)) ((n - 1 - k) * 3 + 2))]) Tagg_71 rfl (Cells.own0 (.head _) (pre3 (by first | omega | (simp; omega))))) ?_
      refine DL.takeP (i := 8) (v := .slice (some ⟨g, 0, none⟩) n c) rfl (by kernel_rfl) (by kernel_rfl) (by kernel_rfl) (fun _ _ _ h => h) rfl (fun _ => OpY.pure rfl) ?_
      refine DL.takeP (i := 9) (v := .int .i64 (((k : Nat) : Int))) rfl (by kernel_rfl) (by kernel_rfl) (by kernel_rfl) (fun _ _ _ h => h) rfl (fun _ => OpY.pure rfl) ?_
      refine DL.takeP (i := 10) (v := .pointer (some ⟨g, k * 3, none⟩)) rfl (by kernel_rfl) (by kernel_rfl) (by kernel_rfl) (fun _ _ _ h => h) rfl (fun _ => OpY.index (kk := k) Tsl_36 rfl rfl (by omega) (by omega) (by first | rfl | omega)) ?_
      refine DL.take (i := 11) (v := .agg #[.int .i64 (ix (flCX (rvS l k)) (k * 3)), .int .i64 (ix (flCX (rvS l k)) (k * 3 + 1)), .int .i64 (ix (flCX (rvS l k)) (k * 3 + 2))]) rfl (by kernel_rfl) (by kernel_rfl) (by kernel_rfl) (by kernel_rfl) (fun _ _ _ h => h) (Some'.weak (.take (.nil _))) rfl (OpY.loadN (cs := [.int .i64 (ix (flCX (rvS l k)) (k * 3)), .int .i64 (ix (flCX (rvS l k)) (k * 3 + 1)), .int .i64 (ix (flCX (rvS l k)) (k * 3 + 2))]) Tagg_71 rfl (Cells.own0 (.head _) (pre3 (by first | omega | (simp; omega))))) ?_
      refine DL.takeP (i := 12) (v := .pointer (some ⟨g, k * 3, none⟩)) rfl (by kernel_rfl) (by kernel_rfl) (by kernel_rfl) (fun _ _ _ h => h) rfl (fun _ => OpY.index (kk := k) Tsl_36 rfl rfl (by omega) (by omega) (by first | rfl | omega)) ?_
      refine DL.step (i := 13) (by kernel_rfl) (by kernel_rfl) rfl rfl (OpStep.storeOwnInt3 (o := k * 3) (a := ix (flCX (rvS l k)) ((n - 1 - k) * 3)) (b := ix (flCX (rvS l k)) ((n - 1 - k) * 3 + 1)) (c := ix (flCX (rvS l k)) ((n - 1 - k) * 3 + 2)) Tsize_71 rfl rfl (.here _) (by first | omega | (simp; omega)) ?_)
      refine DL.takeP (i := 14) (v := .pointer (some ⟨g, (n - 1 - k) * 3, none⟩)) rfl (by kernel_rfl) (by kernel_rfl) (by kernel_rfl) (fun _ _ _ h => h) rfl (fun _ => OpY.index (kk := n - 1 - k) Tsl_36 rfl rfl (by omega) (by omega) (by first | rfl | omega)) ?_
      refine DL.step (i := 15) (by kernel_rfl) (by kernel_rfl) rfl rfl (OpStep.storeOwnInt3 (o := (n - 1 - k) * 3) (a := ix (flCX (rvS l k)) (k * 3)) (b := ix (flCX (rvS l k)) (k * 3 + 1)) (c := ix (flCX (rvS l k)) (k * 3 + 2)) Tsize_71 rfl rfl (.here _) (by first | omega | (simp; omega)) ?_)
      refine DL.done (by kernel_rfl) ?_
      refine Run.blockEnd ?_
      refine Run.region ?_
      refine Run.q (v := .int .i64 (((k : Nat) : Int))) rfl (OpQ.y (OpY.pure rfl)) ?_
      refine Run.q (v := .int .i64 (((k + 1 : Nat) : Int))) rfl (OpQ.y (OpY.add rfl rfl (by omega) (by omega) (by omega))) ?_
      refine Run.q (v := .int .i64 ((n : Int) - 1 - ((k : Nat) : Int))) rfl (OpQ.y (OpY.pure rfl)) ?_
      refine Run.q (v := .int .i64 ((n : Int) - 1 - ((k + 1 : Nat) : Int))) rfl (OpQ.y (OpY.sub rfl rfl (by omega) (by omega) (by omega))) ?_
      refine Run.q (v := .int .i64 (((k + 1 : Nat) : Int))) rfl (OpQ.y (OpY.pure rfl)) ?_
      refine Run.q (v := .int .i64 ((n : Int) - 1 - ((k + 1 : Nat) : Int))) rfl (OpQ.y (OpY.pure rfl)) ?_
      refine Run.done ?_
      refine Run.goal ⟨(by repeat (first | exact Same.refl _ _ | refine Same.put rfl ?_ | refine Same.over rfl rfl ?_)), k + 1, ?_, ?_, ?_, ?_⟩
      · omega
      · omega
      · exact ⟨(by first | rfl | (congr 1; omega) | simp), (by first | rfl | (congr 1; omega) | simp), trivial⟩
      · exact (Some'.weak (.takeEq (by first | rfl | (rw [ha.1, ha.2.1, ha.2.2, hb.1, hb.2.1, hb.2.2, hY])) (.nil _)))
    · have p9 := h9; try simp only [bs] at p9
      have hkl : n ≤ 2 * k + 1 := by omega
      have hfin := rvS_done (w := l) (k := k) (by omega) (by omega)
      refine Run.exit rfl ?_
      refine Run.fin ?_
      refine ⟨.tuple #[], [.own (.slice (some ⟨g, 0, none⟩) n c) 71 3 n (ints (flCX (l.reverse)))], Out.none rfl, (Some'.weak (.takeEq (by rw [hfin]) (.nil _))), ?_⟩
      exact ⟨rfl, rfl⟩

set_option maxHeartbeats 1000000 in
set_option maxRecDepth 20000 in
theorem Reverse_nil {A : Option Addr} {c : Nat} {w : World} : Calls Try.prog 99 #[.slice A 0 c] w (Post No w fun v _ => v = .tuple #[]) := by
  refine enter (n := 28) (args := [.slice A 0 c]) Try.func99 rfl rfl (St.empty _ _) ?_
  refine Run.seq ?_
  refine Run.region ?_
  refine Run.q (v := .slice A 0 c) rfl (OpQ.y (OpY.pure rfl)) ?_
  refine Run.q (v := .int .i64 0) rfl (OpQ.y (OpY.len Tsl_36 rfl)) ?_
  refine Run.q (v := .int .i64 (-1)) rfl (OpQ.y (OpY.pure rfl)) ?_
  refine Run.q (v := .int .i64 0) rfl (OpQ.y (OpY.pure rfl)) ?_
  refine Run.q (v := .int .i64 (-1)) rfl (OpQ.y (OpY.pure rfl)) ?_
  refine Run.done ?_
  refine Run.block ?_
  refine Run.unroll 1 ?_
  refine Run.again ?_
  refine Run.seq ?_
  refine Run.seq ?_
  refine Run.region ?_
  refine Run.q (v := .int .i64 0) rfl (OpQ.y (OpY.pure rfl)) ?_
  refine Run.q (v := .int .i64 (-1)) rfl (OpQ.y (OpY.pure rfl)) ?_
  refine Run.q (v := .bool false) rfl (OpQ.y (OpY.pure rfl)) ?_
  refine Run.done ?_
  refine Run.cond (b := false) rfl (fun h => nomatch h) (fun _ => ?_)
  refine Run.exit rfl ?_
  refine Run.fin ?_
  refine ⟨.tuple #[], [], Out.none rfl, (Some'.weak (.nil _)), ?_⟩
  rfl


theorem Reverse_own {n : Nat} {v : Value} {l : List (Nat × Nat)} {w : World} (hl : l.length = n) (hn : n ≤ 100000) (h : (Res.own v 71 3 n (ints (flCX l))).holds w) :
    Calls Try.prog 99 #[v] w (Post (Of [.own v 71 3 n (ints (flCX l))]) w fun u H => u = .tuple #[] ∧ H = [.own v 71 3 n (ints (flCX l.reverse))]) := by
  have hs := St.start1 h
  have hsl : Sl w v 3 n (ints (flCX l)) := hs.slOwn (.head _)
  by_cases h0 : n = 0
  · subst h0
    have hl0 : l = [] := List.eq_nil_of_length_eq_zero hl
    subst hl0
    obtain ⟨A, c, rfl, _, _⟩ := hsl.form0
    refine (Reverse_nil (A := A) (c := c) (w := w)).mono fun e w' hp => ?_
    obtain ⟨u, H', he, hs', hu⟩ := hp
    exact ⟨u, _, he, (hs.call hs').sub (List.sublist_append_right H' _), hu, rfl⟩
  · rcases h.2 with ⟨_, h1⟩ | ⟨g, cap, cur, rfl, _⟩
    · exact absurd h1 h0
    · exact Reverse_spec hl hn h
def syW (n : Nat) (xs : List Int) : List (Nat × Nat) := if linOk xs n then (elW n (nats xs)).reverse else []
def syN (n : Nat) (xs : List Int) : Int := if linOk xs n then n else 0
theorem syW_len {n : Nat} (xs : List Int) : (syW n xs).length ≤ 50 := by
  unfold syW; split
  · rename_i h
    have : n ≤ 5 := by simp only [linOk, Bool.and_eq_true, within_iff] at h; omega
    rw [List.length_reverse]; exact elW_len this _
  · simp
theorem flCX_take {w : List (Nat × Nat)} {t : Nat} (h : t < w.length) : flCX (w.take (t + 1)) = flCX (w.take t) ++ [9, ((gat w t).1 : Int), ((gat w t).2 : Int)] := by
  have e : w.take (t + 1) = w.take t ++ [gat w t] := by rw [List.take_add_one]; simp [gat, List.getD, h]
  rw [e, flCX_append]; rfl

set_option maxHeartbeats 1000000 in
set_option maxRecDepth 20000 in
theorem synthesized_spec {va : Value} {n : Nat} {r : List Nat} {w : World} (hl : r.length = n) (h1 : 1 ≤ n) (h5 : n ≤ 5) (hb : ∀ i, nx r i < 2 ^ n) (ha : Sl w va 1 n (ints (nl r))) : Calls Try.prog 59 #[.agg #[va]] w (Post No w fun v H => H = [.own v 71 3 (elW n r).length (ints (flCX (elW n r).reverse))]) := by
  have hlw := elW_len h5 r
  refine enter (n := 9) (args := [.agg #[va]]) Try.func59 rfl rfl (St.empty _ _) ?_
  refine Run.seq ?_
  refine Run.region ?_
  refine Run.step rfl (OpStep.box (us := [va]) rfl fun b1 => ?_)
  refine Run.q (v := .slice none 0 0) rfl (OpQ.y (OpY.pure rfl)) ?_
  refine Run.done ?_
  refine Run.seq ?_
  refine Run.region ?_
  refine Run.q (v := .agg #[va]) rfl (OpQ.y (OpY.loadN (cs := [va]) Tagg_28 rfl (Cells.blk (.head _) ⟨rfl, trivial⟩))) ?_
  refine Run.step rfl (OpStep.call (vs := [.agg #[va]]) (caps := []) Tcall_98 rfl rfl (fun w hs => eliminated_spec hl h1 h5 hb (hs.sl ha)) ?_)
  rintro ue _ rfl
  show Run _ _ (putF _ _ _ ue) [.own ue 71 3 ((elW n r).length) (ints (flCX (elW n r))), .blk b1 28 [va]]
  refine Run.q (v := ue) rfl (OpQ.y (OpY.pure rfl)) ?_
  refine Run.done ?_
  refine Run.seq ?_
  refine Run.region ?_
  refine Run.q (v := ue) rfl (OpQ.y (OpY.pure rfl)) ?_
  refine Run.step rfl (OpStep.callM (H1 := [.own ue 71 3 ((elW n r).length) (ints (flCX (elW n r)))]) (H2 := [.blk b1 28 [va]]) (vs := [ue]) (caps := []) Tcall_99 rfl rfl (Weak.refl _) (fun w hs => Reverse_own rfl (by omega) (hs.holds _ (.head _))) ?_)
  rintro _ _ ⟨rfl, rfl⟩
  show Run _ _ (putF _ _ _ (.tuple #[])) [.own ue 71 3 ((elW n r).length) (ints (flCX (elW n r).reverse)), .blk b1 28 [va]]
  refine Run.done ?_
  refine Run.seq ?_
  refine Run.region ?_
  refine Run.q (v := ue) rfl (OpQ.y (OpY.pure rfl)) ?_
  refine Run.q (v := ue) rfl (OpQ.y (OpY.pure rfl)) ?_
  refine Run.done ?_
  refine Run.ret ?_
  refine ⟨ue, [.own ue 71 3 ((elW n r).length) (ints (flCX (elW n r).reverse))], Out.one rfl rfl, (Some'.weak (.take (.nil _))), ?_⟩
  rfl

set_option maxHeartbeats 1000000 in
set_option maxRecDepth 20000 in
theorem SynthesizeLinear_spec {va : Value} {n : Nat} {xs : List Int} {w : World} (ha : Sl w va 1 n (ints xs)) : Calls Try.prog 28 #[.agg #[va]] w (Post No w fun v H => ∃ u, v = .tuple #[.agg #[.int .i64 (syN n xs), u], .bool (linOk xs n)] ∧ H = [.own u 71 3 (syW n xs).length (ints (flCX (syW n xs)))]) := by
  have hxl : xs.length = n := by have := ha.len; omega
  obtain ⟨A, c, rfl, _, _⟩ := ha.form0
  refine enter (n := 16) (args := [.agg #[.slice A n c]]) Try.func28 rfl rfl (St.empty _ _) ?_
  refine Run.seq ?_
  refine Run.region ?_
  refine Run.step rfl (OpStep.box (us := [.slice A n c]) rfl fun b1 => ?_)
  refine Run.step rfl (OpStep.alloc (zs := [.int .i64 0, .slice none 0 0]) Tzero_38 fun b2 => ?_)
  refine Run.q (v := .bool false) rfl (OpQ.y (OpY.pure rfl)) ?_
  refine Run.done ?_
  refine Run.seq ?_
  refine Run.seq ?_
  refine Run.region ?_
  refine Run.q (v := .agg #[.slice A n c]) rfl (OpQ.y (OpY.loadN (cs := [.slice A n c]) Tagg_28 rfl (Cells.blk (.tail _ (List.Mem.head _)) ⟨rfl, trivial⟩))) ?_
  refine Run.q (v := .bool (linOk xs n)) rfl (OpQ.call (vs := [.agg #[.slice A n c]]) (caps := []) Tcall_35 rfl rfl (fun w hs => IsValidLinear_spec (hs.sl ha))) ?_
  refine Run.q (v := .bool (!(linOk xs n))) rfl (OpQ.y (OpY.pure rfl)) ?_
  refine Run.done ?_
  refine Run.cond (b := !(linOk xs n)) rfl (fun h6 => ?_) (fun h6 => ?_)
  · have p6 := h6; try simp only [bs] at p6
    have hok : linOk xs n = false := by simpa using p6
    have e1 : syN n xs = 0 := by rw [syN, hok]; rfl
    have e2 : syW n xs = [] := by rw [syW, hok]; rfl
    refine Run.seq ?_
    refine Run.region ?_
    refine Run.q (v := .agg #[.int .i64 0, .slice none 0 0]) rfl (OpQ.y (OpY.build (cs := [.int .i64 0, .slice none 0 0]) (by kernel_rfl))) ?_
    refine Run.step rfl (OpStep.storeAll (us := [.int .i64 0, .slice none 0 0]) Tsize_38 rfl rfl rfl (.here _) rfl ?_)
    refine Run.q (v := .bool false) rfl (OpQ.y (OpY.pure rfl)) ?_
    refine Run.done ?_
    refine Run.ret ?_
    refine ⟨.tuple #[.agg #[.int .i64 0, .slice none 0 0], .bool false], [.own (.slice none 0 0) 71 3 ((syW n xs).length) (ints (flCX (syW n xs)))], Out.cell2 (cs := [.int .i64 0, .slice none 0 0]) rfl Tagg_38 rfl (Cells.blk (.head _) ⟨rfl, rfl, trivial⟩) rfl, ((Weak.nilOwn 71 3).trans (Some'.weak (.takeEq (by first | (rw [e3, e2]; done) | (rw [e2]; rfl)) (.nil _)))), ?_⟩
    exact ⟨_, by rw [e1, hok], rfl⟩
  · have p6 := h6; try simp only [bs] at p6
    have hok : linOk xs n = true := by simpa using p6
    obtain ⟨h1, h5, hnx, hnl, hlt, hin⟩ := lin_facts hxl hok
    have hlw := elW_len h5 (nats xs)
    have e1 : syN n xs = n := by rw [syN, if_pos hok]
    have e2 : syW n xs = (elW n (nats xs)).reverse := by rw [syW, if_pos hok]
    have e3 : (syW n xs).length = (elW n (nats xs)).length := by rw [e2, List.length_reverse]
    have ha2 : Sl w (.slice A n c) 1 n (ints (nl (nats xs))) := by rw [hnx]; exact ha
    refine Run.skip ?_
    refine Run.seq ?_
    refine Run.heldB (base := [.blk b1 28 [.slice A n c]]) (by kernel_rfl) ?_
    refine DW.take (i := 0) (v := .pointer (some ⟨b1, 0, none⟩)) rfl (by kernel_rfl) (by kernel_rfl) (by kernel_rfl) (fun _ _ _ h => h) (Some'.weak (.skip (.take (.nil _)))) rfl (OpY.fieldAddr Tfo_28_0 rfl rfl) ?_
    refine DW.take (i := 1) (v := .slice A n c) rfl (by kernel_rfl) (by kernel_rfl) (by kernel_rfl) (fun _ _ _ h => h) (Some'.weak (.skip (.take (.nil _)))) rfl (OpY.load1 Tone_22 rfl (Cells.blk (.head _) ⟨rfl, trivial⟩)) ?_
    refine DW.take (i := 2) (v := .int .i64 (((n : Nat) : Int))) rfl (by kernel_rfl) (by kernel_rfl) (by kernel_rfl) (fun _ _ _ h => h) (Some'.weak (.skip (.take (.nil _)))) rfl (OpY.len Tsl_22 rfl) ?_
    refine DW.take (i := 3) (v := .agg #[.slice A n c]) rfl (by kernel_rfl) (by kernel_rfl) (by kernel_rfl) (fun _ _ _ h => h) (Some'.weak (.skip (.take (.nil _)))) rfl (OpY.loadN (cs := [.slice A n c]) Tagg_28 rfl (Cells.blk (.head _) ⟨rfl, trivial⟩)) ?_
    refine DW.step (i := 4) (by kernel_rfl) rfl rfl (OpStep.call (vs := [.agg #[.slice A n c]]) (caps := []) Tcall_59 rfl rfl (fun w hs => synthesized_spec hnl h1 h5 hlt (hs.sl ha2)) ?_)
    rintro us _ rfl
    refine ⟨(Some'.weak (.skip (.skip (.take (.nil _))))), ?_⟩
    refine DW.step (i := 5) (by kernel_rfl) rfl rfl (OpStep.call (vs := [.int .i64 (((n : Nat) : Int)), us]) (caps := []) Tcall_52 rfl rfl (fun w hs => circuitIf_spec (N := (n : Int)) (by omega) (by have h := circ_cx ⟨h1, h5⟩ (wok_rev (elW_ok n (nats xs))) (by rw [List.length_reverse]; omega); rw [List.length_reverse] at h; exact h) (hs.slOwn (.head _))) ?_)
    rintro _ _ ⟨uc, rfl, rfl⟩
    refine ⟨(Some'.weak (.skip (.skip (.skip (.take (.nil _)))))), ?_⟩
    refine DW.take (i := 6) (v := .agg #[.int .i64 (((n : Nat) : Int)), uc]) rfl (by kernel_rfl) (by kernel_rfl) (by kernel_rfl) (fun _ _ _ h => h) (Some'.weak (.skip (.skip (.skip (.take (.nil _)))))) rfl (OpY.pure rfl) ?_
    refine DW.take (i := 7) (v := .bool true) rfl (by kernel_rfl) (by kernel_rfl) (by kernel_rfl) (fun _ _ _ h => h) (Some'.weak (.skip (.skip (.skip (.take (.nil _)))))) rfl (OpY.pure rfl) ?_
    refine DW.formOwn (.head _) (fun A_uc1 c_uc1 hv hcapc_uc1 hmaxc_uc1 => ?_)
    subst hv
    refine DW.step (i := 8) (by kernel_rfl) rfl rfl (OpStep.storeAll (us := [.int .i64 (((n : Nat) : Int)), .slice A_uc1 ((elW n (nats xs)).length) c_uc1]) Tsize_38 rfl rfl rfl (.there _ (.there _ (.here _))) rfl ?_)
    refine ⟨(Some'.weak (.skip (.skip (.skip (.take (.nil _)))))), ?_⟩
    refine DW.take (i := 9) (v := .bool true) rfl (by kernel_rfl) (by kernel_rfl) (by kernel_rfl) (fun _ _ _ h => h) (Some'.weak (.skip (.skip (.skip (.take (.nil _)))))) rfl (OpY.pure rfl) ?_
    refine DW.done (by kernel_rfl) ?_
    refine Run.ret ?_
    refine ⟨.tuple #[.agg #[.int .i64 (((n : Nat) : Int)), .slice A_uc1 ((elW n (nats xs)).length) c_uc1], .bool true], [.own (.slice A_uc1 ((elW n (nats xs)).length) c_uc1) 71 3 ((syW n xs).length) (ints (flCX (syW n xs)))], Out.cell2 (cs := [.int .i64 (((n : Nat) : Int)), .slice A_uc1 ((elW n (nats xs)).length) c_uc1]) rfl Tagg_38 rfl (Cells.blk (.tail _ (.tail _ (List.Mem.head _))) ⟨rfl, rfl, trivial⟩) rfl, (Some'.weak (.takeEq (by first | (rw [e3, e2]; done) | (rw [e2]; rfl)) (.nil _))), ?_⟩
    exact ⟨_, by rw [e1, hok], rfl⟩

set_option maxHeartbeats 1000000 in
set_option maxRecDepth 20000 in
theorem l12Synthesize_spec {va : Value} {n : Nat} {r : List Nat} {w : World} (hl : r.length = n) (h1 : 1 ≤ n) (h5 : n ≤ 5) (hb : ∀ i, nx r i < 2 ^ n) (ha : Sl w va 1 n (ints (nl r))) : Calls Try.prog 61 #[.agg #[va]] w (Post No w fun v H => ∃ u, v = .agg #[.int .i64 (n : Nat), u] ∧ H = [.own u 71 3 (elW n r).length (ints (flCX (elW n r).reverse))]) := by
  have hlw := elW_len h5 r
  obtain ⟨A, c, rfl, _, _⟩ := ha.form0
  refine enter (n := 29) (args := [.agg #[.slice A n c]]) Try.func61 rfl rfl (St.empty _ _) ?_
  refine Run.seq ?_
  refine Run.region ?_
  refine Run.step rfl (OpStep.box (us := [.slice A n c]) rfl fun b1 => ?_)
  refine Run.step rfl (OpStep.alloc (zs := [.int .i64 0, .slice none 0 0]) Tzero_38 fun b2 => ?_)
  refine Run.done ?_
  refine Run.seq ?_
  refine Run.region ?_
  refine Run.q (v := .agg #[.slice A n c]) rfl (OpQ.y (OpY.loadN (cs := [.slice A n c]) Tagg_28 rfl (Cells.blk (.tail _ (List.Mem.head _)) ⟨rfl, trivial⟩))) ?_
  refine Run.step rfl (OpStep.call (vs := [.agg #[.slice A n c]]) (caps := []) Tcall_103 rfl rfl (fun w hs => l12Reduce_spec hl h1 h5 hb (hs.sl ha)) ?_)
  rintro ue _ rfl
  show Run _ _ (putF _ _ _ ue) [.own ue 71 3 ((elW n r).length) (ints (flCX (elW n r))), .blk b2 38 [.int .i64 0, .slice none 0 0], .blk b1 28 [.slice A n c]]
  refine Run.q (v := ue) rfl (OpQ.y (OpY.pure rfl)) ?_
  refine Run.done ?_
  refine Run.seq ?_
  refine Run.region ?_
  refine Run.q (v := .pointer (some ⟨b1, 0, none⟩)) rfl (OpQ.y (OpY.fieldAddr Tfo_28_0 rfl rfl)) ?_
  refine Run.q (v := .slice A n c) rfl (OpQ.y (OpY.load1 Tone_22 rfl (Cells.blk (.tail _ (.tail _ (List.Mem.head _))) ⟨rfl, trivial⟩))) ?_
  refine Run.q (v := .int .i64 (((n : Nat) : Int))) rfl (OpQ.y (OpY.len Tsl_22 rfl)) ?_
  refine Run.q (v := .agg #[.int .i64 (((n : Nat) : Int)), .slice none 0 0]) rfl (OpQ.y (OpY.build (cs := [.int .i64 (((n : Nat) : Int)), .slice none 0 0]) (by kernel_rfl))) ?_
  refine Run.step rfl (OpStep.alloc (zs := [.int .i64 0, .slice none 0 0]) Tzero_38 fun b3 => ?_)
  refine Run.step rfl (OpStep.storeAll (us := [.int .i64 (((n : Nat) : Int)), .slice none 0 0]) Tsize_38 rfl rfl rfl (.here _) rfl ?_)
  refine Run.done ?_
  refine Run.seq ?_
  refine Run.seq ?_
  refine Run.region ?_
  refine Run.q (v := ue) rfl (OpQ.y (OpY.pure rfl)) ?_
  refine Run.formOwn (.tail _ (List.Mem.head _)) (fun A_ue1 c_ue1 hv hcapc_ue1 hmaxc_ue1 => ?_) (fun _ _ _ => ⟨nofun, nofun, nofun⟩)
  subst hv
  refine Run.q (v := .int .i64 ((((elW n r).length : Nat) : Int))) rfl (OpQ.y (OpY.len Tsl_36 rfl)) ?_
  refine Run.q (v := .int .i64 (((((elW n r).length : Nat) : Int)) - 1)) rfl (OpQ.y (OpY.sub rfl rfl rfl (by omega) (by omega))) ?_
  refine Run.q (v := .int .i64 (((((elW n r).length : Nat) : Int)) - 1)) rfl (OpQ.y (OpY.pure rfl)) ?_
  refine Run.done ?_
  refine Run.weak (H' := [.own (.slice none 0 0) 71 3 0 ([]), .blk b3 38 [.int .i64 (((n : Nat) : Int)), .slice none 0 0], .own (.slice A_ue1 ((elW n r).length) c_ue1) 71 3 ((elW n r).length) (ints (flCX (elW n r))), .blk b2 38 [.int .i64 0, .slice none 0 0], .blk b1 28 [.slice A n c]]) (Weak.nilOwn _ _) ?_ ⟨_, _, rfl, fun _ => nofun, fun _ => nofun⟩
  refine Run.block ?_
  refine Run.loop (ι := Nat × Value) [5, 15, 16, 17, 18, 19, 20, 21, 22, 23, 24, 25, 26, 27] (fun ⟨t, vo⟩ => [(5, .int .i64 (((elW n r).length : Int) - 1 - ((t : Nat) : Int)))]) (fun ⟨t, vo⟩ => [.own vo 71 3 t (ints (flCX ((elW n r).reverse.take t))), .own (.slice A_ue1 ((elW n r).length) c_ue1) 71 3 ((elW n r).length) (ints (flCX (elW n r))), .blk b3 38 [.int .i64 (((n : Nat) : Int)), vo], .blk b2 38 [.int .i64 0, .slice none 0 0], .blk b1 28 [.slice A n c]]) (fun ⟨t, vo⟩ => t ≤ (elW n r).length) (fun ⟨t, vo⟩ => (elW n r).length - t) (0, .slice none 0 0) ?_ ?_ ?_ ?_
  · exact Nat.zero_le _
  · exact ⟨(by show Value.int _ _ = Value.int _ _; congr 1; omega), trivial⟩
  · exact ((((((Weak.front [.own (.slice none 0 0) 71 3 0 ([]), .blk b3 38 [.int .i64 (((n : Nat) : Int)), .slice none 0 0], .own (.slice A_ue1 ((elW n r).length) c_ue1) 71 3 ((elW n r).length) (ints (flCX (elW n r))), .blk b2 38 [.int .i64 0, .slice none 0 0]] (.blk b1 28 [.slice A n c]) []).trans (Weak.front [.blk b1 28 [.slice A n c], .own (.slice none 0 0) 71 3 0 ([]), .blk b3 38 [.int .i64 (((n : Nat) : Int)), .slice none 0 0], .own (.slice A_ue1 ((elW n r).length) c_ue1) 71 3 ((elW n r).length) (ints (flCX (elW n r)))] (.blk b2 38 [.int .i64 0, .slice none 0 0]) [])).trans (Weak.front [.blk b2 38 [.int .i64 0, .slice none 0 0], .blk b1 28 [.slice A n c], .own (.slice none 0 0) 71 3 0 ([])] (.blk b3 38 [.int .i64 (((n : Nat) : Int)), .slice none 0 0]) [.own (.slice A_ue1 ((elW n r).length) c_ue1) 71 3 ((elW n r).length) (ints (flCX (elW n r)))])).trans (Weak.front [.blk b3 38 [.int .i64 (((n : Nat) : Int)), .slice none 0 0], .blk b2 38 [.int .i64 0, .slice none 0 0], .blk b1 28 [.slice A n c], .own (.slice none 0 0) 71 3 0 ([])] (.own (.slice A_ue1 ((elW n r).length) c_ue1) 71 3 ((elW n r).length) (ints (flCX (elW n r)))) [])).trans (Weak.front [.own (.slice A_ue1 ((elW n r).length) c_ue1) 71 3 ((elW n r).length) (ints (flCX (elW n r))), .blk b3 38 [.int .i64 (((n : Nat) : Int)), .slice none 0 0], .blk b2 38 [.int .i64 0, .slice none 0 0], .blk b1 28 [.slice A n c]] (.own (.slice none 0 0) 71 3 0 ([])) [])).trans (Some'.weak (.takeEq (by first | rfl | simp [flCX, ints]) (.take (.takeEq (by first | rfl | simp [flCX, ints]) (.take (.take (.nil _))))))))
  · rintro ⟨t, vo⟩ fr hinv
    show Run _ _ (over _ _ [(5, .int .i64 (((elW n r).length : Int) - 1 - ((t : Nat) : Int)))] fr) [.own vo 71 3 t (ints (flCX ((elW n r).reverse.take t))), .own (.slice A_ue1 ((elW n r).length) c_ue1) 71 3 ((elW n r).length) (ints (flCX (elW n r))), .blk b3 38 [.int .i64 (((n : Nat) : Int)), vo], .blk b2 38 [.int .i64 0, .slice none 0 0], .blk b1 28 [.slice A n c]]
    try dsimp only at hinv
    refine Run.seq ?_
    refine Run.seq ?_
    refine Run.region ?_
    refine Run.q (v := .int .i64 (((elW n r).length : Int) - 1 - ((t : Nat) : Int))) rfl (OpQ.y (OpY.pure rfl)) ?_
    refine Run.q (v := .bool (decide ((((elW n r).length : Int) - 1 - ((t : Nat) : Int)) ≥ 0))) rfl (OpQ.y (OpY.pure rfl)) ?_
    refine Run.done ?_
    refine Run.cond (b := decide ((((elW n r).length : Int) - 1 - ((t : Nat) : Int)) ≥ 0)) rfl (fun h16 => ?_) (fun h16 => ?_)
    · have p16 := h16; try simp only [bs] at p16
      have ht : t < (elW n r).length := by omega
      have hfl := flCX_length (elW n r)
      have hg := flCX_ix3 (l := elW n r) (k := (elW n r).length - 1 - t) (by omega)
      refine Run.openOwn (.tail _ (List.Mem.head _)) (by omega) (fun gw cw hvgw hcapgw _ => ?_) (fun _ _ _ => ⟨nofun, nofun, nofun⟩)
      injection hvgw with hAgw _ hcgw; subst hAgw; subst hcgw
      refine Run.skip ?_
      refine Run.seq ?_
      refine Run.block ?_
      refine Run.heldB (base := [.own (.slice (some ⟨gw, 0, none⟩) ((elW n r).length) c_ue1) 71 3 ((elW n r).length) (ints (flCX (elW n r))), .blk b2 38 [.int .i64 0, .slice none 0 0], .blk b1 28 [.slice A n c]]) (by kernel_rfl) ?_
      refine DW.take (i := 0) (v := .pointer (some ⟨b3, 1, none⟩)) rfl (by kernel_rfl) (by kernel_rfl) (by kernel_rfl) (fun _ _ _ h => h) (Some'.weak (.skip (.take (.skip (.take (.take (.nil _))))))) rfl (OpY.fieldAddr Tfo_38_1 rfl rfl) ?_
      refine DW.take (i := 2) (v := .slice (some ⟨gw, 0, none⟩) ((elW n r).length) c_ue1) rfl (by kernel_rfl) (by kernel_rfl) (by kernel_rfl) (fun _ _ _ h => h) (Some'.weak (.skip (.take (.skip (.take (.take (.nil _))))))) rfl (OpY.pure rfl) ?_
      refine DW.take (i := 3) (v := .int .i64 (((elW n r).length : Int) - 1 - ((t : Nat) : Int))) rfl (by kernel_rfl) (by kernel_rfl) (by kernel_rfl) (fun _ _ _ h => h) (Some'.weak (.skip (.take (.skip (.take (.take (.nil _))))))) rfl (OpY.pure rfl) ?_
      refine DW.take (i := 4) (v := .pointer (some ⟨gw, ((elW n r).length - 1 - t) * 3, none⟩)) rfl (by kernel_rfl) (by kernel_rfl) (by kernel_rfl) (fun _ _ _ h => h) (Some'.weak (.skip (.take (.skip (.take (.take (.nil _))))))) rfl (OpY.index (kk := (elW n r).length - 1 - t) Tsl_36 rfl rfl (by omega) (by omega) (by first | rfl | omega)) ?_
      refine DW.take (i := 5) (v := .agg #[.int .i64 (ix (flCX (elW n r)) (((elW n r).length - 1 - t) * 3)), .int .i64 (ix (flCX (elW n r)) (((elW n r).length - 1 - t) * 3 + 1)), .int .i64 (ix (flCX (elW n r)) (((elW n r).length - 1 - t) * 3 + 2))]) rfl (by kernel_rfl) (by kernel_rfl) (by kernel_rfl) (fun _ _ _ h => h) (Some'.weak (.skip (.take (.skip (.take (.take (.nil _))))))) rfl (OpY.loadN (cs := [.int .i64 (ix (flCX (elW n r)) (((elW n r).length - 1 - t) * 3)), .int .i64 (ix (flCX (elW n r)) (((elW n r).length - 1 - t) * 3 + 1)), .int .i64 (ix (flCX (elW n r)) (((elW n r).length - 1 - t) * 3 + 2))]) Tagg_71 rfl (Cells.own0 (.head _) (pre3 (by omega)))) ?_
      refine DW.two (i := 1) (j := 6) (by kernel_rfl) rfl rfl rfl rfl ?_ ?_
      · refine OpStep.q (v := vo) (OpQ.y (OpY.load1 Tone_36 rfl (Cells.blk (.tail _ (.tail _ (List.Mem.head _))) ⟨rfl, trivial⟩))) ?_
        refine ⟨(Some'.weak (.skip (.take (.skip (.take (.take (.nil _))))))), ?_⟩
        refine DW.step (i := 6) (by kernel_rfl) rfl rfl (OpStep.buildSlice (us := [.int .i64 (ix (flCX (elW n r)) (((elW n r).length - 1 - t) * 3)), .int .i64 (ix (flCX (elW n r)) (((elW n r).length - 1 - t) * 3 + 1)), .int .i64 (ix (flCX (elW n r)) (((elW n r).length - 1 - t) * 3 + 2))]) Tsl_36 (by decide) (by decide) ⟨rfl, [.int .i64 (ix (flCX (elW n r)) (((elW n r).length - 1 - t) * 3)), .int .i64 (ix (flCX (elW n r)) (((elW n r).length - 1 - t) * 3 + 1)), .int .i64 (ix (flCX (elW n r)) (((elW n r).length - 1 - t) * 3 + 2))], _, rfl, rfl, rfl, rfl⟩ rfl fun b4 => ?_)
        refine ⟨(Some'.weak (.skip (.skip (.take (.skip (.take (.take (.nil _)))))))), ?_⟩
        refine DW.step (i := 7) (by kernel_rfl) rfl rfl (OpStep.append (H1 := [.own (.slice (some ⟨b4, 0, none⟩) 1 1) 71 3 1 ([.int .i64 (ix (flCX (elW n r)) (((elW n r).length - 1 - t) * 3)), .int .i64 (ix (flCX (elW n r)) (((elW n r).length - 1 - t) * 3 + 1)), .int .i64 (ix (flCX (elW n r)) (((elW n r).length - 1 - t) * 3 + 2))])]) (H2 := [.own (.slice (some ⟨gw, 0, none⟩) ((elW n r).length) c_ue1) 71 3 ((elW n r).length) (ints (flCX (elW n r))), .blk b3 38 [.int .i64 (((n : Nat) : Int)), vo], .blk b2 38 [.int .i64 0, .slice none 0 0], .blk b1 28 [.slice A n c]]) (v := vo) (u := .slice (some ⟨b4, 0, none⟩) 1 1) (n := t) (m := 1) (xs := ints (flCX ((elW n r).reverse.take t))) (ys := [.int .i64 (ix (flCX (elW n r)) (((elW n r).length - 1 - t) * 3)), .int .i64 (ix (flCX (elW n r)) (((elW n r).length - 1 - t) * 3 + 1)), .int .i64 (ix (flCX (elW n r)) (((elW n r).length - 1 - t) * 3 + 2))]) Tsl_36 (by decide) rfl rfl rfl rfl (fun w hs => hs.slOwn (.head _)) (by simp [Value.oneCell']) (by omega) (by simp only [maxLen]; omega) fun av1 hnav1 => ?_)
        refine DW.weakS (H' := [.own (.slice (some ⟨b4, 0, none⟩) 1 1) 71 3 1 ([.int .i64 (ix (flCX (elW n r)) (((elW n r).length - 1 - t) * 3)), .int .i64 (ix (flCX (elW n r)) (((elW n r).length - 1 - t) * 3 + 1)), .int .i64 (ix (flCX (elW n r)) (((elW n r).length - 1 - t) * 3 + 2))]), .own av1 71 3 (t + 1) (ints (flCX ((elW n r).reverse.take (t + 1)))), .own (.slice (some ⟨gw, 0, none⟩) ((elW n r).length) c_ue1) 71 3 ((elW n r).length) (ints (flCX (elW n r))), .blk b3 38 [.int .i64 (((n : Nat) : Int)), vo], .blk b2 38 [.int .i64 0, .slice none 0 0], .blk b1 28 [.slice A n c]]) (Some'.weak (.take (.takeEq (by rw [flCX_take (by simp; omega), gat_rev (by omega), ints_append, ← hg.1, ← hg.2.1, ← hg.2.2]; rfl) (.take (.take (.take (.take (.nil _)))))))) ?_
        refine ⟨(Some'.weak (.skip (.skip (.take (.skip (.take (.take (.nil _)))))))), ?_⟩
        refine DW.take (i := 8) (v := .pointer (some ⟨b3, 1, none⟩)) rfl (by kernel_rfl) (by kernel_rfl) (by kernel_rfl) (fun _ _ _ h => h) (Some'.weak (.skip (.skip (.take (.skip (.take (.take (.nil _)))))))) rfl (OpY.fieldAddr Tfo_38_1 rfl rfl) ?_
        refine DW.formOwn (.tail _ (List.Mem.head _)) (fun A_av11 c_av11 hv hcapc_av11 hmaxc_av11 => ?_)
        subst hv
        refine DW.step (i := 9) (by kernel_rfl) rfl rfl (OpStep.store (us := [.slice A_av11 (t + 1) c_av11]) Tsize_36 rfl rfl rfl (.there _ (.there _ (.there _ (.here _)))) (by simp only [List.length_cons, List.length_nil]; omega) ?_)
        show Weak [.own (.slice (some ⟨b4, 0, none⟩) 1 1) 71 3 1 ([.int .i64 (ix (flCX (elW n r)) (((elW n r).length - 1 - t) * 3)), .int .i64 (ix (flCX (elW n r)) (((elW n r).length - 1 - t) * 3 + 1)), .int .i64 (ix (flCX (elW n r)) (((elW n r).length - 1 - t) * 3 + 2))]), .own (.slice A_av11 (t + 1) c_av11) 71 3 (t + 1) (ints (flCX ((elW n r).reverse.take (t + 1)))), .own (.slice (some ⟨gw, 0, none⟩) ((elW n r).length) c_ue1) 71 3 ((elW n r).length) (ints (flCX (elW n r))), .blk b3 38 [.int .i64 (((n : Nat) : Int)), .slice A_av11 (t + 1) c_av11], .blk b2 38 [.int .i64 0, .slice none 0 0], .blk b1 28 [.slice A n c]] _ ∧ DW _ _ _ _ _ _ _ [.own (.slice (some ⟨b4, 0, none⟩) 1 1) 71 3 1 ([.int .i64 (ix (flCX (elW n r)) (((elW n r).length - 1 - t) * 3)), .int .i64 (ix (flCX (elW n r)) (((elW n r).length - 1 - t) * 3 + 1)), .int .i64 (ix (flCX (elW n r)) (((elW n r).length - 1 - t) * 3 + 2))]), .own (.slice A_av11 (t + 1) c_av11) 71 3 (t + 1) (ints (flCX ((elW n r).reverse.take (t + 1)))), .own (.slice (some ⟨gw, 0, none⟩) ((elW n r).length) c_ue1) 71 3 ((elW n r).length) (ints (flCX (elW n r))), .blk b3 38 [.int .i64 (((n : Nat) : Int)), .slice A_av11 (t + 1) c_av11], .blk b2 38 [.int .i64 0, .slice none 0 0], .blk b1 28 [.slice A n c]]
        refine ⟨(Some'.weak (.skip (.skip (.take (.skip (.take (.take (.nil _)))))))), ?_⟩
        refine DW.done (by kernel_rfl) ?_
        refine Run.blockEnd ?_
        refine Run.region ?_
        refine Run.q (v := .int .i64 (((elW n r).length : Int) - 1 - ((t : Nat) : Int))) rfl (OpQ.y (OpY.pure rfl)) ?_
        refine Run.q (v := .int .i64 (((elW n r).length : Int) - 1 - ((t + 1 : Nat) : Int))) rfl (OpQ.y (OpY.sub rfl rfl (by omega) (by omega) (by omega))) ?_
        refine Run.q (v := .int .i64 (((elW n r).length : Int) - 1 - ((t + 1 : Nat) : Int))) rfl (OpQ.y (OpY.pure rfl)) ?_
        refine Run.done ?_
        refine Run.goal ⟨(by repeat (first | exact Same.refl _ _ | refine Same.put rfl ?_ | refine Same.over rfl rfl ?_)), (t + 1, .slice A_av11 (t + 1) c_av11), ?_, ?_, ?_, ?_⟩
        · exact ht
        · dsimp only; omega
        · exact ⟨(by first | rfl | (congr 1; omega) | simp), trivial⟩
        · exact ((((((Weak.front [.own (.slice (some ⟨b4, 0, none⟩) 1 1) 71 3 1 ([.int .i64 (ix (flCX (elW n r)) (((elW n r).length - 1 - t) * 3)), .int .i64 (ix (flCX (elW n r)) (((elW n r).length - 1 - t) * 3 + 1)), .int .i64 (ix (flCX (elW n r)) (((elW n r).length - 1 - t) * 3 + 2))]), .own (.slice A_av11 (t + 1) c_av11) 71 3 (t + 1) (ints (flCX ((elW n r).reverse.take (t + 1)))), .own (.slice (some ⟨gw, 0, none⟩) ((elW n r).length) c_ue1) 71 3 ((elW n r).length) (ints (flCX (elW n r))), .blk b3 38 [.int .i64 (((n : Nat) : Int)), .slice A_av11 (t + 1) c_av11], .blk b2 38 [.int .i64 0, .slice none 0 0]] (.blk b1 28 [.slice A n c]) []).trans (Weak.front [.blk b1 28 [.slice A n c], .own (.slice (some ⟨b4, 0, none⟩) 1 1) 71 3 1 ([.int .i64 (ix (flCX (elW n r)) (((elW n r).length - 1 - t) * 3)), .int .i64 (ix (flCX (elW n r)) (((elW n r).length - 1 - t) * 3 + 1)), .int .i64 (ix (flCX (elW n r)) (((elW n r).length - 1 - t) * 3 + 2))]), .own (.slice A_av11 (t + 1) c_av11) 71 3 (t + 1) (ints (flCX ((elW n r).reverse.take (t + 1)))), .own (.slice (some ⟨gw, 0, none⟩) ((elW n r).length) c_ue1) 71 3 ((elW n r).length) (ints (flCX (elW n r))), .blk b3 38 [.int .i64 (((n : Nat) : Int)), .slice A_av11 (t + 1) c_av11]] (.blk b2 38 [.int .i64 0, .slice none 0 0]) [])).trans (Weak.front [.blk b2 38 [.int .i64 0, .slice none 0 0], .blk b1 28 [.slice A n c], .own (.slice (some ⟨b4, 0, none⟩) 1 1) 71 3 1 ([.int .i64 (ix (flCX (elW n r)) (((elW n r).length - 1 - t) * 3)), .int .i64 (ix (flCX (elW n r)) (((elW n r).length - 1 - t) * 3 + 1)), .int .i64 (ix (flCX (elW n r)) (((elW n r).length - 1 - t) * 3 + 2))]), .own (.slice A_av11 (t + 1) c_av11) 71 3 (t + 1) (ints (flCX ((elW n r).reverse.take (t + 1)))), .own (.slice (some ⟨gw, 0, none⟩) ((elW n r).length) c_ue1) 71 3 ((elW n r).length) (ints (flCX (elW n r)))] (.blk b3 38 [.int .i64 (((n : Nat) : Int)), .slice A_av11 (t + 1) c_av11]) [])).trans (Weak.front [.blk b3 38 [.int .i64 (((n : Nat) : Int)), .slice A_av11 (t + 1) c_av11], .blk b2 38 [.int .i64 0, .slice none 0 0], .blk b1 28 [.slice A n c], .own (.slice (some ⟨b4, 0, none⟩) 1 1) 71 3 1 ([.int .i64 (ix (flCX (elW n r)) (((elW n r).length - 1 - t) * 3)), .int .i64 (ix (flCX (elW n r)) (((elW n r).length - 1 - t) * 3 + 1)), .int .i64 (ix (flCX (elW n r)) (((elW n r).length - 1 - t) * 3 + 2))]), .own (.slice A_av11 (t + 1) c_av11) 71 3 (t + 1) (ints (flCX ((elW n r).reverse.take (t + 1))))] (.own (.slice (some ⟨gw, 0, none⟩) ((elW n r).length) c_ue1) 71 3 ((elW n r).length) (ints (flCX (elW n r)))) [])).trans (Weak.front [.own (.slice (some ⟨gw, 0, none⟩) ((elW n r).length) c_ue1) 71 3 ((elW n r).length) (ints (flCX (elW n r))), .blk b3 38 [.int .i64 (((n : Nat) : Int)), .slice A_av11 (t + 1) c_av11], .blk b2 38 [.int .i64 0, .slice none 0 0], .blk b1 28 [.slice A n c], .own (.slice (some ⟨b4, 0, none⟩) 1 1) 71 3 1 ([.int .i64 (ix (flCX (elW n r)) (((elW n r).length - 1 - t) * 3)), .int .i64 (ix (flCX (elW n r)) (((elW n r).length - 1 - t) * 3 + 1)), .int .i64 (ix (flCX (elW n r)) (((elW n r).length - 1 - t) * 3 + 2))])] (.own (.slice A_av11 (t + 1) c_av11) 71 3 (t + 1) (ints (flCX ((elW n r).reverse.take (t + 1))))) [])).trans (Some'.weak (.takeEq (by first | rfl | simp [flCX, ints]) (.takeEq (by first | rfl | simp [flCX, ints]) (.takeEq (by first | rfl | simp [flCX, ints]) (.take (.take (.nil _))))))))
      · refine OpStep.buildSlice (us := [.int .i64 (ix (flCX (elW n r)) (((elW n r).length - 1 - t) * 3)), .int .i64 (ix (flCX (elW n r)) (((elW n r).length - 1 - t) * 3 + 1)), .int .i64 (ix (flCX (elW n r)) (((elW n r).length - 1 - t) * 3 + 2))]) Tsl_36 (by decide) (by decide) ⟨rfl, [.int .i64 (ix (flCX (elW n r)) (((elW n r).length - 1 - t) * 3)), .int .i64 (ix (flCX (elW n r)) (((elW n r).length - 1 - t) * 3 + 1)), .int .i64 (ix (flCX (elW n r)) (((elW n r).length - 1 - t) * 3 + 2))], _, rfl, rfl, rfl, rfl⟩ rfl fun b5 => ?_
        refine ⟨(Some'.weak (.skip (.skip (.take (.skip (.take (.take (.nil _)))))))), ?_⟩
        refine DW.step (i := 1) (by kernel_rfl) rfl rfl (OpStep.q (v := vo) (OpQ.y (OpY.load1 Tone_36 rfl (Cells.blk (.tail _ (.tail _ (.tail _ (List.Mem.head _)))) ⟨rfl, trivial⟩))) ?_)
        refine ⟨(Some'.weak (.skip (.skip (.take (.skip (.take (.take (.nil _)))))))), ?_⟩
        refine DW.step (i := 7) (by kernel_rfl) rfl rfl (OpStep.append (H1 := [.own (.slice (some ⟨b5, 0, none⟩) 1 1) 71 3 1 ([.int .i64 (ix (flCX (elW n r)) (((elW n r).length - 1 - t) * 3)), .int .i64 (ix (flCX (elW n r)) (((elW n r).length - 1 - t) * 3 + 1)), .int .i64 (ix (flCX (elW n r)) (((elW n r).length - 1 - t) * 3 + 2))])]) (H2 := [.own (.slice (some ⟨gw, 0, none⟩) ((elW n r).length) c_ue1) 71 3 ((elW n r).length) (ints (flCX (elW n r))), .blk b3 38 [.int .i64 (((n : Nat) : Int)), vo], .blk b2 38 [.int .i64 0, .slice none 0 0], .blk b1 28 [.slice A n c]]) (v := vo) (u := .slice (some ⟨b5, 0, none⟩) 1 1) (n := t) (m := 1) (xs := ints (flCX ((elW n r).reverse.take t))) (ys := [.int .i64 (ix (flCX (elW n r)) (((elW n r).length - 1 - t) * 3)), .int .i64 (ix (flCX (elW n r)) (((elW n r).length - 1 - t) * 3 + 1)), .int .i64 (ix (flCX (elW n r)) (((elW n r).length - 1 - t) * 3 + 2))]) Tsl_36 (by decide) rfl rfl rfl rfl (fun w hs => hs.slOwn (.head _)) (by simp [Value.oneCell']) (by omega) (by simp only [maxLen]; omega) fun av2 hnav2 => ?_)
        refine DW.weakS (H' := [.own (.slice (some ⟨b5, 0, none⟩) 1 1) 71 3 1 ([.int .i64 (ix (flCX (elW n r)) (((elW n r).length - 1 - t) * 3)), .int .i64 (ix (flCX (elW n r)) (((elW n r).length - 1 - t) * 3 + 1)), .int .i64 (ix (flCX (elW n r)) (((elW n r).length - 1 - t) * 3 + 2))]), .own av2 71 3 (t + 1) (ints (flCX ((elW n r).reverse.take (t + 1)))), .own (.slice (some ⟨gw, 0, none⟩) ((elW n r).length) c_ue1) 71 3 ((elW n r).length) (ints (flCX (elW n r))), .blk b3 38 [.int .i64 (((n : Nat) : Int)), vo], .blk b2 38 [.int .i64 0, .slice none 0 0], .blk b1 28 [.slice A n c]]) (Some'.weak (.take (.takeEq (by rw [flCX_take (by simp; omega), gat_rev (by omega), ints_append, ← hg.1, ← hg.2.1, ← hg.2.2]; rfl) (.take (.take (.take (.take (.nil _)))))))) ?_
        refine ⟨(Some'.weak (.skip (.skip (.take (.skip (.take (.take (.nil _)))))))), ?_⟩
        refine DW.take (i := 8) (v := .pointer (some ⟨b3, 1, none⟩)) rfl (by kernel_rfl) (by kernel_rfl) (by kernel_rfl) (fun _ _ _ h => h) (Some'.weak (.skip (.skip (.take (.skip (.take (.take (.nil _)))))))) rfl (OpY.fieldAddr Tfo_38_1 rfl rfl) ?_
        refine DW.formOwn (.tail _ (List.Mem.head _)) (fun A_av21 c_av21 hv hcapc_av21 hmaxc_av21 => ?_)
        subst hv
        refine DW.step (i := 9) (by kernel_rfl) rfl rfl (OpStep.store (us := [.slice A_av21 (t + 1) c_av21]) Tsize_36 rfl rfl rfl (.there _ (.there _ (.there _ (.here _)))) (by simp only [List.length_cons, List.length_nil]; omega) ?_)
        show Weak [.own (.slice (some ⟨b5, 0, none⟩) 1 1) 71 3 1 ([.int .i64 (ix (flCX (elW n r)) (((elW n r).length - 1 - t) * 3)), .int .i64 (ix (flCX (elW n r)) (((elW n r).length - 1 - t) * 3 + 1)), .int .i64 (ix (flCX (elW n r)) (((elW n r).length - 1 - t) * 3 + 2))]), .own (.slice A_av21 (t + 1) c_av21) 71 3 (t + 1) (ints (flCX ((elW n r).reverse.take (t + 1)))), .own (.slice (some ⟨gw, 0, none⟩) ((elW n r).length) c_ue1) 71 3 ((elW n r).length) (ints (flCX (elW n r))), .blk b3 38 [.int .i64 (((n : Nat) : Int)), .slice A_av21 (t + 1) c_av21], .blk b2 38 [.int .i64 0, .slice none 0 0], .blk b1 28 [.slice A n c]] _ ∧ DW _ _ _ _ _ _ _ [.own (.slice (some ⟨b5, 0, none⟩) 1 1) 71 3 1 ([.int .i64 (ix (flCX (elW n r)) (((elW n r).length - 1 - t) * 3)), .int .i64 (ix (flCX (elW n r)) (((elW n r).length - 1 - t) * 3 + 1)), .int .i64 (ix (flCX (elW n r)) (((elW n r).length - 1 - t) * 3 + 2))]), .own (.slice A_av21 (t + 1) c_av21) 71 3 (t + 1) (ints (flCX ((elW n r).reverse.take (t + 1)))), .own (.slice (some ⟨gw, 0, none⟩) ((elW n r).length) c_ue1) 71 3 ((elW n r).length) (ints (flCX (elW n r))), .blk b3 38 [.int .i64 (((n : Nat) : Int)), .slice A_av21 (t + 1) c_av21], .blk b2 38 [.int .i64 0, .slice none 0 0], .blk b1 28 [.slice A n c]]
        refine ⟨(Some'.weak (.skip (.skip (.take (.skip (.take (.take (.nil _)))))))), ?_⟩
        refine DW.done (by kernel_rfl) ?_
        refine Run.blockEnd ?_
        refine Run.region ?_
        refine Run.q (v := .int .i64 (((elW n r).length : Int) - 1 - ((t : Nat) : Int))) rfl (OpQ.y (OpY.pure rfl)) ?_
        refine Run.q (v := .int .i64 (((elW n r).length : Int) - 1 - ((t + 1 : Nat) : Int))) rfl (OpQ.y (OpY.sub rfl rfl (by omega) (by omega) (by omega))) ?_
        refine Run.q (v := .int .i64 (((elW n r).length : Int) - 1 - ((t + 1 : Nat) : Int))) rfl (OpQ.y (OpY.pure rfl)) ?_
        refine Run.done ?_
        refine Run.goal ⟨(by repeat (first | exact Same.refl _ _ | refine Same.put rfl ?_ | refine Same.over rfl rfl ?_)), (t + 1, .slice A_av21 (t + 1) c_av21), ?_, ?_, ?_, ?_⟩
        · exact ht
        · dsimp only; omega
        · exact ⟨(by first | rfl | (congr 1; omega) | simp), trivial⟩
        · exact ((((((Weak.front [.own (.slice (some ⟨b5, 0, none⟩) 1 1) 71 3 1 ([.int .i64 (ix (flCX (elW n r)) (((elW n r).length - 1 - t) * 3)), .int .i64 (ix (flCX (elW n r)) (((elW n r).length - 1 - t) * 3 + 1)), .int .i64 (ix (flCX (elW n r)) (((elW n r).length - 1 - t) * 3 + 2))]), .own (.slice A_av21 (t + 1) c_av21) 71 3 (t + 1) (ints (flCX ((elW n r).reverse.take (t + 1)))), .own (.slice (some ⟨gw, 0, none⟩) ((elW n r).length) c_ue1) 71 3 ((elW n r).length) (ints (flCX (elW n r))), .blk b3 38 [.int .i64 (((n : Nat) : Int)), .slice A_av21 (t + 1) c_av21], .blk b2 38 [.int .i64 0, .slice none 0 0]] (.blk b1 28 [.slice A n c]) []).trans (Weak.front [.blk b1 28 [.slice A n c], .own (.slice (some ⟨b5, 0, none⟩) 1 1) 71 3 1 ([.int .i64 (ix (flCX (elW n r)) (((elW n r).length - 1 - t) * 3)), .int .i64 (ix (flCX (elW n r)) (((elW n r).length - 1 - t) * 3 + 1)), .int .i64 (ix (flCX (elW n r)) (((elW n r).length - 1 - t) * 3 + 2))]), .own (.slice A_av21 (t + 1) c_av21) 71 3 (t + 1) (ints (flCX ((elW n r).reverse.take (t + 1)))), .own (.slice (some ⟨gw, 0, none⟩) ((elW n r).length) c_ue1) 71 3 ((elW n r).length) (ints (flCX (elW n r))), .blk b3 38 [.int .i64 (((n : Nat) : Int)), .slice A_av21 (t + 1) c_av21]] (.blk b2 38 [.int .i64 0, .slice none 0 0]) [])).trans (Weak.front [.blk b2 38 [.int .i64 0, .slice none 0 0], .blk b1 28 [.slice A n c], .own (.slice (some ⟨b5, 0, none⟩) 1 1) 71 3 1 ([.int .i64 (ix (flCX (elW n r)) (((elW n r).length - 1 - t) * 3)), .int .i64 (ix (flCX (elW n r)) (((elW n r).length - 1 - t) * 3 + 1)), .int .i64 (ix (flCX (elW n r)) (((elW n r).length - 1 - t) * 3 + 2))]), .own (.slice A_av21 (t + 1) c_av21) 71 3 (t + 1) (ints (flCX ((elW n r).reverse.take (t + 1)))), .own (.slice (some ⟨gw, 0, none⟩) ((elW n r).length) c_ue1) 71 3 ((elW n r).length) (ints (flCX (elW n r)))] (.blk b3 38 [.int .i64 (((n : Nat) : Int)), .slice A_av21 (t + 1) c_av21]) [])).trans (Weak.front [.blk b3 38 [.int .i64 (((n : Nat) : Int)), .slice A_av21 (t + 1) c_av21], .blk b2 38 [.int .i64 0, .slice none 0 0], .blk b1 28 [.slice A n c], .own (.slice (some ⟨b5, 0, none⟩) 1 1) 71 3 1 ([.int .i64 (ix (flCX (elW n r)) (((elW n r).length - 1 - t) * 3)), .int .i64 (ix (flCX (elW n r)) (((elW n r).length - 1 - t) * 3 + 1)), .int .i64 (ix (flCX (elW n r)) (((elW n r).length - 1 - t) * 3 + 2))]), .own (.slice A_av21 (t + 1) c_av21) 71 3 (t + 1) (ints (flCX ((elW n r).reverse.take (t + 1))))] (.own (.slice (some ⟨gw, 0, none⟩) ((elW n r).length) c_ue1) 71 3 ((elW n r).length) (ints (flCX (elW n r)))) [])).trans (Weak.front [.own (.slice (some ⟨gw, 0, none⟩) ((elW n r).length) c_ue1) 71 3 ((elW n r).length) (ints (flCX (elW n r))), .blk b3 38 [.int .i64 (((n : Nat) : Int)), .slice A_av21 (t + 1) c_av21], .blk b2 38 [.int .i64 0, .slice none 0 0], .blk b1 28 [.slice A n c], .own (.slice (some ⟨b5, 0, none⟩) 1 1) 71 3 1 ([.int .i64 (ix (flCX (elW n r)) (((elW n r).length - 1 - t) * 3)), .int .i64 (ix (flCX (elW n r)) (((elW n r).length - 1 - t) * 3 + 1)), .int .i64 (ix (flCX (elW n r)) (((elW n r).length - 1 - t) * 3 + 2))])] (.own (.slice A_av21 (t + 1) c_av21) 71 3 (t + 1) (ints (flCX ((elW n r).reverse.take (t + 1))))) [])).trans (Some'.weak (.takeEq (by first | rfl | simp [flCX, ints]) (.takeEq (by first | rfl | simp [flCX, ints]) (.takeEq (by first | rfl | simp [flCX, ints]) (.take (.take (.nil _))))))))
    · have p16 := h16; try simp only [bs] at p16
      have ht : t = (elW n r).length := by omega
      refine Run.exit rfl ?_
      refine Run.seq ?_
      refine Run.region ?_
      refine Run.q (v := .agg #[.int .i64 (((n : Nat) : Int)), vo]) rfl (OpQ.y (OpY.loadN (cs := [.int .i64 (((n : Nat) : Int)), vo]) Tagg_38 rfl (Cells.blk (.tail _ (.tail _ (List.Mem.head _))) ⟨rfl, rfl, trivial⟩))) ?_
      refine Run.formOwn (.head _) (fun A_vo1 c_vo1 hv hcapc_vo1 hmaxc_vo1 => ?_) (fun _ _ _ => ⟨nofun, nofun, nofun⟩)
      subst hv
      refine Run.step rfl (OpStep.storeAll (us := [.int .i64 (((n : Nat) : Int)), .slice A_vo1 t c_vo1]) Tsize_38 rfl rfl rfl (.there _ (.there _ (.there _ (.here _)))) rfl ?_)
      refine Run.done ?_
      refine Run.ret ?_
      refine ⟨.agg #[.int .i64 (((n : Nat) : Int)), .slice A_vo1 t c_vo1], [.own (.slice A_vo1 t c_vo1) 71 3 ((elW n r).length) (ints (flCX (elW n r).reverse))], Out.cell1 (cs := [.int .i64 (((n : Nat) : Int)), .slice A_vo1 t c_vo1]) rfl Tagg_38 rfl (Cells.blk (.tail _ (.tail _ (.tail _ (List.Mem.head _)))) ⟨rfl, rfl, trivial⟩), (Some'.weak (.takeEq (by rw [ht, List.take_of_length_le (by simp)]) (.nil _))), ?_⟩
      exact ⟨_, rfl, rfl⟩

set_option maxHeartbeats 1000000 in
set_option maxRecDepth 20000 in
theorem sSynthesizeLinear_spec {va : Value} {n : Nat} {xs : List Int} {w : World} (ha : Sl w va 1 n (ints xs)) : Calls Try.prog 29 #[.agg #[va]] w (Post No w fun v H => ∃ u, v = .tuple #[.agg #[.int .i64 (syN n xs), u], .bool (linOk xs n)] ∧ H = [.own u 71 3 (syW n xs).length (ints (flCX (syW n xs)))]) := by
  have hxl : xs.length = n := by have := ha.len; omega
  obtain ⟨A, c, rfl, _, _⟩ := ha.form0
  refine enter (n := 10) (args := [.agg #[.slice A n c]]) Try.func29 rfl rfl (St.empty _ _) ?_
  refine Run.seq ?_
  refine Run.region ?_
  refine Run.step rfl (OpStep.box (us := [.slice A n c]) rfl fun b1 => ?_)
  refine Run.step rfl (OpStep.alloc (zs := [.int .i64 0, .slice none 0 0]) Tzero_38 fun b2 => ?_)
  refine Run.q (v := .bool false) rfl (OpQ.y (OpY.pure rfl)) ?_
  refine Run.done ?_
  refine Run.seq ?_
  refine Run.seq ?_
  refine Run.region ?_
  refine Run.q (v := .agg #[.slice A n c]) rfl (OpQ.y (OpY.loadN (cs := [.slice A n c]) Tagg_28 rfl (Cells.blk (.tail _ (List.Mem.head _)) ⟨rfl, trivial⟩))) ?_
  refine Run.q (v := .bool (linOk xs n)) rfl (OpQ.call (vs := [.agg #[.slice A n c]]) (caps := []) Tcall_60 rfl rfl (fun w hs => l12Valid_spec (hs.sl ha))) ?_
  refine Run.q (v := .bool (!(linOk xs n))) rfl (OpQ.y (OpY.pure rfl)) ?_
  refine Run.done ?_
  refine Run.cond (b := !(linOk xs n)) rfl (fun h6 => ?_) (fun h6 => ?_)
  · have p6 := h6; try simp only [bs] at p6
    have hok : linOk xs n = false := by simpa using p6
    have e1 : syN n xs = 0 := by rw [syN, hok]; rfl
    have e2 : syW n xs = [] := by rw [syW, hok]; rfl
    refine Run.seq ?_
    refine Run.region ?_
    refine Run.q (v := .agg #[.int .i64 0, .slice none 0 0]) rfl (OpQ.y (OpY.build (cs := [.int .i64 0, .slice none 0 0]) (by kernel_rfl))) ?_
    refine Run.step rfl (OpStep.storeAll (us := [.int .i64 0, .slice none 0 0]) Tsize_38 rfl rfl rfl (.here _) rfl ?_)
    refine Run.q (v := .bool false) rfl (OpQ.y (OpY.pure rfl)) ?_
    refine Run.done ?_
    refine Run.ret ?_
    refine ⟨.tuple #[.agg #[.int .i64 0, .slice none 0 0], .bool false], [.own (.slice none 0 0) 71 3 ((syW n xs).length) (ints (flCX (syW n xs)))], Out.cell2 (cs := [.int .i64 0, .slice none 0 0]) rfl Tagg_38 rfl (Cells.blk (.head _) ⟨rfl, rfl, trivial⟩) rfl, ((Weak.nilOwn 71 3).trans (Some'.weak (.takeEq (by first | (rw [e3, e2]; done) | (rw [e2]; rfl)) (.nil _)))), ?_⟩
    exact ⟨_, by rw [e1, hok], rfl⟩
  · have p6 := h6; try simp only [bs] at p6
    have hok : linOk xs n = true := by simpa using p6
    obtain ⟨h1, h5, hnx, hnl, hlt, hin⟩ := lin_facts hxl hok
    have hlw := elW_len h5 (nats xs)
    have e1 : syN n xs = n := by rw [syN, if_pos hok]
    have e2 : syW n xs = (elW n (nats xs)).reverse := by rw [syW, if_pos hok]
    have e3 : (syW n xs).length = (elW n (nats xs)).length := by rw [e2, List.length_reverse]
    have ha2 : Sl w (.slice A n c) 1 n (ints (nl (nats xs))) := by rw [hnx]; exact ha
    refine Run.skip ?_
    refine Run.seq ?_
    refine Run.region ?_
    refine Run.q (v := .agg #[.slice A n c]) rfl (OpQ.y (OpY.loadN (cs := [.slice A n c]) Tagg_28 rfl (Cells.blk (.tail _ (List.Mem.head _)) ⟨rfl, trivial⟩))) ?_
    refine Run.step rfl (OpStep.call (vs := [.agg #[.slice A n c]]) (caps := []) Tcall_61 rfl rfl (fun w hs => l12Synthesize_spec hnl h1 h5 hlt (hs.sl ha2)) ?_)
    rintro _ _ ⟨uc, rfl, rfl⟩
    show Run _ _ (putF _ _ _ (.agg #[.int .i64 (((n : Nat) : Int)), uc])) [.own uc 71 3 ((elW n (nats xs)).length) (ints (flCX (elW n (nats xs)).reverse)), .blk b2 38 [.int .i64 0, .slice none 0 0], .blk b1 28 [.slice A n c]]
    refine Run.formOwn (.head _) (fun A_uc1 c_uc1 hv hcapc_uc1 hmaxc_uc1 => ?_) (fun _ _ _ => ⟨nofun, nofun, nofun⟩)
    subst hv
    refine Run.step rfl (OpStep.storeAll (us := [.int .i64 (((n : Nat) : Int)), .slice A_uc1 ((elW n (nats xs)).length) c_uc1]) Tsize_38 rfl rfl rfl (.there _ (.here _)) rfl ?_)
    refine Run.q (v := .bool true) rfl (OpQ.y (OpY.pure rfl)) ?_
    refine Run.done ?_
    refine Run.ret ?_
    refine ⟨.tuple #[.agg #[.int .i64 (((n : Nat) : Int)), .slice A_uc1 ((elW n (nats xs)).length) c_uc1], .bool true], [.own (.slice A_uc1 ((elW n (nats xs)).length) c_uc1) 71 3 ((syW n xs).length) (ints (flCX (syW n xs)))], Out.cell2 (cs := [.int .i64 (((n : Nat) : Int)), .slice A_uc1 ((elW n (nats xs)).length) c_uc1]) rfl Tagg_38 rfl (Cells.blk (.tail _ (List.Mem.head _)) ⟨rfl, rfl, trivial⟩) rfl, (Some'.weak (.takeEq (by first | (rw [e3, e2]; done) | (rw [e2]; rfl)) (.nil _))), ?_⟩
    exact ⟨_, by rw [e1, hok], rfl⟩

end Go.Proofs.Yteehfidjofcfmaa
