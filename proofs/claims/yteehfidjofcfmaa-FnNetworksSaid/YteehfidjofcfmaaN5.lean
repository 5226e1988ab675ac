/- Walks: the Gray network, of the reference. -/
import Derived.Test.YteehfidjofcfmaaN4
import Derived.Test.YteehfidjofcfmaaProg
import Derived.Test.YteehfidjofcfmaaN3
import Derived.Test.YteehfidjofcfmaaN1
set_option linter.unusedSimpArgs false
set_option linter.unusedVariables false
namespace Go.Proofs.Yteehfidjofcfmaa
open Go Go.RowKit
namespace GreT
theorem Tagg_136 : aggOf Try.prog 136 = some 3 := by kernel_rfl
theorem Tagg_38 : aggOf Try.prog 38 = some 2 := by kernel_rfl
theorem Tcall_115 : callable Try.prog 115 = true := by kernel_rfl
theorem Tcall_122 : callable Try.prog 122 = true := by kernel_rfl
theorem Tcall_123 : callable Try.prog 123 = true := by kernel_rfl
theorem Tcall_92 : callable Try.prog 92 = true := by kernel_rfl
theorem Tfo_136_0 : fieldOff Try.prog 136 0 = some 0 := by kernel_rfl
theorem Tfo_136_1 : fieldOff Try.prog 136 1 = some 1 := by kernel_rfl
theorem Tfo_136_2 : fieldOff Try.prog 136 2 = some 2 := by kernel_rfl
theorem Tfo_38_1 : fieldOff Try.prog 38 1 = some 1 := by kernel_rfl
theorem Tone_22 : oneOf Try.prog 22 = true := by kernel_rfl
theorem Tone_3 : oneOf Try.prog 3 = true := by kernel_rfl
theorem Tone_36 : oneOf Try.prog 36 = true := by kernel_rfl
theorem Tsize_136 : (Try.prog.info? 136).map (·.size) = some 3 := by kernel_rfl
theorem Tsize_36 : (Try.prog.info? 36).map (·.size) = some 1 := by kernel_rfl
theorem Tsize_38 : (Try.prog.info? 38).map (·.size) = some 2 := by kernel_rfl
theorem Tsl_137 : sliceOf Try.prog 137 = some (136, 3, 56, [.slice none 0 0, .slice none 0 0, .int .i64 0]) := by kernel_rfl
theorem Tsl_22 : sliceOf Try.prog 22 = some (3, 1, 8, [.int .i64 0]) := by kernel_rfl
theorem Tsl_36 : sliceOf Try.prog 36 = some (71, 3, 24, [.int .i64 0, .int .i64 0, .int .i64 0]) := by kernel_rfl
theorem Tzero_136 : zeroOf Try.prog 136 = some [.slice none 0 0, .slice none 0 0, .int .i64 0] := by kernel_rfl
theorem Tzero_38 : zeroOf Try.prog 38 = some [.int .i64 0, .slice none 0 0] := by kernel_rfl
end GreT
open GreT
theorem ints_flCX_t (G : List (Nat × Nat)) (j : Nat) (t : Int) (tn : Nat) (ht : t = (tn : Int)) : ints (flCX G) ++ [.int .i64 9, .int .i64 ((j : Nat) : Int), .int .i64 t] = ints (flCX (G ++ [(j, tn)])) := by
  rw [ht]; exact ints_flCX G j tn
theorem gts_spl {zs : List TZ} {m : Nat} {zv zf : Value} {T : GT} (hm : zs.length = m + 1) (hz : zs[m]? = some (zv, (zf, T))) : gts zs = gts (zs.take m) ++ [T] := by
  conv => lhs; rw [snoc_take hm hz]
  simp [gts]
theorem gts_two {zs : List TZ} {a b : TZ} : gts (zs ++ [a] ++ [b]) = gts zs ++ [a.2.2, b.2.2] := by simp [gts]
/-- The free qubits of the tasks lie in the group. -/
def FrIn (F : List (Value × List Int)) (zs : List TZ) : Prop := ∀ z ∈ zs, (z.2.1, nl z.2.2.2.1) ∈ F
theorem FrIn.mono {F F' : List (Value × List Int)} {zs : List TZ} (h : FrIn F zs) (hs : ∀ p ∈ F, p ∈ F') : FrIn F' zs := fun z hz => hs _ (h z hz)
theorem FrIn.two {F : List (Value × List Int)} {zs : List TZ} {a b : TZ} (h : FrIn F zs) (ha : (a.2.1, nl a.2.2.2.1) ∈ F) (hb : (b.2.1, nl b.2.2.2.1) ∈ F) : FrIn F (zs ++ [a] ++ [b]) := by
  intro z hz
  simp only [List.mem_append, List.mem_singleton] at hz
  rcases hz with (hz | rfl) | rfl
  · exact h z hz
  · exact ha
  · exact hb
theorem FrIn.take {F : List (Value × List Int)} {zs : List TZ} (m : Nat) (h : FrIn F zs) : FrIn F (zs.take m) := fun z hz => h z (List.mem_of_mem_take hz)
theorem gl_mem {F : List (Value × List Int)} {v : Value} {l : List Nat} (h : (v, nl l) ∈ F) : (v, (nl l).length, ints (nl l)) ∈ gl F := List.mem_map.2 ⟨(v, nl l), h, rfl⟩
theorem mem_end {α : Type} {L : List α} {p : α} : p ∈ L ++ [p] := by simp

set_option maxHeartbeats 6000000 in
set_option maxRecDepth 20000 in
theorem l14Gray_spec {va : Value} {n : Nat} {ms : List Nat} {w : World} (hn5 : n ≤ 5) (hm1 : ∀ m ∈ ms, 1 ≤ m ∧ m < 2 ^ n) (hml : ms.length ≤ 1000) (hms : Sl w va 1 ms.length (ints (nl ms))) : Calls Try.prog 84 #[.int .i64 (n : Int), va] w (Post No w fun v H => ∃ u, v = .agg #[.int .i64 (n : Int), u] ∧ H = [.own u 71 3 (gG n ms).length (ints (flCX (gG n ms)))]) := by
 obtain ⟨f0, hf0⟩ : ∃ f0, f0 = 2 ^ (n + 1) := ⟨_, rfl⟩
 refine enter (n := 171) (args := [.int .i64 (((n : Nat) : Int)), va]) Try.func84 rfl rfl (St.empty _ _) ?_
 refine Run.sr ?_
 refine Run.step rfl (OpStep.alloc (zs := [.int .i64 0, .slice none 0 0]) Tzero_38 fun b1 => ?_)
 refine Run.dsr ?_
 refine Run.p (.int .i64 (((n : Nat) : Int))) rfl rfl ?_
 refine Run.y (.agg #[.int .i64 (((n : Nat) : Int)), .slice none 0 0]) rfl (OpY.build (cs := [.int .i64 (((n : Nat) : Int)), .slice none 0 0]) (by kernel_rfl)) ?_
 refine Run.step rfl (OpStep.alloc (zs := [.int .i64 0, .slice none 0 0]) Tzero_38 fun b2 => ?_)
 refine Run.step rfl (OpStep.storeAll (us := [.int .i64 (((n : Nat) : Int)), .slice none 0 0]) Tsize_38 rfl rfl rfl (.here _) rfl ?_)
 refine Run.dsr ?_
 refine Run.p (.slice none 0 0) rfl rfl ?_
 refine Run.done ?_
 refine Run.seq ?_
 refine Run.sr ?_
 refine Run.p (.int .i64 0) rfl rfl ?_
 refine Run.done ?_
 refine Run.weak (H' := [.own (.slice none 0 0) 71 3 0 ([]), .blk b2 38 [.int .i64 (((n : Nat) : Int)), .slice none 0 0], .blk b1 38 [.int .i64 0, .slice none 0 0]]) (Weak.nilOwn _ _) ?_ ⟨_, _, rfl, fun _ => nofun, fun _ => nofun⟩
 refine Run.weak (H' := [.own (.slice none 0 0) 3 1 0 ([]), .own (.slice none 0 0) 71 3 0 ([]), .blk b2 38 [.int .i64 (((n : Nat) : Int)), .slice none 0 0], .blk b1 38 [.int .i64 0, .slice none 0 0]]) (Weak.nilOwn _ _) ?_ ⟨_, _, rfl, fun _ => nofun, fun _ => nofun⟩
 refine Run.block ?_
 refine Run.loop (ι := Nat × Value) [6, 7, 24, 25, 26, 27, 28, 29, 30, 31, 32] (fun ⟨k, vl⟩ => [(6, vl), (7, .int .i64 (((k : Nat) : Int)))]) (fun ⟨k, vl⟩ => [.own vl 3 1 ((List.range k).length) (ints (nl (List.range k))), .own (.slice none 0 0) 71 3 0 ([]), .blk b2 38 [.int .i64 (((n : Nat) : Int)), .slice none 0 0], .blk b1 38 [.int .i64 0, .slice none 0 0]]) (fun ⟨k, vl⟩ => k ≤ n) (fun ⟨k, vl⟩ => n - k) (0, .slice none 0 0) ?_ ?_ ?_ ?_
 ·exact Nat.zero_le _
 ·exact ⟨rfl, rfl, trivial⟩
 ·exact ((Weak.refl _).trans (Some'.weak (.takeEq (by first | rfl | simp) (.take (.take (.take (.nil _)))))))
 ·rintro ⟨k, vl⟩ fr hinv
  show Run _ _ (over _ _ [(6, vl), (7, .int .i64 (((k : Nat) : Int)))] fr) [.own vl 3 1 ((List.range k).length) (ints (nl (List.range k))), .own (.slice none 0 0) 71 3 0 ([]), .blk b2 38 [.int .i64 (((n : Nat) : Int)), .slice none 0 0], .blk b1 38 [.int .i64 0, .slice none 0 0]]
  try dsimp only at hinv
  refine Run.seq ?_
  refine Run.sr ?_
  refine Run.p (.int .i64 (((k : Nat) : Int))) rfl rfl ?_
  refine Run.p (.int .i64 (((n : Nat) : Int))) rfl rfl ?_
  refine Run.p (.bool (decide ((((k : Nat) : Int)) < (((n : Nat) : Int))))) rfl rfl ?_
  refine Run.done ?_
  refine Run.cond (b := decide ((((k : Nat) : Int)) < (((n : Nat) : Int)))) rfl (fun h26 => ?_) (fun h26 => ?_)
  ·have p26 := h26; try simp only [bs] at p26
   have hkn : k < n := by omega
   refine Run.skip ?_
   refine Run.seq ?_
   refine Run.block ?_
   refine Run.region ?_
   refine Run.p (vl) rfl rfl ?_
   refine Run.p (.int .i64 (((k : Nat) : Int))) rfl rfl ?_
   refine Run.step rfl (OpStep.buildSlice (us := [.int .i64 (((k : Nat) : Int))]) Tsl_22 (by decide) (by decide) ⟨rfl, [.int .i64 (((k : Nat) : Int))], _, rfl, rfl, rfl, rfl⟩ rfl fun b3 => ?_)
   refine Run.step rfl (OpStep.append (H1 := [.own (.slice (some ⟨b3, 0, none⟩) 1 1) 3 1 1 ([.int .i64 (((k : Nat) : Int))])]) (H2 := [.own (.slice none 0 0) 71 3 0 ([]), .blk b2 38 [.int .i64 (((n : Nat) : Int)), .slice none 0 0], .blk b1 38 [.int .i64 0, .slice none 0 0]]) (v := vl) (u := .slice (some ⟨b3, 0, none⟩) 1 1) (n := (List.range k).length) (m := 1) (xs := ints (nl (List.range k))) (ys := [.int .i64 (((k : Nat) : Int))]) Tsl_22 (by decide) rfl rfl rfl rfl (fun w hs => hs.slOwn (.head _)) (by simp [Value.oneCell']) (by simp only [List.length_range]; omega) (by simp only [maxLen]; simp only [List.length_range]; omega) fun av1 hnav1 => ?_)
   refine Run.weak (H' := [.own (.slice (some ⟨b3, 0, none⟩) 1 1) 3 1 1 ([.int .i64 (((k : Nat) : Int))]), .own av1 3 1 ((List.range (k + 1)).length) (ints (nl (List.range (k + 1)))), .own (.slice none 0 0) 71 3 0 ([]), .blk b2 38 [.int .i64 (((n : Nat) : Int)), .slice none 0 0], .blk b1 38 [.int .i64 0, .slice none 0 0]]) (Some'.weak (.take (.takeEq (by rw [List.range_succ, nl_snoc, ints_append]; simp only [List.length_append]; rfl) (.take (.take (.take (.nil _))))))) ?_ ⟨_, _, rfl, fun _ => nofun, fun _ => nofun⟩
   refine Run.p (av1) rfl rfl ?_
   refine Run.done ?_
   refine Run.blockEnd ?_
   refine Run.region ?_
   refine Run.p (.int .i64 (((k : Nat) : Int))) rfl rfl ?_
   refine Run.y (.int .i64 ((((k : Nat) : Int)) + 1)) rfl (OpY.add rfl rfl rfl (by omega) (by omega)) ?_
   refine Run.p (.int .i64 ((((k : Nat) : Int)) + 1)) rfl rfl ?_
   refine Run.done ?_
   refine Run.goal ⟨(by repeat (first | exact Same.refl _ _ | refine Same.put rfl ?_ | refine Same.over rfl rfl ?_)), (k + 1, av1), ?_, ?_, ?_, ?_⟩
   ·show k + 1 ≤ n; omega
   ·show n - (k + 1) < n - k; omega
   ·exact ⟨(by first | rfl | (congr 1; omega) | simp), (by first | rfl | (congr 1; omega) | simp), trivial⟩
   ·exact ((Weak.selF [1, 1, 1, 1]).trans (Some'.weak (.takeEq (by first | rfl | simp) (.takeEq (by first | rfl | simp) (.take (.take (.nil _)))))))
  ·have p26 := h26; try simp only [bs] at p26
   have hkn : k = n := by omega
   refine Run.exit rfl ?_
   refine Run.sr ?_
   refine Run.p (va) rfl rfl ?_
   refine Run.step rfl (OpStep.call (vs := [va]) (caps := []) Tcall_92 rfl rfl (fun w hs => l1Own_spec (by omega) (hs.sl hms)) ?_)
   rintro uc _ rfl
   show Run _ _ (putF _ _ _ uc) [.own uc 3 1 (ms.length) (ints (nl ms)), .own vl 3 1 ((List.range k).length) (ints (nl (List.range k))), .own (.slice none 0 0) 71 3 0 ([]), .blk b2 38 [.int .i64 (((n : Nat) : Int)), .slice none 0 0], .blk b1 38 [.int .i64 0, .slice none 0 0]]
   refine Run.p (vl) rfl rfl ?_
   refine Run.formOwn (.head _) (fun A_uc1 c_uc1 hv hcapc_uc1 hmaxc_uc1 => ?_) (fun _ _ _ => ⟨nofun, nofun, nofun⟩)
   subst hv
   refine Run.formOwn (.tail _ (List.Mem.head _)) (fun A_vl1 c_vl1 hv hcapc_vl1 hmaxc_vl1 => ?_) (fun _ _ _ => ⟨nofun, nofun, nofun⟩)
   subst hv
   refine Run.y (.agg #[.slice A_uc1 (ms.length) c_uc1, .slice A_vl1 ((List.range k).length) c_vl1, .int .i64 (-1)]) rfl (OpY.build (cs := [.slice A_uc1 (ms.length) c_uc1, .slice A_vl1 ((List.range k).length) c_vl1, .int .i64 (-1)]) (by kernel_rfl)) ?_
   refine Run.step rfl (OpStep.buildSlice (us := [.slice A_uc1 (ms.length) c_uc1, .slice A_vl1 ((List.range k).length) c_vl1, .int .i64 (-1)]) Tsl_137 (by decide) (by decide) ⟨rfl, [.slice A_uc1 (ms.length) c_uc1, .slice A_vl1 ((List.range k).length) c_vl1, .int .i64 (-1)], _, rfl, rfl, rfl, rfl⟩ rfl fun b4 => ?_)
   refine Run.p (.slice (some ⟨b4, 0, none⟩) 1 1) rfl rfl ?_
   refine Run.done ?_
   refine Run.weak (H' := [.grp 3 1 (tg []), .own (.slice (some ⟨b4, 0, none⟩) 1 1) 136 3 1 ([.slice A_uc1 (ms.length) c_uc1, .slice A_vl1 ((List.range k).length) c_vl1, .int .i64 (-1)]), .own (.slice A_uc1 (ms.length) c_uc1) 3 1 (ms.length) (ints (nl ms)), .own (.slice A_vl1 ((List.range k).length) c_vl1) 3 1 ((List.range k).length) (ints (nl (List.range k))), .own (.slice none 0 0) 71 3 0 ([]), .blk b2 38 [.int .i64 (((n : Nat) : Int)), .slice none 0 0], .blk b1 38 [.int .i64 0, .slice none 0 0]]) (Weak.grpNil _ _) ?_ ⟨_, _, rfl, fun _ => nofun, fun _ => nofun⟩
   refine Run.weak (H' := [.grp 3 1 (gl ([])), .grp 3 1 (tg []), .own (.slice (some ⟨b4, 0, none⟩) 1 1) 136 3 1 ([.slice A_uc1 (ms.length) c_uc1, .slice A_vl1 ((List.range k).length) c_vl1, .int .i64 (-1)]), .own (.slice A_uc1 (ms.length) c_uc1) 3 1 (ms.length) (ints (nl ms)), .own (.slice A_vl1 ((List.range k).length) c_vl1) 3 1 ((List.range k).length) (ints (nl (List.range k))), .own (.slice none 0 0) 71 3 0 ([]), .blk b2 38 [.int .i64 (((n : Nat) : Int)), .slice none 0 0], .blk b1 38 [.int .i64 0, .slice none 0 0]]) (Weak.grpNil _ _) ?_ ⟨_, _, rfl, fun _ => nofun, fun _ => nofun⟩
   refine Run.weak (H' := [.grp 3 1 (tg ([((.slice A_uc1 (ms.length) c_uc1 : Value), ((.slice A_vl1 ((List.range k).length) c_vl1 : Value), (ms, (List.range n, (-1 : Int)))))])), .grp 3 1 (gl ([])), .own (.slice (some ⟨b4, 0, none⟩) 1 1) 136 3 1 ([.slice A_uc1 (ms.length) c_uc1, .slice A_vl1 ((List.range k).length) c_vl1, .int .i64 (-1)]), .own (.slice A_vl1 ((List.range k).length) c_vl1) 3 1 ((List.range k).length) (ints (nl (List.range k))), .own (.slice none 0 0) 71 3 0 ([]), .blk b2 38 [.int .i64 (((n : Nat) : Int)), .slice none 0 0], .blk b1 38 [.int .i64 0, .slice none 0 0]]) ((Weak.selF [3, 1]).trans (Weak.tgSnoc (A := []) (z := ((.slice A_uc1 (ms.length) c_uc1 : Value), ((.slice A_vl1 ((List.range k).length) c_vl1 : Value), (ms, (List.range n, (-1 : Int)))))))) ?_ ⟨_, _, rfl, fun _ => nofun, fun _ => nofun⟩
   refine Run.weak (H' := [.grp 3 1 (gl ([((.slice A_vl1 ((List.range k).length) c_vl1 : Value), nl (List.range n))])), .grp 3 1 (tg ([((.slice A_uc1 (ms.length) c_uc1 : Value), ((.slice A_vl1 ((List.range k).length) c_vl1 : Value), (ms, (List.range n, (-1 : Int)))))])), .own (.slice (some ⟨b4, 0, none⟩) 1 1) 136 3 1 ([.slice A_uc1 (ms.length) c_uc1, .slice A_vl1 ((List.range k).length) c_vl1, .int .i64 (-1)]), .own (.slice none 0 0) 71 3 0 ([]), .blk b2 38 [.int .i64 (((n : Nat) : Int)), .slice none 0 0], .blk b1 38 [.int .i64 0, .slice none 0 0]]) ((Weak.selF [3, 1]).trans (Weak.trans (Some'.weak (.takeEq (by rw [hkn]; simp only [nl_length]) (.take (.take (.take (.take (.take (.take (.nil _))))))))) (Weak.grpSnoc (ps := [])))) ?_ ⟨_, _, rfl, fun _ => nofun, fun _ => nofun⟩
   refine Run.seq ?_
   refine Run.block ?_
   refine Run.loop (ι := Nat × List (Nat × Nat) × List TZ × List (Value × List Int) × Value × Value) ([8, 9, 10, 12, 13, 14, 16, 17, 18, 20, 21, 38, 39, 40, 41, 42, 43, 44, 45, 46, 47, 48, 49, 50, 51, 52, 53, 54, 55, 56, 57, 58, 59, 60, 61, 62, 63, 64, 65, 66, 67, 68, 69, 70, 71, 72, 73, 74, 75, 76] ++ [77, 78, 79, 80, 81, 82, 83, 84, 85, 86, 87, 88, 89, 90, 91, 92, 93, 94, 95, 96, 97, 98, 99, 100, 101, 102, 103, 104, 105, 106, 107, 108, 109, 110, 111, 112, 113, 114, 115, 116, 117, 118, 119, 120, 121, 122, 123, 124, 125, 126] ++ [127, 128, 129, 130, 131, 132, 133, 134, 135, 136, 137, 138, 139, 140, 141, 142, 143, 144, 145, 146, 147, 148, 149, 150, 151, 152, 153, 154, 155, 156, 157, 158, 159, 160, 161, 162, 163, 164, 165, 166, 167, 168, 169]) (fun ⟨f, G, zs, F, vo, vt⟩ => [(8, vt)]) (fun ⟨f, G, zs, F, vo, vt⟩ => [.own vo 71 3 (G.length) (ints (flCX G)), .own vt 136 3 (zs.length) (tcells zs), .grp 3 1 (tg zs), .grp 3 1 (gl F), .blk b2 38 [.int .i64 (((n : Nat) : Int)), vo], .blk b1 38 [.int .i64 0, .slice none 0 0]]) (fun ⟨f, G, zs, F, vo, vt⟩ => GrI n ms G (gts zs) f ∧ FrIn F zs) (fun ⟨f, G, zs, F, vo, vt⟩ => f) (f0, [], ([((.slice A_uc1 (ms.length) c_uc1 : Value), ((.slice A_vl1 ((List.range k).length) c_vl1 : Value), (ms, (List.range n, (-1 : Int)))))]), [((.slice A_vl1 ((List.range k).length) c_vl1 : Value), nl (List.range n))], .slice none 0 0, .slice (some ⟨b4, 0, none⟩) 1 1) ?_ ?_ ?_ ?_
   ·exact ⟨hf0 ▸ GrI.start hm1 hn5 hml, fun z hz => by simp only [List.mem_singleton] at hz; subst hz; simp⟩
   ·exact ⟨rfl, trivial⟩
   ·exact ((Weak.selF [3, 2, 1, 0, 0, 0]).trans (Some'.weak (.takeEq (by first | rfl | simp) (.takeEq (by first | rfl | simp) (.takeEq (by first | rfl | simp) (.takeEq (by first | rfl | simp) (.takeEq (by first | rfl | simp) (.take (.nil _)))))))))
   ·rintro ⟨f, G, zs, F, vo, vt⟩ fr hinv
    show Run _ _ (over _ _ [(8, vt)] fr) [.own vo 71 3 (G.length) (ints (flCX G)), .own vt 136 3 (zs.length) (tcells zs), .grp 3 1 (tg zs), .grp 3 1 (gl F), .blk b2 38 [.int .i64 (((n : Nat) : Int)), vo], .blk b1 38 [.int .i64 0, .slice none 0 0]]
    try dsimp only at hinv
    refine Run.seq ?_
    refine Run.sr ?_
    refine Run.p (vt) rfl rfl ?_
    refine Run.formOwn (.tail _ (List.Mem.head _)) (fun A_vt1 c_vt1 hv hcapc_vt1 hmaxc_vt1 => ?_) (fun _ _ _ => ⟨nofun, nofun, nofun⟩)
    subst hv
    refine Run.y (.int .i64 (((zs.length : Nat) : Int))) rfl (OpY.len Tsl_137 rfl) ?_
    refine Run.p (.bool (decide ((((zs.length : Nat) : Int)) > 0))) rfl rfl ?_
    refine Run.done ?_
    refine Run.cond (b := decide ((((zs.length : Nat) : Int)) > 0)) rfl (fun h40 => ?_) (fun h40 => ?_)
    ·have p40 := h40; try simp only [bs] at p40
     have hzl : 0 < zs.length := by omega
     obtain ⟨hgr, hfm⟩ := hinv
     obtain ⟨f2, rfl⟩ := hgr.pos (by simpa using hzl)
     obtain ⟨m, hm⟩ : ∃ m, zs.length = m + 1 := ⟨zs.length - 1, by omega⟩
     obtain ⟨⟨zv, ⟨zf, ⟨vs, ⟨fq, t⟩⟩⟩⟩, hz⟩ : ∃ z, zs[m]? = some z := ⟨_, List.getElem?_eq_getElem (by omega)⟩
     have hzF : (zf, nl fq) ∈ F := hfm _ (List.mem_of_getElem? hz)
     have hzs := snoc_take hm hz
     have hgt := gts_spl hm hz
     have hgr2 := hgr
     rw [hgt] at hgr2
     have hnx := hgr2.next (fun m hm => (hm1 m hm).1) hn5
     have hgi := hgr2.gi
     have h63a := mu_len (gts zs)
     have h63b := hgr.len
     have h63c : (gts zs).length = zs.length := by simp
     have hsl63 : zs.length ≤ 63 := by omega
     have hGl : G.length ≤ 252 := by have := hgr.len; omega
     have hvl : vs.length ≤ 1000 := hgr.vl (vs, fq, t) (by rw [hgt]; simp)
     have hasc : fq.Pairwise (· < ·) := hgr.asc (vs, fq, t) (by rw [hgt]; simp)
     have htok := hgi.tok (vs, fq, t) (by simp)
     have hfq5 : ∀ j ∈ fq, j < 5 := fun j hj => by have : j < n := htok.lt j hj; omega
     have hzt : (zs.take m).length = m := by rw [List.length_take]; omega
     have hmus := mu_snoc (gts (zs.take m)) (vs, fq, t)
     rw [← hgt] at hmus
     have hpq := Nat.lt_two_pow_self (n := fq.length + 1)
     simp only at hmus
     have hfql : fq.length ≤ 62 := by omega
     have hnlq := nl_length fq
     refine Run.openOwn (.tail _ (List.Mem.head _)) (by omega) (fun gt ct hvgt hcapgt _ => ?_) (fun _ _ _ => ⟨nofun, nofun, nofun⟩)
     injection hvgt with hAgt _ hcgt; subst hAgt; subst hcgt
     refine Run.formMem (.tail _ (.tail _ (List.Mem.head _))) (tg_mem hz) (fun gA gc hgv => ?_) (fun _ _ _ => ⟨nofun, nofun, nofun⟩)
     simp only [tm] at hgv
     subst hgv
     refine Run.formMem (.tail _ (.tail _ (.tail _ (List.Mem.head _)))) (gl_mem hzF) (fun fA fc hfv => ?_) (fun _ _ _ => ⟨nofun, nofun, nofun⟩)
     simp only [nl_length] at hfv
     subst hfv
     refine Run.skip ?_
     refine Run.block ?_
     refine Run.sr ?_
     refine Run.p (.slice (some ⟨gt, 0, none⟩) (zs.length) c_vt1) rfl rfl ?_
     refine Run.p (.slice (some ⟨gt, 0, none⟩) (zs.length) c_vt1) rfl rfl ?_
     refine Run.y (.int .i64 (((zs.length : Nat) : Int))) rfl (OpY.len Tsl_137 rfl) ?_
     refine Run.y (.int .i64 (((m : Nat) : Int))) rfl (OpY.sub rfl rfl (by omega) (by omega) (by omega)) ?_
     refine Run.y (.pointer (some ⟨gt, m * 3, none⟩)) rfl (OpY.index (kk := m) Tsl_137 rfl rfl (by omega) (by omega) (by first | rfl | omega)) ?_
     refine Run.y (.agg #[.slice gA (vs.length) gc, .slice fA (fq.length) fc, .int .i64 t]) rfl (OpY.loadN (cs := [.slice gA (vs.length) gc, .slice fA (fq.length) fc, .int .i64 t]) Tagg_136 rfl (Cells.own0 (.tail _ (List.Mem.head _)) (preT hz))) ?_
     refine Run.step rfl (OpStep.alloc (zs := [.slice none 0 0, .slice none 0 0, .int .i64 0]) Tzero_136 fun b5 => ?_)
     refine Run.step rfl (OpStep.storeAll (us := [.slice gA (vs.length) gc, .slice fA (fq.length) fc, .int .i64 t]) Tsize_136 rfl rfl rfl (.here _) rfl ?_)
     refine Run.dsr ?_
     refine Run.p (.slice (some ⟨gt, 0, none⟩) (zs.length) c_vt1) rfl rfl ?_
     refine Run.p (.slice (some ⟨gt, 0, none⟩) (zs.length) c_vt1) rfl rfl ?_
     refine Run.y (.int .i64 (((zs.length : Nat) : Int))) rfl (OpY.len Tsl_137 rfl) ?_
     refine Run.y (.int .i64 (((m : Nat) : Int))) rfl (OpY.sub rfl rfl (by omega) (by omega) (by omega)) ?_
     refine Run.y (.slice (some ⟨gt, 0, none⟩) m c_vt1) rfl (OpY.sliceHN (h := m) Tsl_137 rfl rfl (by omega) (by omega)) ?_
     refine Run.p (.slice (some ⟨gt, 0, none⟩) m c_vt1) rfl rfl ?_
     refine Run.done ?_
     refine Run.weak (H' := [.own (.slice (some ⟨gt, 0, none⟩) m c_vt1) 136 3 ((zs.take m).length) (tcells (zs.take m)), .blk b5 136 [.slice gA (vs.length) gc, .slice fA (fq.length) fc, .int .i64 t], .own vo 71 3 (G.length) (ints (flCX G)), .grp 3 1 (tg zs), .grp 3 1 (gl F), .blk b2 38 [.int .i64 (((n : Nat) : Int)), vo], .blk b1 38 [.int .i64 0, .slice none 0 0]]) ((Weak.selF [2]).trans ((Weak.ownTake (m := m) (by omega)).trans (Some'.weak (.takeEq (by rw [tcells_take (by omega), List.length_take, Nat.min_eq_left (by omega)]) (.take (.take (.take (.take (.take (.take (.nil _))))))))))) ?_ ⟨_, _, rfl, fun _ => nofun, fun _ => nofun⟩
     rw [show tg zs = tg (zs.take m ++ ((.slice gA (vs.length) gc : Value), ((.slice fA (fq.length) fc : Value), (vs, (fq, t)))) :: []) from congrArg tg hzs]
     refine Run.weak (H' := [.own (.slice gA (vs.length) gc) 3 1 (vs.length) (ints (nl vs)), .grp 3 1 (tg (zs.take m ++ [])), .own (.slice (some ⟨gt, 0, none⟩) m c_vt1) 136 3 ((zs.take m).length) (tcells (zs.take m)), .blk b5 136 [.slice gA (vs.length) gc, .slice fA (fq.length) fc, .int .i64 t], .own vo 71 3 (G.length) (ints (flCX G)), .grp 3 1 (gl F), .blk b2 38 [.int .i64 (((n : Nat) : Int)), vo], .blk b1 38 [.int .i64 0, .slice none 0 0]]) ((Weak.selF [3]).trans Weak.tgTake) ?_ ⟨_, _, rfl, fun _ => nofun, fun _ => nofun⟩
     rw [List.append_nil (zs.take m)]
     refine Run.seq ?_
     refine Run.sr ?_
     refine Run.y (.pointer (some ⟨b5, 0, none⟩)) rfl (OpY.fieldAddr Tfo_136_0 rfl rfl) ?_
     refine Run.y (.slice gA (vs.length) gc) rfl (OpY.load1 Tone_22 rfl (Cells.blk (.tail _ (.tail _ (.tail _ (List.Mem.head _)))) ⟨rfl, trivial⟩)) ?_
     refine Run.y (.int .i64 (((vs.length : Nat) : Int))) rfl (OpY.len Tsl_22 rfl) ?_
     refine Run.p (.bool ((((vs.length : Nat) : Int)) == 0)) rfl rfl ?_
     refine Run.done ?_
     refine Run.cond (b := (((vs.length : Nat) : Int)) == 0) rfl (fun h55 => ?_) (fun h55 => ?_)
     ·have p55 := h55; try simp only [bs] at p55
      have hv0 : vs = [] := List.length_eq_zero_iff.1 (by omega)
      rw [hv0, gstp_nil] at hnx
      refine Run.exit rfl ?_
      refine Run.goal ⟨(by repeat (first | exact Same.refl _ _ | refine Same.put rfl ?_ | refine Same.over rfl rfl ?_)), (f2, G, ((zs.take m)), F, vo, .slice (some ⟨gt, 0, none⟩) m c_vt1), ?_, ?_, ?_, ?_⟩
      ·first | exact ⟨hnx, hfm.take m⟩ | exact ⟨hnx, hfm2⟩ | exact ⟨by rw [gts_two]; exact hnx, FrIn.two (FrIn.mono hfm2 fun p hp => List.mem_append_left _ hp) mem_end mem_end⟩
      ·show f2 < f2 + 1; omega
      ·exact ⟨(by first | rfl | (congr 1; omega) | simp), trivial⟩
      ·exact ((Weak.selF [4, 2, 1, 2, 2, 2]).trans (Some'.weak (.takeEq (by first | rfl | simp) (.takeEq (by first | rfl | simp) (.takeEq (by first | rfl | simp) (.takeEq (by first | rfl | simp) (.take (.take (.nil _)))))))))
     ·have p55 := h55; try simp only [bs] at p55
      have hvne : vs ≠ [] := by
       intro h
       rw [h] at p55
       exact p55 rfl
      refine Run.skip ?_
      refine Run.seq ?_
      refine Run.sr ?_
      refine Run.p (.int .i64 0) rfl rfl ?_
      refine Run.done ?_
      refine Run.cut (ι := List (Nat × Nat) × List TZ × Value) ([10, 12, 56, 57, 58, 59, 60, 61, 62, 63, 64, 65, 66, 67, 68, 69, 70, 71, 72, 73, 74, 75, 76, 77, 78, 79, 80, 81, 82, 83, 84, 85, 86, 87, 88, 89, 90, 91, 92, 93, 94, 95, 96, 97, 98, 99, 100, 101, 102, 103] ++ [104, 105]) (fun ⟨G2, zs2, vo2⟩ => []) (fun ⟨G2, zs2, vo2⟩ => [.own (.slice gA (vs.length) gc) 3 1 ((((gz t n (G, gts (zs.take m), vs)).2.2)).length) (ints (nl ((gz t n (G, gts (zs.take m), vs)).2.2))), .grp 3 1 (tg zs2), .own (.slice (some ⟨gt, 0, none⟩) m c_vt1) 136 3 (zs2.length) (tcells zs2), .blk b5 136 [.slice gA (vs.length) gc, .slice fA (fq.length) fc, .int .i64 t], .own vo2 71 3 (G2.length) (ints (flCX G2)), .grp 3 1 (gl F), .blk b2 38 [.int .i64 (((n : Nat) : Int)), vo2], .blk b1 38 [.int .i64 0, .slice none 0 0]]) (fun ⟨G2, zs2, vo2⟩ => LsI (zs.take m) (gz t n (G, gts (zs.take m), vs)) G2 zs2) ?_ ?_
      ·refine Run.block ?_
       refine Run.loop (ι := Nat × List (Nat × Nat) × List TZ × Value) ([10, 12, 56, 57, 58, 59, 60, 61, 62, 63, 64, 65, 66, 67, 68, 69, 70, 71, 72, 73, 74, 75, 76, 77, 78, 79, 80, 81, 82, 83, 84, 85, 86, 87, 88, 89, 90, 91, 92, 93, 94, 95, 96, 97, 98, 99, 100, 101, 102, 103] ++ [104, 105]) (fun ⟨j, G2, zs2, vo2⟩ => [(10, .int .i64 (((j : Nat) : Int)))]) (fun ⟨j, G2, zs2, vo2⟩ => [.own (.slice gA (vs.length) gc) 3 1 ((((gz t j (G, gts (zs.take m), vs)).2.2)).length) (ints (nl ((gz t j (G, gts (zs.take m), vs)).2.2))), .grp 3 1 (tg zs2), .own (.slice (some ⟨gt, 0, none⟩) m c_vt1) 136 3 (zs2.length) (tcells zs2), .blk b5 136 [.slice gA (vs.length) gc, .slice fA (fq.length) fc, .int .i64 t], .own vo2 71 3 (G2.length) (ints (flCX G2)), .grp 3 1 (gl F), .blk b2 38 [.int .i64 (((n : Nat) : Int)), vo2], .blk b1 38 [.int .i64 0, .slice none 0 0]]) (fun ⟨j, G2, zs2, vo2⟩ => j ≤ n ∧ LsI (zs.take m) (gz t j (G, gts (zs.take m), vs)) G2 zs2) (fun ⟨j, G2, zs2, vo2⟩ => n - j) (0, G, zs.take m, vo) ?_ ?_ ?_ ?_
       ·exact ⟨Nat.zero_le _, LsI.init⟩
       ·exact ⟨rfl, trivial⟩
       ·exact ((Weak.refl _).trans (Some'.weak (.takeEq (by first | rfl | (rw [gz_zero]) | (rw [tcells_add, List.length_map]) | (rw [hV1, List.length_map]) | (rw [hstay]) | simp) (.takeEq (by first | rfl | (rw [gz_zero]) | (rw [tcells_add, List.length_map]) | (rw [hV1, List.length_map]) | (rw [hstay]) | simp) (.takeEq (by first | rfl | (rw [gz_zero]) | (rw [tcells_add, List.length_map]) | (rw [hV1, List.length_map]) | (rw [hstay]) | simp) (.take (.takeEq (by first | rfl | (rw [gz_zero]) | (rw [tcells_add, List.length_map]) | (rw [hV1, List.length_map]) | (rw [hstay]) | simp) (.take (.takeEq (by first | rfl | (rw [gz_zero]) | (rw [tcells_add, List.length_map]) | (rw [hV1, List.length_map]) | (rw [hstay]) | simp) (.take (.nil _)))))))))))
       ·rintro ⟨j, G2, zs2, vo2⟩ fr hinv
        show Run _ _ (over _ _ [(10, .int .i64 (((j : Nat) : Int)))] fr) [.own (.slice gA (vs.length) gc) 3 1 ((((gz t j (G, gts (zs.take m), vs)).2.2)).length) (ints (nl ((gz t j (G, gts (zs.take m), vs)).2.2))), .grp 3 1 (tg zs2), .own (.slice (some ⟨gt, 0, none⟩) m c_vt1) 136 3 (zs2.length) (tcells zs2), .blk b5 136 [.slice gA (vs.length) gc, .slice fA (fq.length) fc, .int .i64 t], .own vo2 71 3 (G2.length) (ints (flCX G2)), .grp 3 1 (gl F), .blk b2 38 [.int .i64 (((n : Nat) : Int)), vo2], .blk b1 38 [.int .i64 0, .slice none 0 0]]
        try dsimp only at hinv
        refine Run.seq ?_
        refine Run.sr ?_
        refine Run.p (.int .i64 (((j : Nat) : Int))) rfl rfl ?_
        refine Run.p (.int .i64 (((n : Nat) : Int))) rfl rfl ?_
        refine Run.p (.bool (decide ((((j : Nat) : Int)) < (((n : Nat) : Int))))) rfl rfl ?_
        rcases Bool.eq_false_or_eq_true (decide ((((j : Nat) : Int)) < (((n : Nat) : Int)))) with h59 | h59
        ·refine Run.q (v := .bool true) rfl (OpQ.y (OpY.moveB rfl h59)) ?_
         have p59 := h59; try simp only [bs] at p59
         refine Run.y (.pointer (some ⟨b5, 2, none⟩)) rfl (OpY.fieldAddr Tfo_136_2 rfl rfl) ?_
         refine Run.y (.int .i64 t) rfl (OpY.load1 Tone_3 rfl (Cells.blk (.tail _ (.tail _ (.tail _ (List.Mem.head _)))) ⟨rfl, trivial⟩)) ?_
         refine Run.p (.bool (decide (t ≥ 0))) rfl rfl ?_
         refine Run.p (.bool (decide (t ≥ 0))) rfl rfl ?_
         refine Run.done ?_
         refine Run.cond (b := decide (t ≥ 0)) rfl (fun h63 => ?_) (fun h63 => ?_)
         ·have p63 := h63; try simp only [bs] at p63
          have h0t : 0 ≤ t := by omega
          obtain ⟨tn, htn⟩ : ∃ tn : Nat, t = (tn : Int) := ⟨t.toNat, by omega⟩
          obtain ⟨_, hls⟩ := hinv
          have hjn : j < n := by omega
          have hgz := gz_ok hgi hvne (show j ≤ n by omega)
          have hl2 := hls.len
          have hGl2 : G2.length ≤ 300 := by have h := hgz.2.2; rw [← hls.g] at h; omega
          have htn5 : tn ≤ 5 := by have h := (htok.tgt h0t).1; simp only [htn, Int.toNat_natCast] at h; omega
          have hsame := hls.same
          have hfm2 : FrIn F zs2 := fun z hz => by obtain ⟨y, hy, _, e2, _, e4⟩ := hsame z hz; rw [e2, e4]; exact hfm y (List.mem_of_mem_take hy)
          have hvl3 : ∀ z ∈ zs2, z.2.2.1.length ≤ 1000 := fun z hz => by obtain ⟨y, hy, _, _, e3, _⟩ := hsame z hz; rw [e3]; exact hgr.vl y.2.2 (List.mem_map.2 ⟨y, List.mem_of_mem_take hy, rfl⟩)
          have hp5 : 2 ^ n ≤ 32 := Nat.le_trans (Nat.pow_le_pow_right (by omega) hn5) (by decide)
          have hlt3 : ∀ z ∈ zs2, ∀ v ∈ z.2.2.1, v < 32 := fun z hz v hv => Nat.lt_of_lt_of_le ((hgz.1.tok z.2.2 (List.mem_append.2 (.inl (hls.ts ▸ List.mem_map.2 ⟨z, hz, rfl⟩)))).small v hv) hp5
          have hv32 : ∀ v ∈ (gz t j (G, gts (zs.take m), vs)).2.2, v < 32 := fun v hv => Nat.lt_of_lt_of_le ((hgz.1.tok _ (List.mem_append.2 (.inr (List.mem_singleton.2 rfl)))).small v hv) hp5
          have hvl2 : (gz t j (G, gts (zs.take m), vs)).2.2.length ≤ 1000 := by rw [gz_all_len]; exact hvl
          have hls2 : LsI (zs.take m) (gz (tn : Int) j (G, gts (zs.take m), vs)) G2 zs2 := by rw [← htn]; exact hls
          refine Run.skip ?_
          refine Run.seq ?_
          refine Run.block ?_
          refine Run.seq ?_
          refine Run.sr ?_
          refine Run.p (.int .i64 (((j : Nat) : Int))) rfl rfl ?_
          refine Run.y (.pointer (some ⟨b5, 2, none⟩)) rfl (OpY.fieldAddr Tfo_136_2 rfl rfl) ?_
          refine Run.y (.int .i64 t) rfl (OpY.load1 Tone_3 rfl (Cells.blk (.tail _ (.tail _ (.tail _ (List.Mem.head _)))) ⟨rfl, trivial⟩)) ?_
          refine Run.p (.bool ((((j : Nat) : Int)) == t)) rfl rfl ?_
          rcases Bool.eq_false_or_eq_true ((((j : Nat) : Int)) == t) with h70 | h70
          ·refine Run.q (v := .bool true) rfl (OpQ.y (OpY.moveB rfl h70)) ?_
           have p70 := h70; try simp only [bs] at p70
           have hstay : gz t (j + 1) (G, gts (zs.take m), vs) = gz t j (G, gts (zs.take m), vs) := by rw [htn]; exact gz_pass (.inl (by omega))
           refine Run.pass rfl ?_
           refine Run.pass rfl ?_
           refine Run.pass rfl ?_
           refine Run.pass rfl ?_
           refine Run.pass rfl ?_
           refine Run.pass rfl ?_
           refine Run.p (.bool true) rfl rfl ?_
           refine Run.done ?_
           refine Run.cond (b := true) rfl (fun _ => ?_) (fun h => nomatch h)
           refine Run.exit rfl ?_
           refine Run.region ?_
           refine Run.p (.int .i64 (((j : Nat) : Int))) rfl rfl ?_
           refine Run.y (.int .i64 ((((j : Nat) : Int)) + 1)) rfl (OpY.add rfl rfl rfl (by omega) (by omega)) ?_
           refine Run.p (.int .i64 ((((j : Nat) : Int)) + 1)) rfl rfl ?_
           refine Run.done ?_
           refine Run.goal ⟨(by repeat (first | exact Same.refl _ _ | refine Same.put rfl ?_ | refine Same.over rfl rfl ?_)), (j + 1, G2, zs2, vo2), ?_, ?_, ?_, ?_⟩
           ·first | exact ⟨by omega, hadd⟩ | exact ⟨by omega, by rw [hstay]; exact hls⟩
           ·show n - (j + 1) < n - j; omega
           ·exact ⟨(by first | rfl | (congr 1; omega) | simp), trivial⟩
           ·exact ((Weak.refl _).trans (Some'.weak (.takeEq (by first | rfl | (rw [gz_zero]) | (rw [tcells_add, List.length_map]) | (rw [hV1, List.length_map]) | (rw [hstay]) | simp) (.takeEq (by first | rfl | (rw [gz_zero]) | (rw [tcells_add, List.length_map]) | (rw [hV1, List.length_map]) | (rw [hstay]) | simp) (.takeEq (by first | rfl | (rw [gz_zero]) | (rw [tcells_add, List.length_map]) | (rw [hV1, List.length_map]) | (rw [hstay]) | simp) (.take (.takeEq (by first | rfl | (rw [gz_zero]) | (rw [tcells_add, List.length_map]) | (rw [hV1, List.length_map]) | (rw [hstay]) | simp) (.takeEq (by first | rfl | (rw [gz_zero]) | (rw [tcells_add, List.length_map]) | (rw [hV1, List.length_map]) | (rw [hstay]) | simp) (.take (.take (.nil _)))))))))))
          ·refine Run.q (v := .bool false) rfl (OpQ.y (OpY.moveB rfl h70)) ?_
           have p70 := h70; try simp only [bs] at p70
           have hne : j ≠ tn := by omega
           refine Run.y (.pointer (some ⟨b5, 0, none⟩)) rfl (OpY.fieldAddr Tfo_136_0 rfl rfl) ?_
           refine Run.y (.slice gA (vs.length) gc) rfl (OpY.load1 Tone_22 rfl (Cells.blk (.tail _ (.tail _ (.tail _ (List.Mem.head _)))) ⟨rfl, trivial⟩)) ?_
           refine Run.p (.int .i64 (((j : Nat) : Int))) rfl rfl ?_
           refine Run.step rfl (OpStep.call (vs := [.slice gA (vs.length) gc, .int .i64 (((j : Nat) : Int)), .int .i64 0]) (caps := []) Tcall_122 rfl rfl (fun w hs => (by have h := l14Set_spec (vs := ((gz t j (G, gts (zs.take m), vs)).2.2)) (j := j) (b := 0) (by omega) (by decide) (by omega) (by have h := hs.slOwn (.head _); exact h); exact h)) ?_)
           rintro us1 _ rfl
           show Run _ _ (putF _ _ _ us1) [.own us1 3 1 ((st0 (((gz t j (G, gts (zs.take m), vs)).2.2)) j).length) (ints (nl (st0 (((gz t j (G, gts (zs.take m), vs)).2.2)) j))), .own (.slice gA (vs.length) gc) 3 1 ((((gz t j (G, gts (zs.take m), vs)).2.2)).length) (ints (nl ((gz t j (G, gts (zs.take m), vs)).2.2))), .grp 3 1 (tg zs2), .own (.slice (some ⟨gt, 0, none⟩) m c_vt1) 136 3 (zs2.length) (tcells zs2), .blk b5 136 [.slice gA (vs.length) gc, .slice fA (fq.length) fc, .int .i64 t], .own vo2 71 3 (G2.length) (ints (flCX G2)), .grp 3 1 (gl F), .blk b2 38 [.int .i64 (((n : Nat) : Int)), vo2], .blk b1 38 [.int .i64 0, .slice none 0 0]]
           refine Run.formOwn (.head _) (fun A_us11 c_us11 hv hcapc_us11 hmaxc_us11 => ?_) (fun _ _ _ => ⟨nofun, nofun, nofun⟩)
           subst hv
           refine Run.y (.int .i64 ((((st0 (((gz t j (G, gts (zs.take m), vs)).2.2)) j).length : Nat) : Int))) rfl (OpY.len Tsl_22 rfl) ?_
           refine Run.p (.bool (decide (((((st0 (((gz t j (G, gts (zs.take m), vs)).2.2)) j).length : Nat) : Int)) > 0))) rfl rfl ?_
           refine Run.p (.bool (decide (((((st0 (((gz t j (G, gts (zs.take m), vs)).2.2)) j).length : Nat) : Int)) > 0))) rfl rfl ?_
           refine Run.done ?_
           refine Run.cond (b := decide (((((st0 (((gz t j (G, gts (zs.take m), vs)).2.2)) j).length : Nat) : Int)) > 0)) rfl (fun h77 => ?_) (fun h77 => ?_)
           ·have p77 := h77; try simp only [bs] at p77
            have hall : ((gz t j (G, gts (zs.take m), vs)).2.2.all fun v => v.testBit j) = false := by
             cases h : ((gz t j (G, gts (zs.take m), vs)).2.2.all fun v => v.testBit j) with
             | false => rfl
             | true => have h2 := st0_nil.2 h; omega
            have hstay : gz t (j + 1) (G, gts (zs.take m), vs) = gz t j (G, gts (zs.take m), vs) := by rw [htn]; exact gz_pass (.inr (by rw [← htn]; exact hall))
            refine Run.exit rfl ?_
            refine Run.region ?_
            refine Run.p (.int .i64 (((j : Nat) : Int))) rfl rfl ?_
            refine Run.y (.int .i64 ((((j : Nat) : Int)) + 1)) rfl (OpY.add rfl rfl rfl (by omega) (by omega)) ?_
            refine Run.p (.int .i64 ((((j : Nat) : Int)) + 1)) rfl rfl ?_
            refine Run.done ?_
            refine Run.goal ⟨(by repeat (first | exact Same.refl _ _ | refine Same.put rfl ?_ | refine Same.over rfl rfl ?_)), (j + 1, G2, zs2, vo2), ?_, ?_, ?_, ?_⟩
            ·first | exact ⟨by omega, hadd⟩ | exact ⟨by omega, by rw [hstay]; exact hls⟩
            ·show n - (j + 1) < n - j; omega
            ·exact ⟨(by first | rfl | (congr 1; omega) | simp), trivial⟩
            ·exact ((Weak.selF [1, 1, 1, 1, 1, 1, 1, 1]).trans (Some'.weak (.takeEq (by first | rfl | (rw [gz_zero]) | (rw [tcells_add, List.length_map]) | (rw [hV1, List.length_map]) | (rw [hstay]) | simp) (.takeEq (by first | rfl | (rw [gz_zero]) | (rw [tcells_add, List.length_map]) | (rw [hV1, List.length_map]) | (rw [hstay]) | simp) (.takeEq (by first | rfl | (rw [gz_zero]) | (rw [tcells_add, List.length_map]) | (rw [hV1, List.length_map]) | (rw [hstay]) | simp) (.take (.takeEq (by first | rfl | (rw [gz_zero]) | (rw [tcells_add, List.length_map]) | (rw [hV1, List.length_map]) | (rw [hstay]) | simp) (.takeEq (by first | rfl | (rw [gz_zero]) | (rw [tcells_add, List.length_map]) | (rw [hV1, List.length_map]) | (rw [hstay]) | simp) (.take (.take (.nil _)))))))))))
           ·have p77 := h77; try simp only [bs] at p77
            have hall : ((gz t j (G, gts (zs.take m), vs)).2.2.all fun v => v.testBit j) = true := st0_nil.1 (by omega)
            have hadd := hls2.add hne (by rw [← htn]; exact hall)
            rw [← htn] at hadd
            have hV1 : (gz t (j + 1) (G, gts (zs.take m), vs)).2.2 = ((gz t j (G, gts (zs.take m), vs)).2.2).map (addV j tn) := by rw [htn] at hall ⊢; rw [gz_go hne hall]
            refine Run.skip ?_
            refine Run.sr ?_
            refine Run.y (.pointer (some ⟨b2, 1, none⟩)) rfl (OpY.fieldAddr Tfo_38_1 rfl rfl) ?_
            refine Run.y (vo2) rfl (OpY.load1 Tone_36 rfl (Cells.blk (.tail _ (.tail _ (.tail _ (.tail _ (.tail _ (.tail _ (.tail _ (List.Mem.head _)))))))) ⟨rfl, trivial⟩)) ?_
            refine Run.p (.int .i64 (((j : Nat) : Int))) rfl rfl ?_
            refine Run.y (.pointer (some ⟨b5, 2, none⟩)) rfl (OpY.fieldAddr Tfo_136_2 rfl rfl) ?_
            refine Run.y (.int .i64 t) rfl (OpY.load1 Tone_3 rfl (Cells.blk (.tail _ (.tail _ (.tail _ (.tail _ (List.Mem.head _))))) ⟨rfl, trivial⟩)) ?_
            refine Run.y (.agg #[.int .i64 9, .int .i64 (((j : Nat) : Int)), .int .i64 t]) rfl (OpY.build (cs := [.int .i64 9, .int .i64 (((j : Nat) : Int)), .int .i64 t]) (by kernel_rfl)) ?_
            refine Run.step rfl (OpStep.buildSlice (us := [.int .i64 9, .int .i64 (((j : Nat) : Int)), .int .i64 t]) Tsl_36 (by decide) (by decide) ⟨rfl, [.int .i64 9, .int .i64 (((j : Nat) : Int)), .int .i64 t], _, rfl, rfl, rfl, rfl⟩ rfl fun b6 => ?_)
            refine Run.step rfl (OpStep.append (H1 := [.own (.slice (some ⟨b6, 0, none⟩) 1 1) 71 3 1 ([.int .i64 9, .int .i64 (((j : Nat) : Int)), .int .i64 t]), .own (.slice A_us11 ((st0 (((gz t j (G, gts (zs.take m), vs)).2.2)) j).length) c_us11) 3 1 ((st0 (((gz t j (G, gts (zs.take m), vs)).2.2)) j).length) (ints (nl (st0 (((gz t j (G, gts (zs.take m), vs)).2.2)) j))), .own (.slice gA (vs.length) gc) 3 1 ((((gz t j (G, gts (zs.take m), vs)).2.2)).length) (ints (nl ((gz t j (G, gts (zs.take m), vs)).2.2))), .grp 3 1 (tg zs2), .own (.slice (some ⟨gt, 0, none⟩) m c_vt1) 136 3 (zs2.length) (tcells zs2), .blk b5 136 [.slice gA (vs.length) gc, .slice fA (fq.length) fc, .int .i64 t]]) (H2 := [.grp 3 1 (gl F), .blk b2 38 [.int .i64 (((n : Nat) : Int)), vo2], .blk b1 38 [.int .i64 0, .slice none 0 0]]) (v := vo2) (u := .slice (some ⟨b6, 0, none⟩) 1 1) (n := G2.length) (m := 1) (xs := ints (flCX G2)) (ys := [.int .i64 9, .int .i64 (((j : Nat) : Int)), .int .i64 t]) Tsl_36 (by decide) rfl rfl rfl rfl (fun w hs => hs.slOwn (.head _)) (by simp [Value.oneCell']) (by omega) (by simp only [maxLen]; omega) fun av2 hnav2 => ?_)
            refine Run.weak (H' := [.own (.slice (some ⟨b6, 0, none⟩) 1 1) 71 3 1 ([.int .i64 9, .int .i64 (((j : Nat) : Int)), .int .i64 t]), .own (.slice A_us11 ((st0 (((gz t j (G, gts (zs.take m), vs)).2.2)) j).length) c_us11) 3 1 ((st0 (((gz t j (G, gts (zs.take m), vs)).2.2)) j).length) (ints (nl (st0 (((gz t j (G, gts (zs.take m), vs)).2.2)) j))), .own (.slice gA (vs.length) gc) 3 1 ((((gz t j (G, gts (zs.take m), vs)).2.2)).length) (ints (nl ((gz t j (G, gts (zs.take m), vs)).2.2))), .grp 3 1 (tg zs2), .own (.slice (some ⟨gt, 0, none⟩) m c_vt1) 136 3 (zs2.length) (tcells zs2), .blk b5 136 [.slice gA (vs.length) gc, .slice fA (fq.length) fc, .int .i64 t], .own av2 71 3 ((G2 ++ [(j, tn)]).length) (ints (flCX (G2 ++ [(j, tn)]))), .grp 3 1 (gl F), .blk b2 38 [.int .i64 (((n : Nat) : Int)), vo2], .blk b1 38 [.int .i64 0, .slice none 0 0]]) (Some'.weak (.take (.take (.take (.take (.take (.take (.takeEq (by rw [ints_flCX_t _ _ _ _ htn, List.length_append]; rfl) (.take (.take (.take (.nil _)))))))))))) ?_ ⟨_, _, rfl, fun _ => nofun, fun _ => nofun⟩
            refine Run.y (.pointer (some ⟨b2, 1, none⟩)) rfl (OpY.fieldAddr Tfo_38_1 rfl rfl) ?_
            refine Run.formOwn (.tail _ (.tail _ (.tail _ (.tail _ (.tail _ (.tail _ (List.Mem.head _))))))) (fun A_av21 c_av21 hv hcapc_av21 hmaxc_av21 => ?_) (fun _ _ _ => ⟨nofun, nofun, nofun⟩)
            subst hv
            refine Run.step rfl (OpStep.store (us := [.slice A_av21 ((G2 ++ [(j, tn)]).length) c_av21]) Tsize_36 rfl rfl rfl (.there _ (.there _ (.there _ (.there _ (.there _ (.there _ (.there _ (.there _ (.here _))))))))) (by simp only [List.length_cons, List.length_nil]; omega) ?_)
            show Run _ _ _ [.own (.slice (some ⟨b6, 0, none⟩) 1 1) 71 3 1 ([.int .i64 9, .int .i64 (((j : Nat) : Int)), .int .i64 t]), .own (.slice A_us11 ((st0 (((gz t j (G, gts (zs.take m), vs)).2.2)) j).length) c_us11) 3 1 ((st0 (((gz t j (G, gts (zs.take m), vs)).2.2)) j).length) (ints (nl (st0 (((gz t j (G, gts (zs.take m), vs)).2.2)) j))), .own (.slice gA (vs.length) gc) 3 1 ((((gz t j (G, gts (zs.take m), vs)).2.2)).length) (ints (nl ((gz t j (G, gts (zs.take m), vs)).2.2))), .grp 3 1 (tg zs2), .own (.slice (some ⟨gt, 0, none⟩) m c_vt1) 136 3 (zs2.length) (tcells zs2), .blk b5 136 [.slice gA (vs.length) gc, .slice fA (fq.length) fc, .int .i64 t], .own (.slice A_av21 ((G2 ++ [(j, tn)]).length) c_av21) 71 3 ((G2 ++ [(j, tn)]).length) (ints (flCX (G2 ++ [(j, tn)]))), .grp 3 1 (gl F), .blk b2 38 [.int .i64 (((n : Nat) : Int)), .slice A_av21 ((G2 ++ [(j, tn)]).length) c_av21], .blk b1 38 [.int .i64 0, .slice none 0 0]]
            refine Run.dsr ?_
            refine Run.y (.pointer (some ⟨b5, 0, none⟩)) rfl (OpY.fieldAddr Tfo_136_0 rfl rfl) ?_
            refine Run.y (.slice gA (vs.length) gc) rfl (OpY.load1 Tone_22 rfl (Cells.blk (.tail _ (.tail _ (.tail _ (.tail _ (.tail _ (List.Mem.head _)))))) ⟨rfl, trivial⟩)) ?_
            refine Run.p (.int .i64 (((j : Nat) : Int))) rfl rfl ?_
            refine Run.y (.pointer (some ⟨b5, 2, none⟩)) rfl (OpY.fieldAddr Tfo_136_2 rfl rfl) ?_
            refine Run.y (.int .i64 t) rfl (OpY.load1 Tone_3 rfl (Cells.blk (.tail _ (.tail _ (.tail _ (.tail _ (.tail _ (List.Mem.head _)))))) ⟨rfl, trivial⟩)) ?_
            refine Run.step rfl (OpStep.callM (H1 := [.own (.slice gA (vs.length) gc) 3 1 ((((gz t j (G, gts (zs.take m), vs)).2.2)).length) (ints (nl ((gz t j (G, gts (zs.take m), vs)).2.2)))]) (H2 := [.own (.slice (some ⟨b6, 0, none⟩) 1 1) 71 3 1 ([.int .i64 9, .int .i64 (((j : Nat) : Int)), .int .i64 t]), .own (.slice A_us11 ((st0 (((gz t j (G, gts (zs.take m), vs)).2.2)) j).length) c_us11) 3 1 ((st0 (((gz t j (G, gts (zs.take m), vs)).2.2)) j).length) (ints (nl (st0 (((gz t j (G, gts (zs.take m), vs)).2.2)) j))), .grp 3 1 (tg zs2), .own (.slice (some ⟨gt, 0, none⟩) m c_vt1) 136 3 (zs2.length) (tcells zs2), .blk b5 136 [.slice gA (vs.length) gc, .slice fA (fq.length) fc, .int .i64 t], .own (.slice A_av21 ((G2 ++ [(j, tn)]).length) c_av21) 71 3 ((G2 ++ [(j, tn)]).length) (ints (flCX (G2 ++ [(j, tn)]))), .grp 3 1 (gl F), .blk b2 38 [.int .i64 (((n : Nat) : Int)), .slice A_av21 ((G2 ++ [(j, tn)]).length) c_av21], .blk b1 38 [.int .i64 0, .slice none 0 0]]) (vs := [.slice gA (vs.length) gc, .int .i64 (((j : Nat) : Int)), .int .i64 t]) (caps := []) Tcall_123 rfl rfl (Weak.selF [2]) (fun w hs => (by have h := l14Add_spec (vs := (gz t j (G, gts (zs.take m), vs)).2.2) (j := j) (t := tn) (by omega) (by omega) hvl2 hv32 (hs.holds _ (.head _)); rw [← htn] at h; exact h)) ?_)
            rintro _ _ ⟨rfl, rfl⟩
            show Run _ _ (putF _ _ _ (.tuple #[])) [.own (.slice gA (vs.length) gc) 3 1 (((gz t j (G, gts (zs.take m), vs)).2.2).length) (ints (nl (((gz t j (G, gts (zs.take m), vs)).2.2).map (addV j tn)))), .own (.slice (some ⟨b6, 0, none⟩) 1 1) 71 3 1 ([.int .i64 9, .int .i64 (((j : Nat) : Int)), .int .i64 t]), .own (.slice A_us11 ((st0 (((gz t j (G, gts (zs.take m), vs)).2.2)) j).length) c_us11) 3 1 ((st0 (((gz t j (G, gts (zs.take m), vs)).2.2)) j).length) (ints (nl (st0 (((gz t j (G, gts (zs.take m), vs)).2.2)) j))), .grp 3 1 (tg zs2), .own (.slice (some ⟨gt, 0, none⟩) m c_vt1) 136 3 (zs2.length) (tcells zs2), .blk b5 136 [.slice gA (vs.length) gc, .slice fA (fq.length) fc, .int .i64 t], .own (.slice A_av21 ((G2 ++ [(j, tn)]).length) c_av21) 71 3 ((G2 ++ [(j, tn)]).length) (ints (flCX (G2 ++ [(j, tn)]))), .grp 3 1 (gl F), .blk b2 38 [.int .i64 (((n : Nat) : Int)), .slice A_av21 ((G2 ++ [(j, tn)]).length) c_av21], .blk b1 38 [.int .i64 0, .slice none 0 0]]
            refine Run.dsr ?_
            refine Run.p (.slice (some ⟨gt, 0, none⟩) m c_vt1) rfl rfl ?_
            refine Run.y (.int .i64 (((m : Nat) : Int))) rfl (OpY.len Tsl_137 rfl) ?_
            refine Run.p (.int .i64 0) rfl rfl ?_
            refine Run.done ?_
            refine Run.block ?_
            refine Run.loop (ι := Nat) [12, 95, 96, 97, 98, 99, 100, 101, 102, 103, 104, 105] (fun i => [(95, .int .i64 (((i : Nat) : Int)))]) (fun i => [.own (.slice gA (vs.length) gc) 3 1 (((gz t j (G, gts (zs.take m), vs)).2.2).length) (ints (nl (((gz t j (G, gts (zs.take m), vs)).2.2).map (addV j tn)))), .own (.slice (some ⟨b6, 0, none⟩) 1 1) 71 3 1 ([.int .i64 9, .int .i64 (((j : Nat) : Int)), .int .i64 t]), .grp 3 1 (tg (mixZ j tn i zs2)), .own (.slice (some ⟨gt, 0, none⟩) m c_vt1) 136 3 (zs2.length) (tcells zs2), .blk b5 136 [.slice gA (vs.length) gc, .slice fA (fq.length) fc, .int .i64 t], .own (.slice A_av21 ((G2 ++ [(j, tn)]).length) c_av21) 71 3 ((G2 ++ [(j, tn)]).length) (ints (flCX (G2 ++ [(j, tn)]))), .grp 3 1 (gl F), .blk b2 38 [.int .i64 (((n : Nat) : Int)), .slice A_av21 ((G2 ++ [(j, tn)]).length) c_av21], .blk b1 38 [.int .i64 0, .slice none 0 0]]) (fun i => i ≤ zs2.length) (fun i => zs2.length - i) 0 ?_ ?_ ?_ ?_
            ·exact Nat.zero_le _
            ·exact ⟨rfl, trivial⟩
            ·exact ((Weak.selF [0, 0, 1, 1, 1, 1, 1, 1, 1]).trans (Some'.weak (.take (.take (.takeEq (by first | rfl | (rw [mixZ_zero]) | (rw [(mixZ_at hyz).2])) (.take (.take (.take (.take (.take (.take (.nil _))))))))))))
            ·rintro i fr hinv
             show Run _ _ (over _ _ [(95, .int .i64 (((i : Nat) : Int)))] fr) [.own (.slice gA (vs.length) gc) 3 1 (((gz t j (G, gts (zs.take m), vs)).2.2).length) (ints (nl (((gz t j (G, gts (zs.take m), vs)).2.2).map (addV j tn)))), .own (.slice (some ⟨b6, 0, none⟩) 1 1) 71 3 1 ([.int .i64 9, .int .i64 (((j : Nat) : Int)), .int .i64 t]), .grp 3 1 (tg (mixZ j tn i zs2)), .own (.slice (some ⟨gt, 0, none⟩) m c_vt1) 136 3 (zs2.length) (tcells zs2), .blk b5 136 [.slice gA (vs.length) gc, .slice fA (fq.length) fc, .int .i64 t], .own (.slice A_av21 ((G2 ++ [(j, tn)]).length) c_av21) 71 3 ((G2 ++ [(j, tn)]).length) (ints (flCX (G2 ++ [(j, tn)]))), .grp 3 1 (gl F), .blk b2 38 [.int .i64 (((n : Nat) : Int)), .slice A_av21 ((G2 ++ [(j, tn)]).length) c_av21], .blk b1 38 [.int .i64 0, .slice none 0 0]]
             try dsimp only at hinv
             refine Run.sr ?_
             refine Run.p (.bool (decide ((((i : Nat) : Int)) < (((m : Nat) : Int))))) rfl rfl ?_
             refine Run.done ?_
             refine Run.seq ?_
             refine Run.cond (b := decide ((((i : Nat) : Int)) < (((m : Nat) : Int)))) rfl (fun h96 => ?_) (fun h96 => ?_)
             ·have p96 := h96; try simp only [bs] at p96
              have hil : i < zs2.length := by omega
              obtain ⟨⟨yv, ⟨yf, ⟨ys, ⟨yq, yt⟩⟩⟩⟩, hyz⟩ : ∃ z, zs2[i]? = some z := ⟨_, List.getElem?_eq_getElem hil⟩
              have hyF : (yf, nl yq) ∈ F := hfm2 _ (List.mem_of_getElem? hyz)
              have hymem : tm (yv, (yf, (ys, (yq, yt)))) ∈ tg (mixZ j tn i zs2) := by rw [(mixZ_at hyz).1]; simp [tg]
              have hyl : ys.length ≤ 1000 := hvl3 _ (List.mem_of_getElem? hyz)
              have hy32 : ∀ v ∈ ys, v < 32 := hlt3 _ (List.mem_of_getElem? hyz)
              refine Run.formMem (.tail _ (.tail _ (List.Mem.head _))) hymem (fun yA yc hgv => ?_) (fun _ _ _ => ⟨nofun, nofun, nofun⟩)
              simp only [tm] at hgv
              subst hgv
              refine Run.formMem (.tail _ (.tail _ (.tail _ (.tail _ (.tail _ (.tail _ (List.Mem.head _))))))) (gl_mem hyF) (fun pA pc hfv => ?_) (fun _ _ _ => ⟨nofun, nofun, nofun⟩)
              simp only [nl_length] at hfv
              subst hfv
              rw [(mixZ_at hyz).1]
              refine Run.weak (H' := [.own (.slice yA (ys.length) yc) 3 1 (ys.length) (ints (nl ys)), .grp 3 1 (tg ((zs2.take i).map (addZ j tn) ++ zs2.drop (i + 1))), .own (.slice gA (vs.length) gc) 3 1 (((gz t j (G, gts (zs.take m), vs)).2.2).length) (ints (nl (((gz t j (G, gts (zs.take m), vs)).2.2).map (addV j tn)))), .own (.slice (some ⟨b6, 0, none⟩) 1 1) 71 3 1 ([.int .i64 9, .int .i64 (((j : Nat) : Int)), .int .i64 t]), .own (.slice (some ⟨gt, 0, none⟩) m c_vt1) 136 3 (zs2.length) (tcells zs2), .blk b5 136 [.slice gA (vs.length) gc, .slice fA (fq.length) fc, .int .i64 t], .own (.slice A_av21 ((G2 ++ [(j, tn)]).length) c_av21) 71 3 ((G2 ++ [(j, tn)]).length) (ints (flCX (G2 ++ [(j, tn)]))), .grp 3 1 (gl F), .blk b2 38 [.int .i64 (((n : Nat) : Int)), .slice A_av21 ((G2 ++ [(j, tn)]).length) c_av21], .blk b1 38 [.int .i64 0, .slice none 0 0]]) ((Weak.selF [2]).trans Weak.tgTake) ?_ ⟨_, _, rfl, fun _ => nofun, fun _ => nofun⟩
              refine Run.skip ?_
              refine Run.seq ?_
              refine Run.block ?_
              refine Run.sr ?_
              refine Run.y (.pointer (some ⟨gt, i * 3, none⟩)) rfl (OpY.index (kk := i) Tsl_137 rfl rfl (by omega) (by omega) (by first | rfl | omega)) ?_
              refine Run.y (.agg #[.slice yA (ys.length) yc, .slice pA (yq.length) pc, .int .i64 yt]) rfl (OpY.loadN (cs := [.slice yA (ys.length) yc, .slice pA (yq.length) pc, .int .i64 yt]) Tagg_136 rfl (Cells.own0 (.tail _ (.tail _ (.tail _ (.tail _ (List.Mem.head _))))) (preT hyz))) ?_
              refine Run.step rfl (OpStep.alloc (zs := [.slice none 0 0, .slice none 0 0, .int .i64 0]) Tzero_136 fun b7 => ?_)
              refine Run.step rfl (OpStep.storeAll (us := [.slice yA (ys.length) yc, .slice pA (yq.length) pc, .int .i64 yt]) Tsize_136 rfl rfl rfl (.here _) rfl ?_)
              refine Run.dr ?_
              refine Run.y (.pointer (some ⟨b7, 0, none⟩)) rfl (OpY.fieldAddr Tfo_136_0 rfl rfl) ?_
              refine Run.y (.slice yA (ys.length) yc) rfl (OpY.load1 Tone_22 rfl (Cells.blk (.head _) ⟨rfl, trivial⟩)) ?_
              refine Run.p (.int .i64 (((j : Nat) : Int))) rfl rfl ?_
              refine Run.y (.pointer (some ⟨b5, 2, none⟩)) rfl (OpY.fieldAddr Tfo_136_2 rfl rfl) ?_
              refine Run.y (.int .i64 t) rfl (OpY.load1 Tone_3 rfl (Cells.blk (.tail _ (.tail _ (.tail _ (.tail _ (.tail _ (.tail _ (List.Mem.head _))))))) ⟨rfl, trivial⟩)) ?_
              refine Run.step rfl (OpStep.callM (H1 := [.own (.slice yA (ys.length) yc) 3 1 (ys.length) (ints (nl ys))]) (H2 := [.blk b7 136 [.slice yA (ys.length) yc, .slice pA (yq.length) pc, .int .i64 yt], .grp 3 1 (tg ((zs2.take i).map (addZ j tn) ++ zs2.drop (i + 1))), .own (.slice gA (vs.length) gc) 3 1 (((gz t j (G, gts (zs.take m), vs)).2.2).length) (ints (nl (((gz t j (G, gts (zs.take m), vs)).2.2).map (addV j tn)))), .own (.slice (some ⟨b6, 0, none⟩) 1 1) 71 3 1 ([.int .i64 9, .int .i64 (((j : Nat) : Int)), .int .i64 t]), .own (.slice (some ⟨gt, 0, none⟩) m c_vt1) 136 3 (zs2.length) (tcells zs2), .blk b5 136 [.slice gA (vs.length) gc, .slice fA (fq.length) fc, .int .i64 t], .own (.slice A_av21 ((G2 ++ [(j, tn)]).length) c_av21) 71 3 ((G2 ++ [(j, tn)]).length) (ints (flCX (G2 ++ [(j, tn)]))), .grp 3 1 (gl F), .blk b2 38 [.int .i64 (((n : Nat) : Int)), .slice A_av21 ((G2 ++ [(j, tn)]).length) c_av21], .blk b1 38 [.int .i64 0, .slice none 0 0]]) (vs := [.slice yA (ys.length) yc, .int .i64 (((j : Nat) : Int)), .int .i64 t]) (caps := []) Tcall_123 rfl rfl (Weak.selF [1]) (fun w hs => (by have h := l14Add_spec (vs := ys) (j := j) (t := tn) (by omega) (by omega) hyl hy32 (hs.holds _ (.head _)); rw [← htn] at h; exact h)) ?_)
              rintro _ _ ⟨rfl, rfl⟩
              show Run _ _ (putF _ _ _ (.tuple #[])) [.own (.slice yA (ys.length) yc) 3 1 ((ys).length) (ints (nl ((ys).map (addV j tn)))), .blk b7 136 [.slice yA (ys.length) yc, .slice pA (yq.length) pc, .int .i64 yt], .grp 3 1 (tg ((zs2.take i).map (addZ j tn) ++ zs2.drop (i + 1))), .own (.slice gA (vs.length) gc) 3 1 (((gz t j (G, gts (zs.take m), vs)).2.2).length) (ints (nl (((gz t j (G, gts (zs.take m), vs)).2.2).map (addV j tn)))), .own (.slice (some ⟨b6, 0, none⟩) 1 1) 71 3 1 ([.int .i64 9, .int .i64 (((j : Nat) : Int)), .int .i64 t]), .own (.slice (some ⟨gt, 0, none⟩) m c_vt1) 136 3 (zs2.length) (tcells zs2), .blk b5 136 [.slice gA (vs.length) gc, .slice fA (fq.length) fc, .int .i64 t], .own (.slice A_av21 ((G2 ++ [(j, tn)]).length) c_av21) 71 3 ((G2 ++ [(j, tn)]).length) (ints (flCX (G2 ++ [(j, tn)]))), .grp 3 1 (gl F), .blk b2 38 [.int .i64 (((n : Nat) : Int)), .slice A_av21 ((G2 ++ [(j, tn)]).length) c_av21], .blk b1 38 [.int .i64 0, .slice none 0 0]]
              refine Run.done ?_
              refine Run.blockEnd ?_
              refine Run.weak (H' := [.grp 3 1 (tg ((zs2.take i).map (addZ j tn) ++ addZ j tn ((.slice yA (ys.length) yc : Value), ((.slice pA (yq.length) pc : Value), (ys, (yq, yt)))) :: zs2.drop (i + 1))), .blk b7 136 [.slice yA (ys.length) yc, .slice pA (yq.length) pc, .int .i64 yt], .own (.slice gA (vs.length) gc) 3 1 (((gz t j (G, gts (zs.take m), vs)).2.2).length) (ints (nl (((gz t j (G, gts (zs.take m), vs)).2.2).map (addV j tn)))), .own (.slice (some ⟨b6, 0, none⟩) 1 1) 71 3 1 ([.int .i64 9, .int .i64 (((j : Nat) : Int)), .int .i64 t]), .own (.slice (some ⟨gt, 0, none⟩) m c_vt1) 136 3 (zs2.length) (tcells zs2), .blk b5 136 [.slice gA (vs.length) gc, .slice fA (fq.length) fc, .int .i64 t], .own (.slice A_av21 ((G2 ++ [(j, tn)]).length) c_av21) 71 3 ((G2 ++ [(j, tn)]).length) (ints (flCX (G2 ++ [(j, tn)]))), .grp 3 1 (gl F), .blk b2 38 [.int .i64 (((n : Nat) : Int)), .slice A_av21 ((G2 ++ [(j, tn)]).length) c_av21], .blk b1 38 [.int .i64 0, .slice none 0 0]]) ((Weak.selF [0, 1]).trans (Weak.trans (Some'.weak (.takeEq (by simp only [addZ, addT, List.length_map]) (.take (.take (.take (.take (.take (.take (.take (.take (.take (.take (.nil _))))))))))))) Weak.tgPut)) ?_ ⟨_, _, rfl, fun _ => nofun, fun _ => nofun⟩
              refine Run.region ?_
              refine Run.y (.int .i64 ((((i : Nat) : Int)) + 1)) rfl (OpY.add rfl rfl rfl (by omega) (by omega)) ?_
              refine Run.p (.int .i64 ((((i : Nat) : Int)) + 1)) rfl rfl ?_
              refine Run.done ?_
              refine Run.goal ⟨(by repeat (first | exact Same.refl _ _ | refine Same.put rfl ?_ | refine Same.over rfl rfl ?_)), i + 1, ?_, ?_, ?_, ?_⟩
              ·omega
              ·omega
              ·exact ⟨(by first | rfl | (congr 1; omega) | simp), trivial⟩
              ·exact ((Weak.selF [2, 2, 0, 1, 1, 1, 1, 1, 1]).trans (Some'.weak (.takeEq (by first | rfl | (rw [mixZ_zero]) | (rw [(mixZ_at hyz).2])) (.takeEq (by first | rfl | (rw [mixZ_zero]) | (rw [(mixZ_at hyz).2])) (.takeEq (by first | rfl | (rw [mixZ_zero]) | (rw [(mixZ_at hyz).2])) (.takeEq (by first | rfl | (rw [mixZ_zero]) | (rw [(mixZ_at hyz).2])) (.take (.takeEq (by first | rfl | (rw [mixZ_zero]) | (rw [(mixZ_at hyz).2])) (.takeEq (by first | rfl | (rw [mixZ_zero]) | (rw [(mixZ_at hyz).2])) (.take (.take (.nil _))))))))))))
             ·have p96 := h96; try simp only [bs] at p96
              have hin : i = zs2.length := by omega
              rw [show mixZ j tn i zs2 = zs2.map (addZ j tn) from by rw [hin, mixZ_all]]
              refine Run.exit rfl ?_
              refine Run.blockEnd ?_
              refine Run.region ?_
              refine Run.p (.int .i64 (((j : Nat) : Int))) rfl rfl ?_
              refine Run.y (.int .i64 ((((j : Nat) : Int)) + 1)) rfl (OpY.add rfl rfl rfl (by omega) (by omega)) ?_
              refine Run.p (.int .i64 ((((j : Nat) : Int)) + 1)) rfl rfl ?_
              refine Run.done ?_
              refine Run.goal ⟨(by repeat (first | exact Same.refl _ _ | refine Same.put rfl ?_ | refine Same.over rfl rfl ?_)), (j + 1, (G2 ++ [(j, tn)]), ((zs2.map (addZ j tn))), .slice A_av21 ((G2 ++ [(j, tn)]).length) c_av21), ?_, ?_, ?_, ?_⟩
              ·first | exact ⟨by omega, hadd⟩ | exact ⟨by omega, by rw [hstay]; exact hls⟩
              ·show n - (j + 1) < n - j; omega
              ·exact ⟨(by first | rfl | (congr 1; omega) | simp), trivial⟩
              ·exact ((Weak.selF [0, 1, 1, 1, 1, 1, 1, 1]).trans (Some'.weak (.takeEq (by first | rfl | (rw [gz_zero]) | (rw [tcells_add, List.length_map]) | (rw [hV1, List.length_map]) | (rw [hstay]) | simp) (.takeEq (by first | rfl | (rw [gz_zero]) | (rw [tcells_add, List.length_map]) | (rw [hV1, List.length_map]) | (rw [hstay]) | simp) (.takeEq (by first | rfl | (rw [gz_zero]) | (rw [tcells_add, List.length_map]) | (rw [hV1, List.length_map]) | (rw [hstay]) | simp) (.take (.takeEq (by first | rfl | (rw [gz_zero]) | (rw [tcells_add, List.length_map]) | (rw [hV1, List.length_map]) | (rw [hstay]) | simp) (.takeEq (by first | rfl | (rw [gz_zero]) | (rw [tcells_add, List.length_map]) | (rw [hV1, List.length_map]) | (rw [hstay]) | simp) (.takeEq (by first | rfl | (rw [gz_zero]) | (rw [tcells_add, List.length_map]) | (rw [hV1, List.length_map]) | (rw [hstay]) | simp) (.take (.nil _)))))))))))
         ·have p63 := h63; try simp only [bs] at p63
          have hfinal : LsI (zs.take m) (gz t n (G, gts (zs.take m), vs)) G2 zs2 := by have h := hinv.2; rw [gz_neg (by omega)] at h ⊢; exact h
          have hjj : gz t j (G, gts (zs.take m), vs) = gz t n (G, gts (zs.take m), vs) := by rw [gz_neg (by omega), gz_neg (by omega)]
          rw [hjj]
          refine Run.exit rfl ?_
          refine Run.goal ⟨(by repeat (first | exact Same.refl _ _ | refine Same.put rfl ?_ | refine Same.over rfl rfl ?_)), (G2, zs2, vo2), ?_, ?_, ?_⟩
          ·exact hfinal
          ·exact trivial
          ·exact ((Weak.refl _).trans (Some'.weak (.takeEq (by first | rfl | simp) (.takeEq (by first | rfl | simp) (.takeEq (by first | rfl | simp) (.take (.takeEq (by first | rfl | simp) (.takeEq (by first | rfl | simp) (.take (.take (.nil _)))))))))))
        ·refine Run.q (v := .bool false) rfl (OpQ.y (OpY.moveB rfl h59)) ?_
         have p59 := h59; try simp only [bs] at p59
         have hfinal : LsI (zs.take m) (gz t n (G, gts (zs.take m), vs)) G2 zs2 := (show j = n by omega) ▸ hinv.2
         have hjj : gz t j (G, gts (zs.take m), vs) = gz t n (G, gts (zs.take m), vs) := by rw [show j = n by omega]
         rw [hjj]
         refine Run.pass rfl ?_
         refine Run.pass rfl ?_
         refine Run.pass rfl ?_
         refine Run.p (.bool false) rfl rfl ?_
         refine Run.done ?_
         refine Run.cond (b := false) rfl (fun h => nomatch h) (fun _ => ?_)
         refine Run.exit rfl ?_
         refine Run.goal ⟨(by repeat (first | exact Same.refl _ _ | refine Same.put rfl ?_ | refine Same.over rfl rfl ?_)), (G2, zs2, vo2), ?_, ?_, ?_⟩
         ·exact hfinal
         ·exact trivial
         ·exact ((Weak.refl _).trans (Some'.weak (.takeEq (by first | rfl | simp) (.takeEq (by first | rfl | simp) (.takeEq (by first | rfl | simp) (.take (.takeEq (by first | rfl | simp) (.takeEq (by first | rfl | simp) (.take (.take (.nil _)))))))))))
      ·rintro ⟨G2, zs2, vo2⟩ fr hcut
       show Run _ _ (over _ _ [] fr) [.own (.slice gA (vs.length) gc) 3 1 ((((gz t n (G, gts (zs.take m), vs)).2.2)).length) (ints (nl ((gz t n (G, gts (zs.take m), vs)).2.2))), .grp 3 1 (tg zs2), .own (.slice (some ⟨gt, 0, none⟩) m c_vt1) 136 3 (zs2.length) (tcells zs2), .blk b5 136 [.slice gA (vs.length) gc, .slice fA (fq.length) fc, .int .i64 t], .own vo2 71 3 (G2.length) (ints (flCX G2)), .grp 3 1 (gl F), .blk b2 38 [.int .i64 (((n : Nat) : Int)), vo2], .blk b1 38 [.int .i64 0, .slice none 0 0]]
       have hfinal := hcut
       have hgzn := gz_ok hgi hvne (Nat.le_refl n)
       have hl3 := hfinal.len
       have hV : (gz t n (G, gts (zs.take m), vs)).2.2.length = vs.length := gz_all_len _ _ _
       have hsame := hfinal.same
       have hfm2 : FrIn F zs2 := fun z hz => by obtain ⟨y, hy, _, e2, _, e4⟩ := hsame z hz; rw [e2, e4]; exact hfm y (List.mem_of_mem_take hy)
       have hvl3 : ∀ z ∈ zs2, z.2.2.1.length ≤ 1000 := fun z hz => by obtain ⟨y, hy, _, _, e3, _⟩ := hsame z hz; rw [e3]; exact hgr.vl y.2.2 (List.mem_map.2 ⟨y, List.mem_of_mem_take hy, rfl⟩)
       
       refine Run.sr ?_
       refine Run.p (.int .i64 (-1)) rfl rfl ?_
       refine Run.p (.int .i64 0) rfl rfl ?_
       refine Run.done ?_
       refine Run.seq ?_
       refine Run.seq ?_
       obtain ⟨FA, FB, rfl⟩ := List.append_of_mem hzF
       refine Run.weak (H' := [.own (.slice fA (fq.length) fc) 3 1 (fq.length) (ints (nl fq)), .grp 3 1 (gl (FA ++ FB)), .own (.slice gA (vs.length) gc) 3 1 ((((gz t n (G, gts (zs.take m), vs)).2.2)).length) (ints (nl ((gz t n (G, gts (zs.take m), vs)).2.2))), .grp 3 1 (tg zs2), .own (.slice (some ⟨gt, 0, none⟩) m c_vt1) 136 3 (zs2.length) (tcells zs2), .blk b5 136 [.slice gA (vs.length) gc, .slice fA (fq.length) fc, .int .i64 t], .own vo2 71 3 (G2.length) (ints (flCX G2)), .blk b2 38 [.int .i64 (((n : Nat) : Int)), vo2], .blk b1 38 [.int .i64 0, .slice none 0 0]]) ((Weak.selF [5]).trans (Weak.grpTake.trans (Some'.weak (.takeEq (by simp only [nl_length]) (.take (.take (.take (.take (.take (.take (.take (.take (.nil _))))))))))))) ?_ ⟨_, _, rfl, fun _ => nofun, fun _ => nofun⟩
       refine Run.region ?_
       refine Run.y (.pointer (some ⟨b5, 1, none⟩)) rfl (OpY.fieldAddr Tfo_136_1 rfl rfl) ?_
       refine Run.y (.slice fA (fq.length) fc) rfl (OpY.load1 Tone_22 rfl (Cells.blk (.tail _ (.tail _ (.tail _ (.tail _ (.tail _ (List.Mem.head _)))))) ⟨rfl, trivial⟩)) ?_
       refine Run.y (.int .i64 (((fq.length : Nat) : Int))) rfl (OpY.len Tsl_22 rfl) ?_
       refine Run.p (.int .i64 0) rfl rfl ?_
       refine Run.done ?_
       refine Run.block ?_
       refine Run.loop (ι := Nat × Int × Int) [13, 14, 16, 17, 109, 110, 111, 112, 113, 114, 115, 116, 117, 118, 119, 120, 121, 122, 123, 124, 125, 126, 127, 128, 129] (fun ⟨k, b0, m0⟩ => [(13, .int .i64 b0), (14, .int .i64 m0), (109, .int .i64 (((k : Nat) : Int)))]) (fun ⟨k, b0, m0⟩ => [.own (.slice fA (fq.length) fc) 3 1 (fq.length) (ints (nl fq)), .grp 3 1 (gl (FA ++ FB)), .own (.slice gA (vs.length) gc) 3 1 ((((gz t n (G, gts (zs.take m), vs)).2.2)).length) (ints (nl ((gz t n (G, gts (zs.take m), vs)).2.2))), .grp 3 1 (tg zs2), .own (.slice (some ⟨gt, 0, none⟩) m c_vt1) 136 3 (zs2.length) (tcells zs2), .blk b5 136 [.slice gA (vs.length) gc, .slice fA (fq.length) fc, .int .i64 t], .own vo2 71 3 (G2.length) (ints (flCX G2)), .blk b2 38 [.int .i64 (((n : Nat) : Int)), vo2], .blk b1 38 [.int .i64 0, .slice none 0 0]]) (fun ⟨k, b0, m0⟩ => k ≤ fq.length ∧ (fq.take k).foldl (brF (gz t n (G, gts (zs.take m), vs)).2.2) (-1, 0) = (b0, m0) ∧ (0 ≤ m0 ∧ m0 ≤ 1000)) (fun ⟨k, b0, m0⟩ => fq.length - k) (0, -1, 0) ?_ ?_ ?_ ?_
       ·exact ⟨Nat.zero_le _, rfl, by omega⟩
       ·exact ⟨rfl, rfl, rfl, trivial⟩
       ·exact ((Weak.refl _).trans (Some'.weak (.take (.take (.take (.take (.take (.take (.take (.take (.take (.nil _))))))))))))
       ·rintro ⟨k, b0, m0⟩ fr hinv
        show Run _ _ (over _ _ [(13, .int .i64 b0), (14, .int .i64 m0), (109, .int .i64 (((k : Nat) : Int)))] fr) [.own (.slice fA (fq.length) fc) 3 1 (fq.length) (ints (nl fq)), .grp 3 1 (gl (FA ++ FB)), .own (.slice gA (vs.length) gc) 3 1 ((((gz t n (G, gts (zs.take m), vs)).2.2)).length) (ints (nl ((gz t n (G, gts (zs.take m), vs)).2.2))), .grp 3 1 (tg zs2), .own (.slice (some ⟨gt, 0, none⟩) m c_vt1) 136 3 (zs2.length) (tcells zs2), .blk b5 136 [.slice gA (vs.length) gc, .slice fA (fq.length) fc, .int .i64 t], .own vo2 71 3 (G2.length) (ints (flCX G2)), .blk b2 38 [.int .i64 (((n : Nat) : Int)), vo2], .blk b1 38 [.int .i64 0, .slice none 0 0]]
        try dsimp only at hinv
        refine Run.sr ?_
        refine Run.p (.bool (decide ((((k : Nat) : Int)) < (((fq.length : Nat) : Int))))) rfl rfl ?_
        refine Run.done ?_
        refine Run.seq ?_
        refine Run.cond (b := decide ((((k : Nat) : Int)) < (((fq.length : Nat) : Int)))) rfl (fun h110 => ?_) (fun h110 => ?_)
        ·have p110 := h110; try simp only [bs] at p110
         obtain ⟨_, hb0, hm0⟩ := hinv
         have hkl : k < fq.length := by omega
         have hx5 := hfq5 _ (nxIn hkl)
         have hszl := szJ_le (gz t n (G, gts (zs.take m), vs)).2.2 (nx fq k)
         refine Run.openOwn (.head _) (by omega) (fun gf cf hvgf hcapgf _ => ?_) (fun _ _ _ => ⟨nofun, nofun, nofun⟩)
         injection hvgf with hAgf _ hcgf; subst hAgf; subst hcgf
         refine Run.skip ?_
         refine Run.seq ?_
         refine Run.block ?_
         refine Run.sr ?_
         refine Run.y (.pointer (some ⟨gf, k, none⟩)) rfl (OpY.index (kk := k) Tsl_22 rfl rfl (by omega) (by omega) (by first | rfl | omega)) ?_
         refine Run.y (.int .i64 (ix (nl fq) (k))) rfl (OpY.load1 Tone_3 rfl (Cells.own0 (.head _) (pre1 (by omega)))) ?_
         refine Run.p (.int .i64 (ix (nl fq) (k))) rfl rfl ?_
         refine Run.done ?_
         rw [show ix (nl fq) (k) = ((nx fq k : Nat) : Int) from by exact ix_nl _ _]
         refine Run.seq ?_
         refine Run.cut (ι := Unit) [17, 113, 114, 115, 116, 117, 118, 119, 120, 121, 122, 123] (fun _ => [(17, .int .i64 (((szJ (gz t n (G, gts (zs.take m), vs)).2.2 (nx fq k) : Nat) : Int)))]) (fun _ => [.own (.slice (some ⟨gf, 0, none⟩) (fq.length) fc) 3 1 (fq.length) (ints (nl fq)), .grp 3 1 (gl (FA ++ FB)), .own (.slice gA (vs.length) gc) 3 1 ((((gz t n (G, gts (zs.take m), vs)).2.2)).length) (ints (nl ((gz t n (G, gts (zs.take m), vs)).2.2))), .grp 3 1 (tg zs2), .own (.slice (some ⟨gt, 0, none⟩) m c_vt1) 136 3 (zs2.length) (tcells zs2), .blk b5 136 [.slice gA (vs.length) gc, .slice (some ⟨gf, 0, none⟩) (fq.length) fc, .int .i64 t], .own vo2 71 3 (G2.length) (ints (flCX G2)), .blk b2 38 [.int .i64 (((n : Nat) : Int)), vo2], .blk b1 38 [.int .i64 0, .slice none 0 0]]) (fun _ => True) ?_ ?_
         ·refine Run.held (by kernel_rfl) ?_
          refine DW.take (i := 0) (v := .pointer (some ⟨b5, 0, none⟩)) rfl (by kernel_rfl) (by kernel_rfl) (by kernel_rfl) (fun _ _ _ h => h) (Weak.refl _) rfl (OpY.fieldAddr Tfo_136_0 rfl rfl) ?_
          refine DW.take (i := 1) (v := .slice gA (vs.length) gc) rfl (by kernel_rfl) (by kernel_rfl) (by kernel_rfl) (fun _ _ _ h => h) (Weak.refl _) rfl (OpY.load1 Tone_22 rfl (Cells.blk (.tail _ (.tail _ (.tail _ (.tail _ (.tail _ (List.Mem.head _)))))) ⟨rfl, trivial⟩)) ?_
          refine DW.take (i := 2) (v := .int .i64 (((nx fq k : Nat) : Int))) rfl (by kernel_rfl) (by kernel_rfl) (by kernel_rfl) (fun _ _ _ h => h) (Weak.refl _) rfl (OpY.pure rfl) ?_
          refine DW.take (i := 5) (v := .pointer (some ⟨b5, 0, none⟩)) rfl (by kernel_rfl) (by kernel_rfl) (by kernel_rfl) (fun _ _ _ h => h) (Weak.refl _) rfl (OpY.fieldAddr Tfo_136_0 rfl rfl) ?_
          refine DW.take (i := 6) (v := .slice gA (vs.length) gc) rfl (by kernel_rfl) (by kernel_rfl) (by kernel_rfl) (fun _ _ _ h => h) (Weak.refl _) rfl (OpY.load1 Tone_22 rfl (Cells.blk (.tail _ (.tail _ (.tail _ (.tail _ (.tail _ (List.Mem.head _)))))) ⟨rfl, trivial⟩)) ?_
          refine DW.take (i := 7) (v := .int .i64 (((nx fq k : Nat) : Int))) rfl (by kernel_rfl) (by kernel_rfl) (by kernel_rfl) (fun _ _ _ h => h) (Weak.refl _) rfl (OpY.pure rfl) ?_
          refine DW.step (i := 3) (by kernel_rfl) rfl rfl (OpStep.call (vs := [.slice gA (vs.length) gc, .int .i64 (((nx fq k : Nat) : Int)), .int .i64 0]) (caps := []) Tcall_122 rfl rfl (fun w hs => (by have h := l14Set_spec (vs := ((gz t n (G, gts (zs.take m), vs)).2.2)) (j := nx fq k) (b := 0) (by omega) (by decide) (by omega) (by have h := hs.slOwn (.tail _ (.tail _ (List.Mem.head _))); exact h); exact h)) ?_)
          rintro us2 _ rfl
          refine ⟨(Some'.weak (.skip (.take (.take (.take (.take (.take (.take (.take (.take (.take (.nil _)))))))))))), ?_⟩
          refine DW.formOwn (.head _) (fun A_us21 c_us21 hv hcapc_us21 hmaxc_us21 => ?_)
          subst hv
          refine DW.take (i := 4) (v := .int .i64 ((((st0 (((gz t n (G, gts (zs.take m), vs)).2.2)) (nx fq k)).length : Nat) : Int))) rfl (by kernel_rfl) (by kernel_rfl) (by kernel_rfl) (fun _ _ _ h => h) (Some'.weak (.skip (.take (.take (.take (.take (.take (.take (.take (.take (.take (.nil _)))))))))))) rfl (OpY.len Tsl_22 rfl) ?_
          refine DW.step (i := 8) (by kernel_rfl) rfl rfl (OpStep.call (vs := [.slice gA (vs.length) gc, .int .i64 (((nx fq k : Nat) : Int)), .int .i64 1]) (caps := []) Tcall_122 rfl rfl (fun w hs => (by have h := l14Set_spec (vs := ((gz t n (G, gts (zs.take m), vs)).2.2)) (j := nx fq k) (b := 1) (by omega) (by decide) (by omega) (by have h := hs.slOwn (.tail _ (.tail _ (.tail _ (List.Mem.head _)))); exact h); exact h)) ?_)
          rintro us3 _ rfl
          refine ⟨(Some'.weak (.skip (.skip (.take (.take (.take (.take (.take (.take (.take (.take (.take (.nil _))))))))))))), ?_⟩
          refine DW.formOwn (.head _) (fun A_us31 c_us31 hv hcapc_us31 hmaxc_us31 => ?_)
          subst hv
          refine DW.take (i := 9) (v := .int .i64 ((((st1 (((gz t n (G, gts (zs.take m), vs)).2.2)) (nx fq k)).length : Nat) : Int))) rfl (by kernel_rfl) (by kernel_rfl) (by kernel_rfl) (fun _ _ _ h => h) (Some'.weak (.skip (.skip (.take (.take (.take (.take (.take (.take (.take (.take (.take (.nil _))))))))))))) rfl (OpY.len Tsl_22 rfl) ?_
          refine DW.step (i := 10) (by kernel_rfl) rfl rfl (OpStep.q (v := .int .i64 (max ((((st0 (((gz t n (G, gts (zs.take m), vs)).2.2)) (nx fq k)).length : Nat) : Int)) ((((st1 (((gz t n (G, gts (zs.take m), vs)).2.2)) (nx fq k)).length : Nat) : Int)))) (OpQ.call (vs := [.int .i64 ((((st0 (((gz t n (G, gts (zs.take m), vs)).2.2)) (nx fq k)).length : Nat) : Int)), .int .i64 ((((st1 (((gz t n (G, gts (zs.take m), vs)).2.2)) (nx fq k)).length : Nat) : Int))]) (caps := []) Tcall_115 rfl rfl (fun w hs => l1Most_spec _ _ w)) ?_)
          refine ⟨(Some'.weak (.skip (.skip (.take (.take (.take (.take (.take (.take (.take (.take (.take (.nil _))))))))))))), ?_⟩
          refine DW.take (i := 11) (v := .int .i64 (max ((((st0 (((gz t n (G, gts (zs.take m), vs)).2.2)) (nx fq k)).length : Nat) : Int)) ((((st1 (((gz t n (G, gts (zs.take m), vs)).2.2)) (nx fq k)).length : Nat) : Int)))) rfl (by kernel_rfl) (by kernel_rfl) (by kernel_rfl) (fun _ _ _ h => h) (Some'.weak (.skip (.skip (.take (.take (.take (.take (.take (.take (.take (.take (.take (.nil _))))))))))))) rfl (OpY.pure rfl) ?_
          refine DW.done (by kernel_rfl) ?_
          refine Run.goal ⟨(by repeat (first | exact Same.refl _ _ | refine Same.put rfl ?_ | refine Same.over rfl rfl ?_)), (), ?_, ?_, ?_⟩
          ·trivial
          ·exact ⟨(by show Value.int _ _ = Value.int _ _; congr 1; simp only [szJ]; omega), trivial⟩
          ·exact (Some'.weak (.skip (.skip (.takeEq (by first | rfl | simp) (.takeEq (by first | rfl | simp) (.takeEq (by first | rfl | simp) (.takeEq (by first | rfl | simp) (.takeEq (by first | rfl | simp) (.take (.takeEq (by first | rfl | simp) (.take (.take (.nil _)))))))))))))
         ·rintro _ fr hcut
          show Run _ _ (over _ _ [(17, .int .i64 (((szJ (gz t n (G, gts (zs.take m), vs)).2.2 (nx fq k) : Nat) : Int)))] fr) [.own (.slice (some ⟨gf, 0, none⟩) (fq.length) fc) 3 1 (fq.length) (ints (nl fq)), .grp 3 1 (gl (FA ++ FB)), .own (.slice gA (vs.length) gc) 3 1 ((((gz t n (G, gts (zs.take m), vs)).2.2)).length) (ints (nl ((gz t n (G, gts (zs.take m), vs)).2.2))), .grp 3 1 (tg zs2), .own (.slice (some ⟨gt, 0, none⟩) m c_vt1) 136 3 (zs2.length) (tcells zs2), .blk b5 136 [.slice gA (vs.length) gc, .slice (some ⟨gf, 0, none⟩) (fq.length) fc, .int .i64 t], .own vo2 71 3 (G2.length) (ints (flCX G2)), .blk b2 38 [.int .i64 (((n : Nat) : Int)), vo2], .blk b1 38 [.int .i64 0, .slice none 0 0]]
          refine Run.sr ?_
          refine Run.p (.int .i64 (((szJ (gz t n (G, gts (zs.take m), vs)).2.2 (nx fq k) : Nat) : Int))) rfl rfl ?_
          refine Run.p (.int .i64 m0) rfl rfl ?_
          refine Run.p (.bool (decide ((((szJ (gz t n (G, gts (zs.take m), vs)).2.2 (nx fq k) : Nat) : Int)) > m0))) rfl rfl ?_
          refine Run.done ?_
          refine Run.cond (b := decide ((((szJ (gz t n (G, gts (zs.take m), vs)).2.2 (nx fq k) : Nat) : Int)) > m0)) rfl (fun h126 => ?_) (fun h126 => ?_)
          ·have p126 := h126; try simp only [bs] at p126
           have hgo : brF (gz t n (G, gts (zs.take m), vs)).2.2 (b0, m0) (nx fq k) = (((nx fq k : Nat) : Int), ((szJ (gz t n (G, gts (zs.take m), vs)).2.2 (nx fq k) : Nat) : Int)) := by unfold brF; rw [if_pos (by omega)]
           refine Run.sr ?_
           refine Run.p (.int .i64 (((nx fq k : Nat) : Int))) rfl rfl ?_
           refine Run.p (.int .i64 (((nx fq k : Nat) : Int))) rfl rfl ?_
           refine Run.dr ?_
           refine Run.p (.int .i64 (((szJ (gz t n (G, gts (zs.take m), vs)).2.2 (nx fq k) : Nat) : Int))) rfl rfl ?_
           refine Run.p (.int .i64 (((szJ (gz t n (G, gts (zs.take m), vs)).2.2 (nx fq k) : Nat) : Int))) rfl rfl ?_
           refine Run.done ?_
           refine Run.blockEnd ?_
           refine Run.region ?_
           refine Run.y (.int .i64 ((((k : Nat) : Int)) + 1)) rfl (OpY.add rfl rfl rfl (by omega) (by omega)) ?_
           refine Run.p (.int .i64 ((((k : Nat) : Int)) + 1)) rfl rfl ?_
           refine Run.done ?_
           refine Run.goal ⟨(by repeat (first | exact Same.refl _ _ | refine Same.put rfl ?_ | refine Same.over rfl rfl ?_)), (k + 1, ((nx fq k : Nat) : Int), ((szJ (gz t n (G, gts (zs.take m), vs)).2.2 (nx fq k) : Nat) : Int)), ?_, ?_, ?_, ?_⟩
           ·exact ⟨by omega, by rw [fold_take hkl, hb0]; exact hgo, by omega⟩
           ·show fq.length - (k + 1) < fq.length - k; omega
           ·exact ⟨(by first | rfl | (congr 1; omega) | simp), (by first | rfl | (congr 1; omega) | simp), (by first | rfl | (congr 1; omega) | simp), trivial⟩
           ·exact ((Weak.refl _).trans (Some'.weak (.takeEq (by first | rfl | simp) (.takeEq (by first | rfl | simp) (.takeEq (by first | rfl | simp) (.takeEq (by first | rfl | simp) (.takeEq (by first | rfl | simp) (.takeEq (by first | rfl | simp) (.takeEq (by first | rfl | simp) (.take (.take (.nil _))))))))))))
          ·have p126 := h126; try simp only [bs] at p126
           have hgo : brF (gz t n (G, gts (zs.take m), vs)).2.2 (b0, m0) (nx fq k) = (b0, m0) := by unfold brF; rw [if_neg (by omega)]
           refine Run.skip ?_
           refine Run.blockEnd ?_
           refine Run.region ?_
           refine Run.y (.int .i64 ((((k : Nat) : Int)) + 1)) rfl (OpY.add rfl rfl rfl (by omega) (by omega)) ?_
           refine Run.p (.int .i64 ((((k : Nat) : Int)) + 1)) rfl rfl ?_
           refine Run.done ?_
           refine Run.goal ⟨(by repeat (first | exact Same.refl _ _ | refine Same.put rfl ?_ | refine Same.over rfl rfl ?_)), (k + 1, b0, m0), ?_, ?_, ?_, ?_⟩
           ·exact ⟨by omega, by rw [fold_take hkl, hb0]; exact hgo, by omega⟩
           ·show fq.length - (k + 1) < fq.length - k; omega
           ·exact ⟨(by first | rfl | (congr 1; omega) | simp), (by first | rfl | (congr 1; omega) | simp), (by first | rfl | (congr 1; omega) | simp), trivial⟩
           ·exact ((Weak.refl _).trans (Some'.weak (.takeEq (by first | rfl | simp) (.takeEq (by first | rfl | simp) (.takeEq (by first | rfl | simp) (.takeEq (by first | rfl | simp) (.takeEq (by first | rfl | simp) (.takeEq (by first | rfl | simp) (.takeEq (by first | rfl | simp) (.take (.take (.nil _))))))))))))
        ·have p110 := h110; try simp only [bs] at p110
         obtain ⟨_, hb0, hm0⟩ := hinv
         have hbb : b0 = brn (gz t n (G, gts (zs.take m), vs)).2.2 fq := by
          have h := hb0
          rw [show k = fq.length by omega, List.take_length] at h
          rw [← brn_zero hgzn.2.1, h]
         refine Run.exit rfl ?_
         refine Run.seq ?_
         refine Run.sr ?_
         refine Run.p (.int .i64 b0) rfl rfl ?_
         refine Run.p (.bool (decide (b0 < 0))) rfl rfl ?_
         refine Run.done ?_
         refine Run.cond (b := decide (b0 < 0)) rfl (fun h131 => ?_) (fun h131 => ?_)
         ·have p131 := h131; try simp only [bs] at p131
          rw [gstp_stop hvne (by omega), ← hfinal.g, ← hfinal.ts] at hnx
          refine Run.weak (H' := [.grp 3 1 (gl (FA ++ (((.slice fA (fq.length) fc : Value), nl fq) :: FB))), .own (.slice gA (vs.length) gc) 3 1 ((((gz t n (G, gts (zs.take m), vs)).2.2)).length) (ints (nl ((gz t n (G, gts (zs.take m), vs)).2.2))), .grp 3 1 (tg zs2), .own (.slice (some ⟨gt, 0, none⟩) m c_vt1) 136 3 (zs2.length) (tcells zs2), .blk b5 136 [.slice gA (vs.length) gc, .slice fA (fq.length) fc, .int .i64 t], .own vo2 71 3 (G2.length) (ints (flCX G2)), .blk b2 38 [.int .i64 (((n : Nat) : Int)), vo2], .blk b1 38 [.int .i64 0, .slice none 0 0]]) ((Weak.refl _).trans (Weak.trans (Some'.weak (.takeEq (by simp only [nl_length]) (.take (.take (.take (.take (.take (.take (.take (.take (.nil _))))))))))) (Weak.grpPut (p := ((.slice fA (fq.length) fc : Value), nl fq))))) ?_ ⟨_, _, rfl, fun _ => nofun, fun _ => nofun⟩
          refine Run.exit rfl ?_
          refine Run.goal ⟨(by repeat (first | exact Same.refl _ _ | refine Same.put rfl ?_ | refine Same.over rfl rfl ?_)), (f2, G2, zs2, (FA ++ (((.slice fA (fq.length) fc : Value), nl fq) :: FB)), vo2, .slice (some ⟨gt, 0, none⟩) m c_vt1), ?_, ?_, ?_, ?_⟩
          ·first | exact ⟨hnx, hfm.take m⟩ | exact ⟨hnx, hfm2⟩ | exact ⟨by rw [gts_two]; exact hnx, FrIn.two (FrIn.mono hfm2 fun p hp => List.mem_append_left _ hp) mem_end mem_end⟩
          ·show f2 < f2 + 1; omega
          ·exact ⟨(by first | rfl | (congr 1; omega) | simp), trivial⟩
          ·exact ((Weak.selF [5, 3, 2, 0, 2, 2]).trans (Some'.weak (.takeEq (by first | rfl | simp) (.takeEq (by first | rfl | simp) (.takeEq (by first | rfl | simp) (.takeEq (by first | rfl | simp) (.takeEq (by first | rfl | simp) (.take (.nil _)))))))))
         ·have p131 := h131; try simp only [bs] at p131
          have hfne : fq ≠ [] := by
           intro h
           rw [h, brn_nil] at hbb; omega
          obtain ⟨b, hbf, hbe⟩ := brn_cases (gz t n (G, gts (zs.take m), vs)).2.2 fq hfne
          rw [gstp_go hvne hbe, ← hfinal.g, ← hfinal.ts] at hnx
          have hb5 := hfq5 b hbf
          rw [show b0 = ((b : Nat) : Int) from by rw [hbb]; exact hbe]
          refine Run.skip ?_
          refine Run.sr ?_
          refine Run.p (.slice none 0 0) rfl rfl ?_
          refine Run.done ?_
          refine Run.weak (H' := [.own (.slice none 0 0) 3 1 0 ([]), .own (.slice fA (fq.length) fc) 3 1 (fq.length) (ints (nl fq)), .grp 3 1 (gl (FA ++ FB)), .own (.slice gA (vs.length) gc) 3 1 ((((gz t n (G, gts (zs.take m), vs)).2.2)).length) (ints (nl ((gz t n (G, gts (zs.take m), vs)).2.2))), .grp 3 1 (tg zs2), .own (.slice (some ⟨gt, 0, none⟩) m c_vt1) 136 3 (zs2.length) (tcells zs2), .blk b5 136 [.slice gA (vs.length) gc, .slice fA (fq.length) fc, .int .i64 t], .own vo2 71 3 (G2.length) (ints (flCX G2)), .blk b2 38 [.int .i64 (((n : Nat) : Int)), vo2], .blk b1 38 [.int .i64 0, .slice none 0 0]]) (Weak.nilOwn _ _) ?_ ⟨_, _, rfl, fun _ => nofun, fun _ => nofun⟩
          refine Run.seq ?_
          refine Run.sr ?_
          refine Run.y (.pointer (some ⟨b5, 1, none⟩)) rfl (OpY.fieldAddr Tfo_136_1 rfl rfl) ?_
          refine Run.y (.slice fA (fq.length) fc) rfl (OpY.load1 Tone_22 rfl (Cells.blk (.tail _ (.tail _ (.tail _ (.tail _ (.tail _ (.tail _ (List.Mem.head _))))))) ⟨rfl, trivial⟩)) ?_
          refine Run.y (.int .i64 (((fq.length : Nat) : Int))) rfl (OpY.len Tsl_22 rfl) ?_
          refine Run.p (.int .i64 0) rfl rfl ?_
          refine Run.done ?_
          refine Run.block ?_
          refine Run.loop (ι := Nat × Value) [18, 20, 135, 136, 137, 138, 139, 140, 141, 142, 143, 144, 145, 146] (fun ⟨k, vn⟩ => [(18, vn), (135, .int .i64 (((k : Nat) : Int)))]) (fun ⟨k, vn⟩ => [.own vn 3 1 ((frX b (fq.take k)).length) (ints (nl (frX b (fq.take k)))), .own (.slice fA (fq.length) fc) 3 1 (fq.length) (ints (nl fq)), .grp 3 1 (gl (FA ++ FB)), .own (.slice gA (vs.length) gc) 3 1 ((((gz t n (G, gts (zs.take m), vs)).2.2)).length) (ints (nl ((gz t n (G, gts (zs.take m), vs)).2.2))), .grp 3 1 (tg zs2), .own (.slice (some ⟨gt, 0, none⟩) m c_vt1) 136 3 (zs2.length) (tcells zs2), .blk b5 136 [.slice gA (vs.length) gc, .slice fA (fq.length) fc, .int .i64 t], .own vo2 71 3 (G2.length) (ints (flCX G2)), .blk b2 38 [.int .i64 (((n : Nat) : Int)), vo2], .blk b1 38 [.int .i64 0, .slice none 0 0]]) (fun ⟨k, vn⟩ => k ≤ fq.length) (fun ⟨k, vn⟩ => fq.length - k) (0, .slice none 0 0) ?_ ?_ ?_ ?_
          ·exact Nat.zero_le _
          ·exact ⟨rfl, rfl, trivial⟩
          ·exact ((Weak.refl _).trans (Some'.weak (.takeEq (by first | rfl | (rw [hold]) | simp [frX]) (.take (.take (.take (.take (.take (.take (.take (.take (.take (.nil _)))))))))))))
          ·rintro ⟨k, vn⟩ fr hinv
           show Run _ _ (over _ _ [(18, vn), (135, .int .i64 (((k : Nat) : Int)))] fr) [.own vn 3 1 ((frX b (fq.take k)).length) (ints (nl (frX b (fq.take k)))), .own (.slice fA (fq.length) fc) 3 1 (fq.length) (ints (nl fq)), .grp 3 1 (gl (FA ++ FB)), .own (.slice gA (vs.length) gc) 3 1 ((((gz t n (G, gts (zs.take m), vs)).2.2)).length) (ints (nl ((gz t n (G, gts (zs.take m), vs)).2.2))), .grp 3 1 (tg zs2), .own (.slice (some ⟨gt, 0, none⟩) m c_vt1) 136 3 (zs2.length) (tcells zs2), .blk b5 136 [.slice gA (vs.length) gc, .slice fA (fq.length) fc, .int .i64 t], .own vo2 71 3 (G2.length) (ints (flCX G2)), .blk b2 38 [.int .i64 (((n : Nat) : Int)), vo2], .blk b1 38 [.int .i64 0, .slice none 0 0]]
           try dsimp only at hinv
           refine Run.sr ?_
           refine Run.p (.bool (decide ((((k : Nat) : Int)) < (((fq.length : Nat) : Int))))) rfl rfl ?_
           refine Run.done ?_
           refine Run.seq ?_
           refine Run.cond (b := decide ((((k : Nat) : Int)) < (((fq.length : Nat) : Int)))) rfl (fun h136 => ?_) (fun h136 => ?_)
           ·have p136 := h136; try simp only [bs] at p136
            have hkl : k < fq.length := by omega
            have hfl := frX_le b (fq.take k)
            have hftk : (fq.take k).length ≤ fq.length := by rw [List.length_take]; omega
            refine Run.openOwn (.tail _ (List.Mem.head _)) (by omega) (fun gf cf hvgf hcapgf _ => ?_) (fun _ _ _ => ⟨nofun, nofun, nofun⟩)
            injection hvgf with hAgf _ hcgf; subst hAgf; subst hcgf
            refine Run.skip ?_
            refine Run.seq ?_
            refine Run.block ?_
            refine Run.sr ?_
            refine Run.y (.pointer (some ⟨gf, k, none⟩)) rfl (OpY.index (kk := k) Tsl_22 rfl rfl (by omega) (by omega) (by first | rfl | omega)) ?_
            refine Run.y (.int .i64 (ix (nl fq) (k))) rfl (OpY.load1 Tone_3 rfl (Cells.own0 (.tail _ (List.Mem.head _)) (pre1 (by omega)))) ?_
            refine Run.p (.int .i64 (ix (nl fq) (k))) rfl rfl ?_
            refine Run.dsr ?_
            refine Run.p (.int .i64 (ix (nl fq) (k))) rfl rfl ?_
            refine Run.p (.int .i64 (((b : Nat) : Int))) rfl rfl ?_
            refine Run.p (.bool ((ix (nl fq) (k)) != (((b : Nat) : Int)))) rfl rfl ?_
            refine Run.done ?_
            refine Run.cond (b := (ix (nl fq) (k)) != (((b : Nat) : Int))) rfl (fun h141 => ?_) (fun h141 => ?_)
            ·have p141 := h141; try simp only [bs] at p141
             have hnew : frX b (fq.take (k + 1)) = frX b (fq.take k) ++ [nx fq k] := by rw [ix_nl] at p141; rw [frX_take hkl, if_neg (by omega)]
             refine Run.region ?_
             refine Run.p (vn) rfl rfl ?_
             refine Run.p (.int .i64 (ix (nl fq) (k))) rfl rfl ?_
             refine Run.step rfl (OpStep.buildSlice (us := [.int .i64 (ix (nl fq) (k))]) Tsl_22 (by decide) (by decide) ⟨rfl, [.int .i64 (ix (nl fq) (k))], _, rfl, rfl, rfl, rfl⟩ rfl fun b8 => ?_)
             refine Run.step rfl (OpStep.append (H1 := [.own (.slice (some ⟨b8, 0, none⟩) 1 1) 3 1 1 ([.int .i64 (ix (nl fq) (k))])]) (H2 := [.own (.slice (some ⟨gf, 0, none⟩) (fq.length) fc) 3 1 (fq.length) (ints (nl fq)), .grp 3 1 (gl (FA ++ FB)), .own (.slice gA (vs.length) gc) 3 1 ((((gz t n (G, gts (zs.take m), vs)).2.2)).length) (ints (nl ((gz t n (G, gts (zs.take m), vs)).2.2))), .grp 3 1 (tg zs2), .own (.slice (some ⟨gt, 0, none⟩) m c_vt1) 136 3 (zs2.length) (tcells zs2), .blk b5 136 [.slice gA (vs.length) gc, .slice (some ⟨gf, 0, none⟩) (fq.length) fc, .int .i64 t], .own vo2 71 3 (G2.length) (ints (flCX G2)), .blk b2 38 [.int .i64 (((n : Nat) : Int)), vo2], .blk b1 38 [.int .i64 0, .slice none 0 0]]) (v := vn) (u := .slice (some ⟨b8, 0, none⟩) 1 1) (n := (frX b (fq.take k)).length) (m := 1) (xs := ints (nl (frX b (fq.take k)))) (ys := [.int .i64 (ix (nl fq) (k))]) Tsl_22 (by decide) rfl rfl rfl rfl (fun w hs => hs.slOwn (.head _)) (by simp [Value.oneCell']) (by omega) (by simp only [maxLen]; omega) fun av3 hnav3 => ?_)
             refine Run.weak (H' := [.own (.slice (some ⟨b8, 0, none⟩) 1 1) 3 1 1 ([.int .i64 (ix (nl fq) (k))]), .own av3 3 1 ((frX b (fq.take (k + 1))).length) (ints (nl (frX b (fq.take (k + 1))))), .own (.slice (some ⟨gf, 0, none⟩) (fq.length) fc) 3 1 (fq.length) (ints (nl fq)), .grp 3 1 (gl (FA ++ FB)), .own (.slice gA (vs.length) gc) 3 1 ((((gz t n (G, gts (zs.take m), vs)).2.2)).length) (ints (nl ((gz t n (G, gts (zs.take m), vs)).2.2))), .grp 3 1 (tg zs2), .own (.slice (some ⟨gt, 0, none⟩) m c_vt1) 136 3 (zs2.length) (tcells zs2), .blk b5 136 [.slice gA (vs.length) gc, .slice (some ⟨gf, 0, none⟩) (fq.length) fc, .int .i64 t], .own vo2 71 3 (G2.length) (ints (flCX G2)), .blk b2 38 [.int .i64 (((n : Nat) : Int)), vo2], .blk b1 38 [.int .i64 0, .slice none 0 0]]) (Some'.weak (.take (.takeEq (by rw [hnew, nl_snoc, ints_append, List.length_append, ix_nl]; rfl) (.take (.take (.take (.take (.take (.take (.take (.take (.take (.nil _))))))))))))) ?_ ⟨_, _, rfl, fun _ => nofun, fun _ => nofun⟩
             refine Run.p (av3) rfl rfl ?_
             refine Run.done ?_
             refine Run.blockEnd ?_
             refine Run.region ?_
             refine Run.y (.int .i64 ((((k : Nat) : Int)) + 1)) rfl (OpY.add rfl rfl rfl (by omega) (by omega)) ?_
             refine Run.p (.int .i64 ((((k : Nat) : Int)) + 1)) rfl rfl ?_
             refine Run.done ?_
             refine Run.goal ⟨(by repeat (first | exact Same.refl _ _ | refine Same.put rfl ?_ | refine Same.over rfl rfl ?_)), (k + 1, av3), ?_, ?_, ?_, ?_⟩
             ·show k + 1 ≤ _; omega
             ·show fq.length - (k + 1) < fq.length - k; omega
             ·exact ⟨(by first | rfl | (congr 1; omega) | simp), (by first | rfl | (congr 1; omega) | simp), trivial⟩
             ·exact ((Weak.selF [1, 1, 1, 1, 1, 1, 1, 1, 1, 1]).trans (Some'.weak (.takeEq (by first | rfl | (rw [hold]) | simp [frX]) (.takeEq (by first | rfl | (rw [hold]) | simp [frX]) (.takeEq (by first | rfl | (rw [hold]) | simp [frX]) (.takeEq (by first | rfl | (rw [hold]) | simp [frX]) (.takeEq (by first | rfl | (rw [hold]) | simp [frX]) (.takeEq (by first | rfl | (rw [hold]) | simp [frX]) (.takeEq (by first | rfl | (rw [hold]) | simp [frX]) (.takeEq (by first | rfl | (rw [hold]) | simp [frX]) (.take (.take (.nil _)))))))))))))
            ·have p141 := h141; try simp only [bs] at p141
             have hold : frX b (fq.take (k + 1)) = frX b (fq.take k) := by rw [ix_nl] at p141; rw [frX_take hkl, if_pos (by omega), List.append_nil]
             refine Run.skip ?_
             refine Run.blockEnd ?_
             refine Run.region ?_
             refine Run.y (.int .i64 ((((k : Nat) : Int)) + 1)) rfl (OpY.add rfl rfl rfl (by omega) (by omega)) ?_
             refine Run.p (.int .i64 ((((k : Nat) : Int)) + 1)) rfl rfl ?_
             refine Run.done ?_
             refine Run.goal ⟨(by repeat (first | exact Same.refl _ _ | refine Same.put rfl ?_ | refine Same.over rfl rfl ?_)), (k + 1, vn), ?_, ?_, ?_, ?_⟩
             ·show k + 1 ≤ _; omega
             ·show fq.length - (k + 1) < fq.length - k; omega
             ·exact ⟨(by first | rfl | (congr 1; omega) | simp), (by first | rfl | (congr 1; omega) | simp), trivial⟩
             ·exact ((Weak.refl _).trans (Some'.weak (.takeEq (by first | rfl | (rw [hold]) | simp [frX]) (.takeEq (by first | rfl | (rw [hold]) | simp [frX]) (.takeEq (by first | rfl | (rw [hold]) | simp [frX]) (.takeEq (by first | rfl | (rw [hold]) | simp [frX]) (.takeEq (by first | rfl | (rw [hold]) | simp [frX]) (.takeEq (by first | rfl | (rw [hold]) | simp [frX]) (.takeEq (by first | rfl | (rw [hold]) | simp [frX]) (.takeEq (by first | rfl | (rw [hold]) | simp [frX]) (.take (.take (.nil _)))))))))))))
           ·have p136 := h136; try simp only [bs] at p136
            have hkn : fq.take k = fq := List.take_of_length_le (by omega)
            rw [hkn]
            refine Run.exit rfl ?_
            refine Run.sr ?_
            refine Run.y (.pointer (some ⟨b5, 2, none⟩)) rfl (OpY.fieldAddr Tfo_136_2 rfl rfl) ?_
            refine Run.y (.int .i64 t) rfl (OpY.load1 Tone_3 rfl (Cells.blk (.tail _ (.tail _ (.tail _ (.tail _ (.tail _ (.tail _ (List.Mem.head _))))))) ⟨rfl, trivial⟩)) ?_
            refine Run.p (.int .i64 t) rfl rfl ?_
            refine Run.done ?_
            refine Run.seq ?_
            refine Run.sr ?_
            refine Run.p (.int .i64 t) rfl rfl ?_
            refine Run.p (.bool (decide (t < 0))) rfl rfl ?_
            refine Run.done ?_
            refine Run.cut (ι := Unit) [21, 151] (fun _ => [(21, .int .i64 (tgt t b))]) (fun _ => [.own vn 3 1 ((frX b fq).length) (ints (nl (frX b fq))), .own (.slice fA (fq.length) fc) 3 1 (fq.length) (ints (nl fq)), .grp 3 1 (gl (FA ++ FB)), .own (.slice gA (vs.length) gc) 3 1 ((((gz t n (G, gts (zs.take m), vs)).2.2)).length) (ints (nl ((gz t n (G, gts (zs.take m), vs)).2.2))), .grp 3 1 (tg zs2), .own (.slice (some ⟨gt, 0, none⟩) m c_vt1) 136 3 (zs2.length) (tcells zs2), .blk b5 136 [.slice gA (vs.length) gc, .slice fA (fq.length) fc, .int .i64 t], .own vo2 71 3 (G2.length) (ints (flCX G2)), .blk b2 38 [.int .i64 (((n : Nat) : Int)), vo2], .blk b1 38 [.int .i64 0, .slice none 0 0]]) (fun _ => True) ?_ ?_
            ·refine Run.cond (b := decide (t < 0)) rfl (fun h150 => ?_) (fun h150 => ?_)
             ·have p150 := h150; try simp only [bs] at p150
              refine Run.region ?_
              refine Run.p (.int .i64 (((b : Nat) : Int))) rfl rfl ?_
              refine Run.p (.int .i64 (((b : Nat) : Int))) rfl rfl ?_
              refine Run.done ?_
              refine Run.goal ⟨(by repeat (first | exact Same.refl _ _ | refine Same.put rfl ?_ | refine Same.over rfl rfl ?_)), (), ?_, ?_, ?_⟩
              ·trivial
              ·exact ⟨(by show Value.int _ _ = Value.int _ _; congr 1; first | exact (if_pos (by omega)).symm | exact (if_neg (by omega)).symm), trivial⟩
              ·exact (Some'.weak (.takeEq (by first | rfl | simp) (.takeEq (by first | rfl | simp) (.takeEq (by first | rfl | simp) (.takeEq (by first | rfl | simp) (.takeEq (by first | rfl | simp) (.takeEq (by first | rfl | simp) (.take (.takeEq (by first | rfl | simp) (.take (.take (.nil _))))))))))))
             ·have p150 := h150; try simp only [bs] at p150
              refine Run.skip ?_
              refine Run.goal ⟨(by repeat (first | exact Same.refl _ _ | refine Same.put rfl ?_ | refine Same.over rfl rfl ?_)), (), ?_, ?_, ?_⟩
              ·trivial
              ·exact ⟨(by show Value.int _ _ = Value.int _ _; congr 1; first | exact (if_pos (by omega)).symm | exact (if_neg (by omega)).symm), trivial⟩
              ·exact (Some'.weak (.takeEq (by first | rfl | simp) (.takeEq (by first | rfl | simp) (.takeEq (by first | rfl | simp) (.takeEq (by first | rfl | simp) (.takeEq (by first | rfl | simp) (.takeEq (by first | rfl | simp) (.take (.takeEq (by first | rfl | simp) (.take (.take (.nil _))))))))))))
            ·rintro _ fr hcut
             show Run _ _ (over _ _ [(21, .int .i64 (tgt t b))] fr) [.own vn 3 1 ((frX b fq).length) (ints (nl (frX b fq))), .own (.slice fA (fq.length) fc) 3 1 (fq.length) (ints (nl fq)), .grp 3 1 (gl (FA ++ FB)), .own (.slice gA (vs.length) gc) 3 1 ((((gz t n (G, gts (zs.take m), vs)).2.2)).length) (ints (nl ((gz t n (G, gts (zs.take m), vs)).2.2))), .grp 3 1 (tg zs2), .own (.slice (some ⟨gt, 0, none⟩) m c_vt1) 136 3 (zs2.length) (tcells zs2), .blk b5 136 [.slice gA (vs.length) gc, .slice fA (fq.length) fc, .int .i64 t], .own vo2 71 3 (G2.length) (ints (flCX G2)), .blk b2 38 [.int .i64 (((n : Nat) : Int)), vo2], .blk b1 38 [.int .i64 0, .slice none 0 0]]
             refine Run.formOwn (.head _) (fun A_vn1 c_vn1 hv hcapc_vn1 hmaxc_vn1 => ?_) (fun _ _ _ => ⟨nofun, nofun, nofun⟩)
             subst hv
             refine Run.cut (ι := Value × Value × Value) [8, 152, 153, 154, 155, 156, 157, 158, 159, 160, 161, 162, 163, 164, 165, 166, 167, 168, 169] (fun ⟨vt2, u1, u0⟩ => [(8, vt2)]) (fun ⟨vt2, u1, u0⟩ => [.own vt2 136 3 (((zs2 ++ [(u1, ((.slice A_vn1 ((frX b fq).length) c_vn1 : Value), (st1 (gz t n (G, gts (zs.take m), vs)).2.2 b, (fq.erase b, tgt t b))))] ++ [(u0, ((.slice A_vn1 ((frX b fq).length) c_vn1 : Value), (st0 (gz t n (G, gts (zs.take m), vs)).2.2 b, (fq.erase b, t))))])).length) (tcells ((zs2 ++ [(u1, ((.slice A_vn1 ((frX b fq).length) c_vn1 : Value), (st1 (gz t n (G, gts (zs.take m), vs)).2.2 b, (fq.erase b, tgt t b))))] ++ [(u0, ((.slice A_vn1 ((frX b fq).length) c_vn1 : Value), (st0 (gz t n (G, gts (zs.take m), vs)).2.2 b, (fq.erase b, t))))]))), .grp 3 1 (tg ((zs2 ++ [(u1, ((.slice A_vn1 ((frX b fq).length) c_vn1 : Value), (st1 (gz t n (G, gts (zs.take m), vs)).2.2 b, (fq.erase b, tgt t b))))] ++ [(u0, ((.slice A_vn1 ((frX b fq).length) c_vn1 : Value), (st0 (gz t n (G, gts (zs.take m), vs)).2.2 b, (fq.erase b, t))))]))), .grp 3 1 (gl (FA ++ (((.slice fA (fq.length) fc : Value), nl fq) :: FB) ++ [((.slice A_vn1 ((frX b fq).length) c_vn1 : Value), nl (fq.erase b))])), .blk b5 136 [.slice gA (vs.length) gc, .slice fA (fq.length) fc, .int .i64 t], .own vo2 71 3 (G2.length) (ints (flCX G2)), .blk b2 38 [.int .i64 (((n : Nat) : Int)), vo2], .blk b1 38 [.int .i64 0, .slice none 0 0]]) (fun ⟨vt2, u1, u0⟩ => True) ?_ ?_
             ·refine Run.heldB (base := [.own (.slice A_vn1 ((frX b fq).length) c_vn1) 3 1 ((frX b fq).length) (ints (nl (frX b fq))), .own (.slice fA (fq.length) fc) 3 1 (fq.length) (ints (nl fq)), .grp 3 1 (gl (FA ++ FB)), .own (.slice gA (vs.length) gc) 3 1 ((((gz t n (G, gts (zs.take m), vs)).2.2)).length) (ints (nl ((gz t n (G, gts (zs.take m), vs)).2.2))), .grp 3 1 (tg zs2), .blk b5 136 [.slice gA (vs.length) gc, .slice fA (fq.length) fc, .int .i64 t], .own vo2 71 3 (G2.length) (ints (flCX G2)), .blk b2 38 [.int .i64 (((n : Nat) : Int)), vo2], .blk b1 38 [.int .i64 0, .slice none 0 0]]) (by kernel_rfl) ?_
              refine DW.take (i := 0) (v := .slice (some ⟨gt, 0, none⟩) m c_vt1) rfl (by kernel_rfl) (by kernel_rfl) (by kernel_rfl) (fun _ _ _ h => h) (Some'.weak (.take (.take (.take (.take (.take (.skip (.take (.take (.take (.take (.nil _)))))))))))) rfl (OpY.pure rfl) ?_
              refine DW.take (i := 1) (v := .pointer (some ⟨b5, 0, none⟩)) rfl (by kernel_rfl) (by kernel_rfl) (by kernel_rfl) (fun _ _ _ h => h) (Some'.weak (.take (.take (.take (.take (.take (.skip (.take (.take (.take (.take (.nil _)))))))))))) rfl (OpY.fieldAddr Tfo_136_0 rfl rfl) ?_
              refine DW.take (i := 2) (v := .slice gA (vs.length) gc) rfl (by kernel_rfl) (by kernel_rfl) (by kernel_rfl) (fun _ _ _ h => h) (Some'.weak (.take (.take (.take (.take (.take (.skip (.take (.take (.take (.take (.nil _)))))))))))) rfl (OpY.load1 Tone_22 rfl (Cells.blk (.tail _ (.tail _ (.tail _ (.tail _ (.tail _ (List.Mem.head _)))))) ⟨rfl, trivial⟩)) ?_
              refine DW.take (i := 3) (v := .int .i64 (((b : Nat) : Int))) rfl (by kernel_rfl) (by kernel_rfl) (by kernel_rfl) (fun _ _ _ h => h) (Some'.weak (.take (.take (.take (.take (.take (.skip (.take (.take (.take (.take (.nil _)))))))))))) rfl (OpY.pure rfl) ?_
              refine DW.take (i := 5) (v := .slice A_vn1 ((frX b fq).length) c_vn1) rfl (by kernel_rfl) (by kernel_rfl) (by kernel_rfl) (fun _ _ _ h => h) (Some'.weak (.take (.take (.take (.take (.take (.skip (.take (.take (.take (.take (.nil _)))))))))))) rfl (OpY.pure rfl) ?_
              refine DW.take (i := 6) (v := .int .i64 (tgt t b)) rfl (by kernel_rfl) (by kernel_rfl) (by kernel_rfl) (fun _ _ _ h => h) (Some'.weak (.take (.take (.take (.take (.take (.skip (.take (.take (.take (.take (.nil _)))))))))))) rfl (OpY.pure rfl) ?_
              refine DW.take (i := 8) (v := .pointer (some ⟨b5, 0, none⟩)) rfl (by kernel_rfl) (by kernel_rfl) (by kernel_rfl) (fun _ _ _ h => h) (Some'.weak (.take (.take (.take (.take (.take (.skip (.take (.take (.take (.take (.nil _)))))))))))) rfl (OpY.fieldAddr Tfo_136_0 rfl rfl) ?_
              refine DW.take (i := 9) (v := .slice gA (vs.length) gc) rfl (by kernel_rfl) (by kernel_rfl) (by kernel_rfl) (fun _ _ _ h => h) (Some'.weak (.take (.take (.take (.take (.take (.skip (.take (.take (.take (.take (.nil _)))))))))))) rfl (OpY.load1 Tone_22 rfl (Cells.blk (.tail _ (.tail _ (.tail _ (.tail _ (.tail _ (List.Mem.head _)))))) ⟨rfl, trivial⟩)) ?_
              refine DW.take (i := 10) (v := .int .i64 (((b : Nat) : Int))) rfl (by kernel_rfl) (by kernel_rfl) (by kernel_rfl) (fun _ _ _ h => h) (Some'.weak (.take (.take (.take (.take (.take (.skip (.take (.take (.take (.take (.nil _)))))))))))) rfl (OpY.pure rfl) ?_
              refine DW.take (i := 12) (v := .slice A_vn1 ((frX b fq).length) c_vn1) rfl (by kernel_rfl) (by kernel_rfl) (by kernel_rfl) (fun _ _ _ h => h) (Some'.weak (.take (.take (.take (.take (.take (.skip (.take (.take (.take (.take (.nil _)))))))))))) rfl (OpY.pure rfl) ?_
              refine DW.take (i := 13) (v := .pointer (some ⟨b5, 2, none⟩)) rfl (by kernel_rfl) (by kernel_rfl) (by kernel_rfl) (fun _ _ _ h => h) (Some'.weak (.take (.take (.take (.take (.take (.skip (.take (.take (.take (.take (.nil _)))))))))))) rfl (OpY.fieldAddr Tfo_136_2 rfl rfl) ?_
              refine DW.take (i := 14) (v := .int .i64 t) rfl (by kernel_rfl) (by kernel_rfl) (by kernel_rfl) (fun _ _ _ h => h) (Some'.weak (.take (.take (.take (.take (.take (.skip (.take (.take (.take (.take (.nil _)))))))))))) rfl (OpY.load1 Tone_3 rfl (Cells.blk (.tail _ (.tail _ (.tail _ (.tail _ (.tail _ (List.Mem.head _)))))) ⟨rfl, trivial⟩)) ?_
              refine DW.step (i := 4) (by kernel_rfl) rfl rfl (OpStep.call (vs := [.slice gA (vs.length) gc, .int .i64 (((b : Nat) : Int)), .int .i64 1]) (caps := []) Tcall_122 rfl rfl (fun w hs => (by have h := l14Set_spec (vs := ((gz t n (G, gts (zs.take m), vs)).2.2)) (j := b) (b := 1) (by omega) (by decide) (by omega) (by have h := hs.slOwn (.tail _ (.tail _ (.tail _ (List.Mem.head _)))); exact h); exact h)) ?_)
              rintro us4 _ rfl
              refine ⟨(Some'.weak (.skip (.take (.take (.take (.take (.take (.skip (.take (.take (.take (.take (.nil _))))))))))))), ?_⟩
              refine DW.formOwn (.head _) (fun A_us41 c_us41 hv hcapc_us41 hmaxc_us41 => ?_)
              subst hv
              refine DW.take (i := 7) (v := .agg #[.slice A_us41 ((st1 (((gz t n (G, gts (zs.take m), vs)).2.2)) b).length) c_us41, .slice A_vn1 ((frX b fq).length) c_vn1, .int .i64 (tgt t b)]) rfl (by kernel_rfl) (by kernel_rfl) (by kernel_rfl) (fun _ _ _ h => h) (Some'.weak (.skip (.take (.take (.take (.take (.take (.skip (.take (.take (.take (.take (.nil _))))))))))))) rfl (OpY.build (cs := [.slice A_us41 ((st1 (((gz t n (G, gts (zs.take m), vs)).2.2)) b).length) c_us41, .slice A_vn1 ((frX b fq).length) c_vn1, .int .i64 (tgt t b)]) (by kernel_rfl)) ?_
              refine DW.step (i := 11) (by kernel_rfl) rfl rfl (OpStep.call (vs := [.slice gA (vs.length) gc, .int .i64 (((b : Nat) : Int)), .int .i64 0]) (caps := []) Tcall_122 rfl rfl (fun w hs => (by have h := l14Set_spec (vs := ((gz t n (G, gts (zs.take m), vs)).2.2)) (j := b) (b := 0) (by omega) (by decide) (by omega) (by have h := hs.slOwn (.tail _ (.tail _ (.tail _ (.tail _ (List.Mem.head _))))); exact h); exact h)) ?_)
              rintro us5 _ rfl
              refine ⟨(Some'.weak (.skip (.skip (.take (.take (.take (.take (.take (.skip (.take (.take (.take (.take (.nil _)))))))))))))), ?_⟩
              refine DW.formOwn (.head _) (fun A_us51 c_us51 hv hcapc_us51 hmaxc_us51 => ?_)
              subst hv
              refine DW.take (i := 15) (v := .agg #[.slice A_us51 ((st0 (((gz t n (G, gts (zs.take m), vs)).2.2)) b).length) c_us51, .slice A_vn1 ((frX b fq).length) c_vn1, .int .i64 t]) rfl (by kernel_rfl) (by kernel_rfl) (by kernel_rfl) (fun _ _ _ h => h) (Some'.weak (.skip (.skip (.take (.take (.take (.take (.take (.skip (.take (.take (.take (.take (.nil _)))))))))))))) rfl (OpY.build (cs := [.slice A_us51 ((st0 (((gz t n (G, gts (zs.take m), vs)).2.2)) b).length) c_us51, .slice A_vn1 ((frX b fq).length) c_vn1, .int .i64 t]) (by kernel_rfl)) ?_
              refine DW.step (i := 16) (by kernel_rfl) rfl rfl (OpStep.buildSlice (us := [.slice A_us41 ((st1 (((gz t n (G, gts (zs.take m), vs)).2.2)) b).length) c_us41, .slice A_vn1 ((frX b fq).length) c_vn1, .int .i64 (tgt t b), .slice A_us51 ((st0 (((gz t n (G, gts (zs.take m), vs)).2.2)) b).length) c_us51, .slice A_vn1 ((frX b fq).length) c_vn1, .int .i64 t]) Tsl_137 (by decide) (by decide) ⟨rfl, [.slice A_us41 ((st1 (((gz t n (G, gts (zs.take m), vs)).2.2)) b).length) c_us41, .slice A_vn1 ((frX b fq).length) c_vn1, .int .i64 (tgt t b)], _, rfl, rfl, rfl, ⟨rfl, [.slice A_us51 ((st0 (((gz t n (G, gts (zs.take m), vs)).2.2)) b).length) c_us51, .slice A_vn1 ((frX b fq).length) c_vn1, .int .i64 t], _, rfl, rfl, rfl, rfl⟩⟩ rfl fun b9 => ?_)
              refine ⟨(Some'.weak (.skip (.skip (.skip (.take (.take (.take (.take (.take (.skip (.take (.take (.take (.take (.nil _))))))))))))))), ?_⟩
              refine DW.step (i := 17) (by kernel_rfl) rfl rfl (OpStep.append (H1 := [.own (.slice (some ⟨b9, 0, none⟩) 2 2) 136 3 2 ([.slice A_us41 ((st1 (((gz t n (G, gts (zs.take m), vs)).2.2)) b).length) c_us41, .slice A_vn1 ((frX b fq).length) c_vn1, .int .i64 (tgt t b), .slice A_us51 ((st0 (((gz t n (G, gts (zs.take m), vs)).2.2)) b).length) c_us51, .slice A_vn1 ((frX b fq).length) c_vn1, .int .i64 t]), .own (.slice A_us51 ((st0 (((gz t n (G, gts (zs.take m), vs)).2.2)) b).length) c_us51) 3 1 ((st0 (((gz t n (G, gts (zs.take m), vs)).2.2)) b).length) (ints (nl (st0 (((gz t n (G, gts (zs.take m), vs)).2.2)) b))), .own (.slice A_us41 ((st1 (((gz t n (G, gts (zs.take m), vs)).2.2)) b).length) c_us41) 3 1 ((st1 (((gz t n (G, gts (zs.take m), vs)).2.2)) b).length) (ints (nl (st1 (((gz t n (G, gts (zs.take m), vs)).2.2)) b))), .own (.slice A_vn1 ((frX b fq).length) c_vn1) 3 1 ((frX b fq).length) (ints (nl (frX b fq))), .own (.slice fA (fq.length) fc) 3 1 (fq.length) (ints (nl fq)), .grp 3 1 (gl (FA ++ FB)), .own (.slice gA (vs.length) gc) 3 1 ((((gz t n (G, gts (zs.take m), vs)).2.2)).length) (ints (nl ((gz t n (G, gts (zs.take m), vs)).2.2))), .grp 3 1 (tg zs2)]) (H2 := [.blk b5 136 [.slice gA (vs.length) gc, .slice fA (fq.length) fc, .int .i64 t], .own vo2 71 3 (G2.length) (ints (flCX G2)), .blk b2 38 [.int .i64 (((n : Nat) : Int)), vo2], .blk b1 38 [.int .i64 0, .slice none 0 0]]) (v := .slice (some ⟨gt, 0, none⟩) m c_vt1) (u := .slice (some ⟨b9, 0, none⟩) 2 2) (n := zs2.length) (m := 2) (xs := tcells zs2) (ys := [.slice A_us41 ((st1 (((gz t n (G, gts (zs.take m), vs)).2.2)) b).length) c_us41, .slice A_vn1 ((frX b fq).length) c_vn1, .int .i64 (tgt t b), .slice A_us51 ((st0 (((gz t n (G, gts (zs.take m), vs)).2.2)) b).length) c_us51, .slice A_vn1 ((frX b fq).length) c_vn1, .int .i64 t]) Tsl_137 (by decide) rfl rfl rfl rfl (fun w hs => hs.slOwn (.head _)) (by simp [Value.oneCell']) (by omega) (by simp only [maxLen]; omega) fun av4 hnav4 => ?_)
              refine DW.weakS (H' := [.own (.slice (some ⟨b9, 0, none⟩) 2 2) 136 3 2 ([.slice A_us41 ((st1 (((gz t n (G, gts (zs.take m), vs)).2.2)) b).length) c_us41, .slice A_vn1 ((frX b fq).length) c_vn1, .int .i64 (tgt t b), .slice A_us51 ((st0 (((gz t n (G, gts (zs.take m), vs)).2.2)) b).length) c_us51, .slice A_vn1 ((frX b fq).length) c_vn1, .int .i64 t]), .own (.slice A_us51 ((st0 (((gz t n (G, gts (zs.take m), vs)).2.2)) b).length) c_us51) 3 1 ((st0 (((gz t n (G, gts (zs.take m), vs)).2.2)) b).length) (ints (nl (st0 (((gz t n (G, gts (zs.take m), vs)).2.2)) b))), .own (.slice A_us41 ((st1 (((gz t n (G, gts (zs.take m), vs)).2.2)) b).length) c_us41) 3 1 ((st1 (((gz t n (G, gts (zs.take m), vs)).2.2)) b).length) (ints (nl (st1 (((gz t n (G, gts (zs.take m), vs)).2.2)) b))), .own (.slice A_vn1 ((frX b fq).length) c_vn1) 3 1 ((frX b fq).length) (ints (nl (frX b fq))), .own (.slice fA (fq.length) fc) 3 1 (fq.length) (ints (nl fq)), .grp 3 1 (gl (FA ++ FB)), .own (.slice gA (vs.length) gc) 3 1 ((((gz t n (G, gts (zs.take m), vs)).2.2)).length) (ints (nl ((gz t n (G, gts (zs.take m), vs)).2.2))), .grp 3 1 (tg zs2), .own av4 136 3 ((zs2 ++ [((.slice A_us41 ((st1 (((gz t n (G, gts (zs.take m), vs)).2.2)) b).length) c_us41 : Value), ((.slice A_vn1 ((frX b fq).length) c_vn1 : Value), (st1 (gz t n (G, gts (zs.take m), vs)).2.2 b, (fq.erase b, tgt t b))))] ++ [((.slice A_us51 ((st0 (((gz t n (G, gts (zs.take m), vs)).2.2)) b).length) c_us51 : Value), ((.slice A_vn1 ((frX b fq).length) c_vn1 : Value), (st0 (gz t n (G, gts (zs.take m), vs)).2.2 b, (fq.erase b, t))))]).length) (tcells (zs2 ++ [((.slice A_us41 ((st1 (((gz t n (G, gts (zs.take m), vs)).2.2)) b).length) c_us41 : Value), ((.slice A_vn1 ((frX b fq).length) c_vn1 : Value), (st1 (gz t n (G, gts (zs.take m), vs)).2.2 b, (fq.erase b, tgt t b))))] ++ [((.slice A_us51 ((st0 (((gz t n (G, gts (zs.take m), vs)).2.2)) b).length) c_us51 : Value), ((.slice A_vn1 ((frX b fq).length) c_vn1 : Value), (st0 (gz t n (G, gts (zs.take m), vs)).2.2 b, (fq.erase b, t))))])), .blk b5 136 [.slice gA (vs.length) gc, .slice fA (fq.length) fc, .int .i64 t], .own vo2 71 3 (G2.length) (ints (flCX G2)), .blk b2 38 [.int .i64 (((n : Nat) : Int)), vo2], .blk b1 38 [.int .i64 0, .slice none 0 0]]) (Some'.weak (.take (.take (.take (.take (.take (.take (.take (.take (.takeEq (by rw [tcells_append, tcells_append]; simp [tcells, tcell]) (.take (.take (.take (.take (.nil _))))))))))))))) ?_
              refine ⟨(Some'.weak (.skip (.skip (.skip (.take (.take (.take (.take (.take (.skip (.take (.take (.take (.take (.nil _))))))))))))))), ?_⟩
              refine DW.take (i := 18) (v := av4) rfl (by kernel_rfl) (by kernel_rfl) (by kernel_rfl) (fun _ _ _ h => h) (Some'.weak (.skip (.skip (.skip (.take (.take (.take (.take (.take (.skip (.take (.take (.take (.take (.nil _))))))))))))))) rfl (OpY.pure rfl) ?_
              refine DW.done (by kernel_rfl) ?_
              refine Run.goal ⟨(by repeat (first | exact Same.refl _ _ | refine Same.put rfl ?_ | refine Same.over rfl rfl ?_)), (av4, .slice A_us41 ((st1 (((gz t n (G, gts (zs.take m), vs)).2.2)) b).length) c_us41, .slice A_us51 ((st0 (((gz t n (G, gts (zs.take m), vs)).2.2)) b).length) c_us51), ?_, ?_, ?_⟩
              ·trivial
              ·exact ⟨(by first | rfl | (congr 1; omega) | simp [*]), trivial⟩
              ·exact ((((((Weak.selF (H := [.own (.slice (some ⟨b9, 0, none⟩) 2 2) 136 3 2 ([.slice A_us41 ((st1 (((gz t n (G, gts (zs.take m), vs)).2.2)) b).length) c_us41, .slice A_vn1 ((frX b fq).length) c_vn1, .int .i64 (tgt t b), .slice A_us51 ((st0 (((gz t n (G, gts (zs.take m), vs)).2.2)) b).length) c_us51, .slice A_vn1 ((frX b fq).length) c_vn1, .int .i64 t]), .own (.slice A_us51 ((st0 (((gz t n (G, gts (zs.take m), vs)).2.2)) b).length) c_us51) 3 1 ((st0 (((gz t n (G, gts (zs.take m), vs)).2.2)) b).length) (ints (nl (st0 (((gz t n (G, gts (zs.take m), vs)).2.2)) b))), .own (.slice A_us41 ((st1 (((gz t n (G, gts (zs.take m), vs)).2.2)) b).length) c_us41) 3 1 ((st1 (((gz t n (G, gts (zs.take m), vs)).2.2)) b).length) (ints (nl (st1 (((gz t n (G, gts (zs.take m), vs)).2.2)) b))), .own (.slice A_vn1 ((frX b fq).length) c_vn1) 3 1 ((frX b fq).length) (ints (nl (frX b fq))), .own (.slice fA (fq.length) fc) 3 1 (fq.length) (ints (nl fq)), .grp 3 1 (gl (FA ++ FB)), .own (.slice gA (vs.length) gc) 3 1 ((((gz t n (G, gts (zs.take m), vs)).2.2)).length) (ints (nl ((gz t n (G, gts (zs.take m), vs)).2.2))), .grp 3 1 (tg zs2), .own av4 136 3 ((zs2 ++ [((.slice A_us41 ((st1 (((gz t n (G, gts (zs.take m), vs)).2.2)) b).length) c_us41 : Value), ((.slice A_vn1 ((frX b fq).length) c_vn1 : Value), (st1 (gz t n (G, gts (zs.take m), vs)).2.2 b, (fq.erase b, tgt t b))))] ++ [((.slice A_us51 ((st0 (((gz t n (G, gts (zs.take m), vs)).2.2)) b).length) c_us51 : Value), ((.slice A_vn1 ((frX b fq).length) c_vn1 : Value), (st0 (gz t n (G, gts (zs.take m), vs)).2.2 b, (fq.erase b, t))))]).length) (tcells (zs2 ++ [((.slice A_us41 ((st1 (((gz t n (G, gts (zs.take m), vs)).2.2)) b).length) c_us41 : Value), ((.slice A_vn1 ((frX b fq).length) c_vn1 : Value), (st1 (gz t n (G, gts (zs.take m), vs)).2.2 b, (fq.erase b, tgt t b))))] ++ [((.slice A_us51 ((st0 (((gz t n (G, gts (zs.take m), vs)).2.2)) b).length) c_us51 : Value), ((.slice A_vn1 ((frX b fq).length) c_vn1 : Value), (st0 (gz t n (G, gts (zs.take m), vs)).2.2 b, (fq.erase b, t))))])), .blk b5 136 [.slice gA (vs.length) gc, .slice fA (fq.length) fc, .int .i64 t], .own vo2 71 3 (G2.length) (ints (flCX G2)), .blk b2 38 [.int .i64 (((n : Nat) : Int)), vo2], .blk b1 38 [.int .i64 0, .slice none 0 0]]) [2, 6]).trans (Weak.tgSnoc (z := ((.slice A_us41 ((st1 (((gz t n (G, gts (zs.take m), vs)).2.2)) b).length) c_us41 : Value), ((.slice A_vn1 ((frX b fq).length) c_vn1 : Value), (st1 (gz t n (G, gts (zs.take m), vs)).2.2 b, (fq.erase b, tgt t b))))))).trans ((Weak.selF (H := [.grp 3 1 (tg (zs2 ++ [((.slice A_us41 ((st1 (((gz t n (G, gts (zs.take m), vs)).2.2)) b).length) c_us41 : Value), ((.slice A_vn1 ((frX b fq).length) c_vn1 : Value), (st1 (gz t n (G, gts (zs.take m), vs)).2.2 b, (fq.erase b, tgt t b))))])), .own (.slice (some ⟨b9, 0, none⟩) 2 2) 136 3 2 ([.slice A_us41 ((st1 (((gz t n (G, gts (zs.take m), vs)).2.2)) b).length) c_us41, .slice A_vn1 ((frX b fq).length) c_vn1, .int .i64 (tgt t b), .slice A_us51 ((st0 (((gz t n (G, gts (zs.take m), vs)).2.2)) b).length) c_us51, .slice A_vn1 ((frX b fq).length) c_vn1, .int .i64 t]), .own (.slice A_us51 ((st0 (((gz t n (G, gts (zs.take m), vs)).2.2)) b).length) c_us51) 3 1 ((st0 (((gz t n (G, gts (zs.take m), vs)).2.2)) b).length) (ints (nl (st0 (((gz t n (G, gts (zs.take m), vs)).2.2)) b))), .own (.slice A_vn1 ((frX b fq).length) c_vn1) 3 1 ((frX b fq).length) (ints (nl (frX b fq))), .own (.slice fA (fq.length) fc) 3 1 (fq.length) (ints (nl fq)), .grp 3 1 (gl (FA ++ FB)), .own (.slice gA (vs.length) gc) 3 1 ((((gz t n (G, gts (zs.take m), vs)).2.2)).length) (ints (nl ((gz t n (G, gts (zs.take m), vs)).2.2))), .own av4 136 3 ((zs2 ++ [((.slice A_us41 ((st1 (((gz t n (G, gts (zs.take m), vs)).2.2)) b).length) c_us41 : Value), ((.slice A_vn1 ((frX b fq).length) c_vn1 : Value), (st1 (gz t n (G, gts (zs.take m), vs)).2.2 b, (fq.erase b, tgt t b))))] ++ [((.slice A_us51 ((st0 (((gz t n (G, gts (zs.take m), vs)).2.2)) b).length) c_us51 : Value), ((.slice A_vn1 ((frX b fq).length) c_vn1 : Value), (st0 (gz t n (G, gts (zs.take m), vs)).2.2 b, (fq.erase b, t))))]).length) (tcells (zs2 ++ [((.slice A_us41 ((st1 (((gz t n (G, gts (zs.take m), vs)).2.2)) b).length) c_us41 : Value), ((.slice A_vn1 ((frX b fq).length) c_vn1 : Value), (st1 (gz t n (G, gts (zs.take m), vs)).2.2 b, (fq.erase b, tgt t b))))] ++ [((.slice A_us51 ((st0 (((gz t n (G, gts (zs.take m), vs)).2.2)) b).length) c_us51 : Value), ((.slice A_vn1 ((frX b fq).length) c_vn1 : Value), (st0 (gz t n (G, gts (zs.take m), vs)).2.2 b, (fq.erase b, t))))])), .blk b5 136 [.slice gA (vs.length) gc, .slice fA (fq.length) fc, .int .i64 t], .own vo2 71 3 (G2.length) (ints (flCX G2)), .blk b2 38 [.int .i64 (((n : Nat) : Int)), vo2], .blk b1 38 [.int .i64 0, .slice none 0 0]]) [2, 0]).trans (Weak.tgSnoc (z := ((.slice A_us51 ((st0 (((gz t n (G, gts (zs.take m), vs)).2.2)) b).length) c_us51 : Value), ((.slice A_vn1 ((frX b fq).length) c_vn1 : Value), (st0 (gz t n (G, gts (zs.take m), vs)).2.2 b, (fq.erase b, t)))))))).trans ((Weak.selF (H := [.grp 3 1 (tg ((zs2 ++ [((.slice A_us41 ((st1 (((gz t n (G, gts (zs.take m), vs)).2.2)) b).length) c_us41 : Value), ((.slice A_vn1 ((frX b fq).length) c_vn1 : Value), (st1 (gz t n (G, gts (zs.take m), vs)).2.2 b, (fq.erase b, tgt t b))))]) ++ [((.slice A_us51 ((st0 (((gz t n (G, gts (zs.take m), vs)).2.2)) b).length) c_us51 : Value), ((.slice A_vn1 ((frX b fq).length) c_vn1 : Value), (st0 (gz t n (G, gts (zs.take m), vs)).2.2 b, (fq.erase b, t))))])), .own (.slice (some ⟨b9, 0, none⟩) 2 2) 136 3 2 ([.slice A_us41 ((st1 (((gz t n (G, gts (zs.take m), vs)).2.2)) b).length) c_us41, .slice A_vn1 ((frX b fq).length) c_vn1, .int .i64 (tgt t b), .slice A_us51 ((st0 (((gz t n (G, gts (zs.take m), vs)).2.2)) b).length) c_us51, .slice A_vn1 ((frX b fq).length) c_vn1, .int .i64 t]), .own (.slice A_vn1 ((frX b fq).length) c_vn1) 3 1 ((frX b fq).length) (ints (nl (frX b fq))), .own (.slice fA (fq.length) fc) 3 1 (fq.length) (ints (nl fq)), .grp 3 1 (gl (FA ++ FB)), .own (.slice gA (vs.length) gc) 3 1 ((((gz t n (G, gts (zs.take m), vs)).2.2)).length) (ints (nl ((gz t n (G, gts (zs.take m), vs)).2.2))), .own av4 136 3 ((zs2 ++ [((.slice A_us41 ((st1 (((gz t n (G, gts (zs.take m), vs)).2.2)) b).length) c_us41 : Value), ((.slice A_vn1 ((frX b fq).length) c_vn1 : Value), (st1 (gz t n (G, gts (zs.take m), vs)).2.2 b, (fq.erase b, tgt t b))))] ++ [((.slice A_us51 ((st0 (((gz t n (G, gts (zs.take m), vs)).2.2)) b).length) c_us51 : Value), ((.slice A_vn1 ((frX b fq).length) c_vn1 : Value), (st0 (gz t n (G, gts (zs.take m), vs)).2.2 b, (fq.erase b, t))))]).length) (tcells (zs2 ++ [((.slice A_us41 ((st1 (((gz t n (G, gts (zs.take m), vs)).2.2)) b).length) c_us41 : Value), ((.slice A_vn1 ((frX b fq).length) c_vn1 : Value), (st1 (gz t n (G, gts (zs.take m), vs)).2.2 b, (fq.erase b, tgt t b))))] ++ [((.slice A_us51 ((st0 (((gz t n (G, gts (zs.take m), vs)).2.2)) b).length) c_us51 : Value), ((.slice A_vn1 ((frX b fq).length) c_vn1 : Value), (st0 (gz t n (G, gts (zs.take m), vs)).2.2 b, (fq.erase b, t))))])), .blk b5 136 [.slice gA (vs.length) gc, .slice fA (fq.length) fc, .int .i64 t], .own vo2 71 3 (G2.length) (ints (flCX G2)), .blk b2 38 [.int .i64 (((n : Nat) : Int)), vo2], .blk b1 38 [.int .i64 0, .slice none 0 0]]) [3, 3]).trans (Weak.trans (Some'.weak (.takeEq (by simp only [nl_length]) (.take (.take (.take (.take (.take (.take (.take (.take (.take (.take (.nil _))))))))))))) (Weak.grpPut (p := ((.slice fA (fq.length) fc : Value), nl fq)))))).trans ((Weak.selF (H := [.grp 3 1 (gl (FA ++ (((.slice fA (fq.length) fc : Value), nl fq) :: FB))), .grp 3 1 (tg ((zs2 ++ [((.slice A_us41 ((st1 (((gz t n (G, gts (zs.take m), vs)).2.2)) b).length) c_us41 : Value), ((.slice A_vn1 ((frX b fq).length) c_vn1 : Value), (st1 (gz t n (G, gts (zs.take m), vs)).2.2 b, (fq.erase b, tgt t b))))]) ++ [((.slice A_us51 ((st0 (((gz t n (G, gts (zs.take m), vs)).2.2)) b).length) c_us51 : Value), ((.slice A_vn1 ((frX b fq).length) c_vn1 : Value), (st0 (gz t n (G, gts (zs.take m), vs)).2.2 b, (fq.erase b, t))))])), .own (.slice (some ⟨b9, 0, none⟩) 2 2) 136 3 2 ([.slice A_us41 ((st1 (((gz t n (G, gts (zs.take m), vs)).2.2)) b).length) c_us41, .slice A_vn1 ((frX b fq).length) c_vn1, .int .i64 (tgt t b), .slice A_us51 ((st0 (((gz t n (G, gts (zs.take m), vs)).2.2)) b).length) c_us51, .slice A_vn1 ((frX b fq).length) c_vn1, .int .i64 t]), .own (.slice A_vn1 ((frX b fq).length) c_vn1) 3 1 ((frX b fq).length) (ints (nl (frX b fq))), .own (.slice gA (vs.length) gc) 3 1 ((((gz t n (G, gts (zs.take m), vs)).2.2)).length) (ints (nl ((gz t n (G, gts (zs.take m), vs)).2.2))), .own av4 136 3 ((zs2 ++ [((.slice A_us41 ((st1 (((gz t n (G, gts (zs.take m), vs)).2.2)) b).length) c_us41 : Value), ((.slice A_vn1 ((frX b fq).length) c_vn1 : Value), (st1 (gz t n (G, gts (zs.take m), vs)).2.2 b, (fq.erase b, tgt t b))))] ++ [((.slice A_us51 ((st0 (((gz t n (G, gts (zs.take m), vs)).2.2)) b).length) c_us51 : Value), ((.slice A_vn1 ((frX b fq).length) c_vn1 : Value), (st0 (gz t n (G, gts (zs.take m), vs)).2.2 b, (fq.erase b, t))))]).length) (tcells (zs2 ++ [((.slice A_us41 ((st1 (((gz t n (G, gts (zs.take m), vs)).2.2)) b).length) c_us41 : Value), ((.slice A_vn1 ((frX b fq).length) c_vn1 : Value), (st1 (gz t n (G, gts (zs.take m), vs)).2.2 b, (fq.erase b, tgt t b))))] ++ [((.slice A_us51 ((st0 (((gz t n (G, gts (zs.take m), vs)).2.2)) b).length) c_us51 : Value), ((.slice A_vn1 ((frX b fq).length) c_vn1 : Value), (st0 (gz t n (G, gts (zs.take m), vs)).2.2 b, (fq.erase b, t))))])), .blk b5 136 [.slice gA (vs.length) gc, .slice fA (fq.length) fc, .int .i64 t], .own vo2 71 3 (G2.length) (ints (flCX G2)), .blk b2 38 [.int .i64 (((n : Nat) : Int)), vo2], .blk b1 38 [.int .i64 0, .slice none 0 0]]) [3, 0]).trans (Weak.trans (Some'.weak (.takeEq (by rw [frX_erase htok.nd]; simp only [nl_length]) (.take (.take (.take (.take (.take (.take (.take (.take (.take (.nil _)))))))))))) Weak.grpSnoc))).trans ((Weak.selF (H := [.grp 3 1 (gl (FA ++ (((.slice fA (fq.length) fc : Value), nl fq) :: FB) ++ [((.slice A_vn1 ((frX b fq).length) c_vn1 : Value), nl (fq.erase b))])), .grp 3 1 (tg ((zs2 ++ [((.slice A_us41 ((st1 (((gz t n (G, gts (zs.take m), vs)).2.2)) b).length) c_us41 : Value), ((.slice A_vn1 ((frX b fq).length) c_vn1 : Value), (st1 (gz t n (G, gts (zs.take m), vs)).2.2 b, (fq.erase b, tgt t b))))]) ++ [((.slice A_us51 ((st0 (((gz t n (G, gts (zs.take m), vs)).2.2)) b).length) c_us51 : Value), ((.slice A_vn1 ((frX b fq).length) c_vn1 : Value), (st0 (gz t n (G, gts (zs.take m), vs)).2.2 b, (fq.erase b, t))))])), .own (.slice (some ⟨b9, 0, none⟩) 2 2) 136 3 2 ([.slice A_us41 ((st1 (((gz t n (G, gts (zs.take m), vs)).2.2)) b).length) c_us41, .slice A_vn1 ((frX b fq).length) c_vn1, .int .i64 (tgt t b), .slice A_us51 ((st0 (((gz t n (G, gts (zs.take m), vs)).2.2)) b).length) c_us51, .slice A_vn1 ((frX b fq).length) c_vn1, .int .i64 t]), .own (.slice gA (vs.length) gc) 3 1 ((((gz t n (G, gts (zs.take m), vs)).2.2)).length) (ints (nl ((gz t n (G, gts (zs.take m), vs)).2.2))), .own av4 136 3 ((zs2 ++ [((.slice A_us41 ((st1 (((gz t n (G, gts (zs.take m), vs)).2.2)) b).length) c_us41 : Value), ((.slice A_vn1 ((frX b fq).length) c_vn1 : Value), (st1 (gz t n (G, gts (zs.take m), vs)).2.2 b, (fq.erase b, tgt t b))))] ++ [((.slice A_us51 ((st0 (((gz t n (G, gts (zs.take m), vs)).2.2)) b).length) c_us51 : Value), ((.slice A_vn1 ((frX b fq).length) c_vn1 : Value), (st0 (gz t n (G, gts (zs.take m), vs)).2.2 b, (fq.erase b, t))))]).length) (tcells (zs2 ++ [((.slice A_us41 ((st1 (((gz t n (G, gts (zs.take m), vs)).2.2)) b).length) c_us41 : Value), ((.slice A_vn1 ((frX b fq).length) c_vn1 : Value), (st1 (gz t n (G, gts (zs.take m), vs)).2.2 b, (fq.erase b, tgt t b))))] ++ [((.slice A_us51 ((st0 (((gz t n (G, gts (zs.take m), vs)).2.2)) b).length) c_us51 : Value), ((.slice A_vn1 ((frX b fq).length) c_vn1 : Value), (st0 (gz t n (G, gts (zs.take m), vs)).2.2 b, (fq.erase b, t))))])), .blk b5 136 [.slice gA (vs.length) gc, .slice fA (fq.length) fc, .int .i64 t], .own vo2 71 3 (G2.length) (ints (flCX G2)), .blk b2 38 [.int .i64 (((n : Nat) : Int)), vo2], .blk b1 38 [.int .i64 0, .slice none 0 0]]) [4, 1, 0, 2, 2, 2, 2]).trans (Some'.weak (.takeEq (by first | rfl | simp) (.takeEq (by first | rfl | simp) (.take (.take (.take (.take (.take (.nil _)))))))))))
             ·rintro ⟨vt2, u1, u0⟩ fr hcut
              show Run _ _ (over _ _ [(8, vt2)] fr) [.own vt2 136 3 (((zs2 ++ [(u1, ((.slice A_vn1 ((frX b fq).length) c_vn1 : Value), (st1 (gz t n (G, gts (zs.take m), vs)).2.2 b, (fq.erase b, tgt t b))))] ++ [(u0, ((.slice A_vn1 ((frX b fq).length) c_vn1 : Value), (st0 (gz t n (G, gts (zs.take m), vs)).2.2 b, (fq.erase b, t))))])).length) (tcells ((zs2 ++ [(u1, ((.slice A_vn1 ((frX b fq).length) c_vn1 : Value), (st1 (gz t n (G, gts (zs.take m), vs)).2.2 b, (fq.erase b, tgt t b))))] ++ [(u0, ((.slice A_vn1 ((frX b fq).length) c_vn1 : Value), (st0 (gz t n (G, gts (zs.take m), vs)).2.2 b, (fq.erase b, t))))]))), .grp 3 1 (tg ((zs2 ++ [(u1, ((.slice A_vn1 ((frX b fq).length) c_vn1 : Value), (st1 (gz t n (G, gts (zs.take m), vs)).2.2 b, (fq.erase b, tgt t b))))] ++ [(u0, ((.slice A_vn1 ((frX b fq).length) c_vn1 : Value), (st0 (gz t n (G, gts (zs.take m), vs)).2.2 b, (fq.erase b, t))))]))), .grp 3 1 (gl (FA ++ (((.slice fA (fq.length) fc : Value), nl fq) :: FB) ++ [((.slice A_vn1 ((frX b fq).length) c_vn1 : Value), nl (fq.erase b))])), .blk b5 136 [.slice gA (vs.length) gc, .slice fA (fq.length) fc, .int .i64 t], .own vo2 71 3 (G2.length) (ints (flCX G2)), .blk b2 38 [.int .i64 (((n : Nat) : Int)), vo2], .blk b1 38 [.int .i64 0, .slice none 0 0]]
              refine Run.blockEnd ?_
              refine Run.goal ⟨(by repeat (first | exact Same.refl _ _ | refine Same.put rfl ?_ | refine Same.over rfl rfl ?_)), (f2, G2, (((zs2 ++ [(u1, ((.slice A_vn1 ((frX b fq).length) c_vn1 : Value), (st1 (gz t n (G, gts (zs.take m), vs)).2.2 b, (fq.erase b, tgt t b))))] ++ [(u0, ((.slice A_vn1 ((frX b fq).length) c_vn1 : Value), (st0 (gz t n (G, gts (zs.take m), vs)).2.2 b, (fq.erase b, t))))]))), (FA ++ (((.slice fA (fq.length) fc : Value), nl fq) :: FB) ++ [((.slice A_vn1 ((frX b fq).length) c_vn1 : Value), nl (fq.erase b))]), vo2, vt2), ?_, ?_, ?_, ?_⟩
              ·first | exact ⟨hnx, hfm.take m⟩ | exact ⟨hnx, hfm2⟩ | exact ⟨by rw [gts_two]; exact hnx, FrIn.two (FrIn.mono hfm2 fun p hp => List.mem_append_left _ hp) mem_end mem_end⟩
              ·show f2 < f2 + 1; omega
              ·exact ⟨(by first | rfl | (congr 1; omega) | simp), trivial⟩
              ·exact ((Weak.selF [4, 0, 0, 0, 1, 1]).trans (Some'.weak (.takeEq (by first | rfl | simp) (.takeEq (by first | rfl | simp) (.takeEq (by first | rfl | simp) (.takeEq (by first | rfl | simp) (.takeEq (by first | rfl | simp) (.take (.nil _)))))))))
    ·have p40 := h40; try simp only [bs] at p40
     obtain ⟨hgr, _⟩ := hinv
     obtain rfl : zs = [] := List.length_eq_zero_iff.1 (by omega)
     have hfin : G = gG n ms := hgr.done
     refine Run.exit rfl ?_
     refine Run.sr ?_
     refine Run.y (.agg #[.int .i64 (((n : Nat) : Int)), vo]) rfl (OpY.loadN (cs := [.int .i64 (((n : Nat) : Int)), vo]) Tagg_38 rfl (Cells.blk (.tail _ (.tail _ (.tail _ (.tail _ (List.Mem.head _))))) ⟨rfl, rfl, trivial⟩)) ?_
     refine Run.formOwn (.head _) (fun A_vo1 c_vo1 hv hcapc_vo1 hmaxc_vo1 => ?_) (fun _ _ _ => ⟨nofun, nofun, nofun⟩)
     subst hv
     refine Run.step rfl (OpStep.storeAll (us := [.int .i64 (((n : Nat) : Int)), .slice A_vo1 (G.length) c_vo1]) Tsize_38 rfl rfl rfl (.there _ (.there _ (.there _ (.there _ (.there _ (.here _)))))) rfl ?_)
     refine Run.done ?_
     refine Run.ret ?_
     refine ⟨.agg #[.int .i64 (((n : Nat) : Int)), .slice A_vo1 (G.length) c_vo1], [.own (.slice A_vo1 (G.length) c_vo1) 71 3 ((gG n ms).length) (ints (flCX (gG n ms)))], Out.cell1 (cs := [.int .i64 (((n : Nat) : Int)), .slice A_vo1 (G.length) c_vo1]) rfl Tagg_38 rfl (Cells.blk (.tail _ (.tail _ (.tail _ (.tail _ (.tail _ (List.Mem.head _)))))) ⟨rfl, rfl, trivial⟩), (Some'.weak (.takeEq (by first | rfl | rw [hfin]) (.nil _))), ?_⟩
     exact ⟨_, rfl, rfl⟩

end Go.Proofs.Yteehfidjofcfmaa
/- Plain laws: the reference's search for networks. -/
set_option linter.unusedSimpArgs false
set_option linter.unusedVariables false
namespace Go.Proofs.Yteehfidjofcfmaa
open Go Go.RowKit
/-- The set with the first k masks that are rows. -/
def seenK (f : Nat) (l : List Nat) (ms : List Int) : Nat → Nat
  | 0 => f
  | k + 1 => if hasI (nl l) (ix ms k) l.length = true then seenK f l ms k ||| 2 ^ k else seenK f l ms k
theorem hasI_rows {l : List Nat} {x : Int} : hasI (nl l) x l.length = true ↔ ∃ j, j < l.length ∧ ((nx l j : Nat) : Int) = x := by
  rw [hasI, anyI_iff]
  constructor
  · rintro ⟨j, h1, h2⟩
    exact ⟨j, h1, by rw [← ix_nl]; simpa using h2⟩
  · rintro ⟨j, h1, h2⟩
    exact ⟨j, h1, by rw [decide_eq_true_eq, ix_nl]; exact h2⟩
theorem seenK_bit (f : Nat) (l : List Nat) (ms : List Int) (i : Nat) : ∀ k, (seenK f l ms k).testBit i = (f.testBit i || (decide (i < k) && hasI (nl l) (ix ms i) l.length))
  | 0 => by simp [seenK]
  | k + 1 => by
    have ih := seenK_bit f l ms i k
    rw [seenK]
    by_cases hc : hasI (nl l) (ix ms k) l.length = true
    · rw [if_pos hc, Nat.testBit_or, ih, Nat.testBit_two_pow]
      by_cases hik : k = i
      · subst hik; simp [hc]
      · have h6 : decide (i < k + 1) = decide (i < k) := by rw [Bool.eq_iff_iff, decide_eq_true_eq, decide_eq_true_eq]; omega
        rw [h6]; simp [hik]
    · rw [if_neg hc, ih]
      by_cases hik : k = i
      · subst hik
        have : hasI (nl l) (ix ms k) l.length = false := by simpa using hc
        simp [this]
      · have h6 : decide (i < k + 1) = decide (i < k) := by rw [Bool.eq_iff_iff, decide_eq_true_eq, decide_eq_true_eq]; omega
        rw [h6]
theorem seenK_lt {f : Nat} {l : List Nat} {ms : List Int} (hf : f < 2 ^ ms.length) : ∀ k, k ≤ ms.length → seenK f l ms k < 2 ^ ms.length
  | 0, _ => hf
  | k + 1, hk => by
    have ih := seenK_lt (l := l) hf k (by omega)
    rw [seenK]; split
    · exact Nat.or_lt_two_pow ih (Nat.pow_lt_pow_right (by omega) (by omega))
    · exact ih
theorem bits_eq {a b k : Nat} (ha : a < 2 ^ k) (hb : b < 2 ^ k) (h : ∀ i, i < k → a.testBit i = b.testBit i) : a = b := by
  refine Nat.eq_of_testBit_eq fun i => ?_
  by_cases hi : i < k
  · exact h i hi
  · rw [Nat.testBit_lt_two_pow (Nat.lt_of_lt_of_le ha (Nat.pow_le_pow_right (by omega) (by omega))), Nat.testBit_lt_two_pow (Nat.lt_of_lt_of_le hb (Nat.pow_le_pow_right (by omega) (by omega)))]
theorem seen_step {n : Nat} {ms : List Int} {l : List Nat} {f : Nat} (h : mskOk n ms ms.length = true) (hn : Noted ms l f) (hf : f < 2 ^ ms.length) (a b : Nat) (hb : b < l.length) : seenK f (cx l (a, b)) ms ms.length = apx f ms ((nx (cx l (a, b)) b : Nat) : Int) := by
  refine bits_eq (seenK_lt hf _ (Nat.le_refl _)) (apx_lt hf (Nat.le_refl _)) fun i hi => ?_
  rw [seenK_bit, apx_bit h hi, decide_eq_true hi, Bool.true_and]
  cases hfb : f.testBit i with
  | true => simp
  | false =>
    rw [Bool.false_or, Bool.false_or, Bool.eq_iff_iff, hasI_rows, decide_eq_true_eq]
    have hcl : (cx l (a, b)).length = l.length := by simp [cx]
    constructor
    · rintro ⟨j, hj, he⟩
      rw [hcl] at hj
      by_cases hjb : b = j
      · subst hjb; exact he.symm
      · rw [nx_cx hj, if_neg hjb] at he
        have := hn i hi ⟨j, hj, he⟩
        rw [hfb] at this; cases this
    · intro he; exact ⟨b, by rw [hcl]; exact hb, he.symm⟩
theorem apF_iff {n : Nat} {ms : List Int} (h : mskOk n ms ms.length = true) {i : Nat} (hi : i < ms.length) : ∀ {q : Nat}, (apF ms q).testBit i = true ↔ ∃ j, j < q ∧ ((2 ^ j : Nat) : Int) = ix ms i
  | 0 => by simp [apF]
  | q + 1 => by
    have ih := apF_iff h hi (q := q)
    rw [apF, apx_bit h hi, Bool.or_eq_true, ih, decide_eq_true_eq]
    constructor
    · rintro (⟨j, h1, h2⟩ | h1)
      · exact ⟨j, by omega, h2⟩
      · exact ⟨q, by omega, h1.symm⟩
    · rintro ⟨j, h1, h2⟩
      by_cases hj : j = q
      · subst hj; exact .inr h2.symm
      · exact .inl ⟨j, by omega, h2⟩
theorem seen_first {n : Nat} {ms : List Int} (h : mskOk n ms ms.length = true) : seenK 0 (idL n) ms ms.length = apF ms n := by
  refine bits_eq (seenK_lt (Nat.two_pow_pos _) _ (Nat.le_refl _)) (apF_lt n) fun i hi => ?_
  rw [seenK_bit, decide_eq_true hi, Nat.zero_testBit, Bool.false_or, Bool.true_and, Bool.eq_iff_iff, hasI_rows, apF_iff h hi, idL_length]
  constructor
  · rintro ⟨j, h1, h2⟩; exact ⟨j, h1, by rw [← nx_idL h1]; exact h2⟩
  · rintro ⟨j, h1, h2⟩; exact ⟨j, h1, by rw [nx_idL h1]; exact h2⟩
/-- Codes of states. -/
def cdS (f : Nat) (l : List Nat) : Nat → Nat
  | 0 => f
  | k + 1 => cdS f l k * 8 ||| nx l k
theorem cdS_succ {l : List Nat} (h : ∀ i, nx l i < 8) (f k : Nat) : cdS f l (k + 1) = cdS f l k * 8 + nx l k := by
  have := Nat.two_pow_add_eq_or_of_lt (i := 3) (h k) (cdS f l k)
  rw [cdS, Nat.mul_comm (cdS f l k) 8]
  exact this.symm
theorem cdS_lt {l : List Nat} {f : Nat} (h : ∀ i, nx l i < 8) (hf : f < 128) : ∀ k, cdS f l k < 128 * 8 ^ k
  | 0 => by simpa [cdS] using hf
  | k + 1 => by
    have ih := cdS_lt h hf k
    have h1 := h k
    rw [cdS_succ h, Nat.pow_succ]; omega
theorem cdS_inj {l l' : List Nat} {f f' : Nat} (h : ∀ i, nx l i < 8) (h' : ∀ i, nx l' i < 8) : ∀ k, cdS f l k = cdS f' l' k → f = f' ∧ ∀ i, i < k → nx l i = nx l' i
  | 0, e => ⟨e, fun i hi => by omega⟩
  | k + 1, e => by
    rw [cdS_succ h, cdS_succ h'] at e
    have h1 := h k
    have h2 := h' k
    obtain ⟨g1, g2⟩ := cdS_inj (f := f) (f' := f') h h' k (by omega)
    refine ⟨g1, fun i hi => ?_⟩
    by_cases hk : i = k
    · subst hk; omega
    · exact g2 i (by omega)
def cdE (k : List Nat × Nat) : Nat := cdS k.2 k.1 k.1.length
theorem mK8 {n : Nat} (h3 : n ≤ 3) {l : List Nat} (h : ∀ j, nx l j < 2 ^ n) : ∀ j, nx l j < 8 := fun j => Nat.lt_of_lt_of_le (h j) (Nat.pow_le_pow_right (n := 2) (by omega) h3)
theorem cdE_lt {n : Nat} {ms : List Int} (h3 : n ≤ 3) (hm : ms.length ≤ 7) {k : List Nat × Nat} (h : mK n ms k) : cdE k < 65536 := by
  have h2 : k.2 < 128 := Nat.lt_of_lt_of_le h.2.2 (Nat.le_trans (Nat.pow_le_pow_right (by omega) hm) (by decide))
  have h1 := cdS_lt (mK8 h3 h.2.1) h2 k.1.length
  have h4 : 8 ^ k.1.length ≤ 512 := by rw [h.1]; exact Nat.le_trans (Nat.pow_le_pow_right (by omega) h3) (by decide)
  simp only [cdE]; omega
theorem cdE_inj {n : Nat} {ms : List Int} (h3 : n ≤ 3) {k k' : List Nat × Nat} (h : mK n ms k) (h' : mK n ms k') (e : cdE k = cdE k') : k = k' := by
  simp only [cdE] at e
  rw [h.1, h'.1] at e
  obtain ⟨g1, g2⟩ := cdS_inj (mK8 h3 h.2.1) (mK8 h3 h'.2.1) n e
  exact Prod.ext (list_ext_nx (h.1.trans h'.1.symm) fun i hi => g2 i (by rw [h.1] at hi; exact hi)) g1
/-- The table of states that were met. -/
def bls (l : List Bool) : List Value := l.map Value.bool
def bx (l : List Bool) (i : Nat) : Bool := l.getD i false
theorem bls_get {l : List Bool} {i : Nat} (h : i < l.length) : (bls l)[i]? = some (.bool (bx l i)) := by simp [bls, bx, List.getD, h]
theorem preBl {l : List Bool} {i : Nat} (h : i < l.length) : Pre (bls l) i [.bool (bx l i)] := ⟨bls_get h, trivial⟩
def metA : List Bool → List Nat → List Bool
  | f, [] => f
  | f, c :: cs => metA (f.set c true) cs
theorem metA_length : ∀ (cs : List Nat) (f : List Bool), (metA f cs).length = f.length
  | [], _ => rfl
  | c :: cs, f => by rw [metA, metA_length cs]; simp
theorem metA_snoc : ∀ (cs : List Nat) (f : List Bool) (c : Nat), metA f (cs ++ [c]) = (metA f cs).set c true
  | [], _, _ => rfl
  | x :: cs, f, c => by rw [List.cons_append, metA, metA_snoc cs, metA]
theorem bx_set {l : List Bool} {i j : Nat} (h : j < l.length) : bx (l.set i true) j = (bx l j || decide (i = j)) := by
  simp only [bx, List.getD, List.getElem?_set]
  by_cases hi : i = j
  · subst hi; simp [h]
  · simp [hi]
theorem bx_metA : ∀ (cs : List Nat) (f : List Bool) (c : Nat), c < f.length → bx (metA f cs) c = (bx f c || decide (c ∈ cs))
  | [], _, _, _ => by simp [metA]
  | x :: cs, f, c, h => by
    rw [metA, bx_metA cs _ c (by simpa using h), bx_set h]
    by_cases hx : x = c
    · subst hx; simp
    · have : (c ∈ x :: cs) ↔ c ∈ cs := by
        rw [List.mem_cons]; exact ⟨fun h => h.elim (fun e => absurd e.symm hx) id, .inr⟩
      simp [hx, this]
def metL (N : Nat) (cs : List Nat) : List Bool := metA (List.replicate N false) cs
theorem metL_length (N : Nat) (cs : List Nat) : (metL N cs).length = N := by rw [metL, metA_length, List.length_replicate]
theorem metL_snoc (N : Nat) (cs : List Nat) (c : Nat) : metL N (cs ++ [c]) = (metL N cs).set c true := metA_snoc ..
theorem bx_metL {N : Nat} {cs : List Nat} {c : Nat} (h : c < N) : bx (metL N cs) c = decide (c ∈ cs) := by
  rw [metL, bx_metA _ _ _ (by rw [List.length_replicate]; exact h)]
  simp [bx, List.getD, h]
theorem bls_zero (N : Nat) : (List.replicate N ([.bool false] : List Value)).flatten = bls (metL N []) := by
  show _ = bls (List.replicate N false)
  induction N with
  | zero => rfl
  | succ N ih => rw [List.replicate_succ, List.flatten_cons, ih]; simp [bls, List.replicate_succ]
theorem bls_set (l : List Bool) (c : Nat) : spl (bls l) c [.bool true] = bls (l.set c true) := by
  show (bls l).set c (.bool true) = _
  simp [bls, List.map_set]
/-- States of the list: rows, key and path, parent, gate. -/
abbrev NZ := Value × (BQ × (Int × (Int × (Int × Int))))
def ncell (z : NZ) : List Value := [z.1, .int .i64 ((z.2.1.1.2 : Nat) : Int), .int .i64 z.2.2.1, .int .i64 z.2.2.2.1, .int .i64 z.2.2.2.2.1, .int .i64 z.2.2.2.2.2, .int .i64 0]
def ncells (zs : List NZ) : List Value := (zs.map ncell).flatten
abbrev nk (zs : List NZ) : List BQ := zs.map fun z => z.2.1
abbrev ncd (zs : List NZ) : List Nat := zs.map fun z => cdE z.2.1.1
theorem ncells_length : ∀ zs : List NZ, (ncells zs).length = zs.length * 7
  | [] => rfl
  | z :: zs => by
    have := ncells_length zs
    simp only [ncells, List.map_cons, List.flatten_cons, List.length_append, List.length_cons] at this ⊢
    simp only [ncell, List.length_cons, List.length_nil]
    omega
theorem ncells_snoc (zs : List NZ) (z : NZ) : ncells zs ++ ncell z = ncells (zs ++ [z]) := by simp [ncells]
theorem preN {zs : List NZ} {i : Nat} {z : NZ} (h : zs[i]? = some z) : Pre (ncells zs) (i * 7) (ncell z) := by
  obtain ⟨hi, he⟩ := List.getElem?_eq_some_iff.1 h
  have e : zs = zs.take i ++ z :: zs.drop (i + 1) := by rw [← he, List.getElem_cons_drop, List.take_append_drop]
  refine Pre.of fun j v hv => ?_
  have hj : j < (ncell z).length := (List.getElem?_eq_some_iff.1 hv).1
  have hl : (ncells (zs.take i)).length = i * 7 := by rw [ncells_length, List.length_take, Nat.min_eq_left (by omega)]
  have e2 : ncells zs = ncells (zs.take i) ++ (ncell z ++ ncells (zs.drop (i + 1))) := by
    conv => lhs; rw [e]
    simp [ncells]
  rw [e2, List.getElem?_append_right (by omega), hl, show i * 7 + j - i * 7 = j by omega, List.getElem?_append_left hj]
  exact hv
def nm (n : Nat) (z : NZ) : Value × Nat × List Value := (z.1, n, ints (nl z.2.1.1.1))
def ngp (n : Nat) (zs : List NZ) : List (Value × Nat × List Value) := zs.map (nm n)
theorem ng_mem {n : Nat} {zs : List NZ} {z : NZ} (h : z ∈ zs) : nm n z ∈ ngp n zs := List.mem_map.2 ⟨z, h, rfl⟩
theorem Weak.ngSnoc {H : List Res} {e : TypeId} {n : Nat} {zs : List NZ} {v : Value} {k : List Nat × Nat} {p : List Nat} {r : Int × (Int × (Int × Int))} : Weak (.own v e 1 n (ints (nl k.1)) :: .grp e 1 (ngp n zs) :: H) (.grp e 1 (ngp n (zs ++ [(v, ((k, p), r))])) :: H) := by
  have h := Weak.grpSnocR (H := H) (e := e) (size := 1) (v := v) (n := n) (xs := ints (nl k.1)) (l := ngp n zs)
  have e2 : ngp n (zs ++ [(v, ((k, p), r))]) = ngp n zs ++ [(v, n, ints (nl k.1))] := by simp [ngp, nm]
  rw [e2]; exact h
/-- The gate of a number. -/
def gt3 (n e : Nat) : Int × (Int × Int) := (9, ((e / n : Nat) : Int), ((e % n : Nat) : Int))
/-- Each state tells its parent. -/
def LinkAt (n : Nat) (zs : List NZ) (t : Nat) (z : NZ) : Prop := (z.2.1.2 = [] ∧ z.2.2 = (-1, (0, (0, 0)))) ∨ ∃ r y e, r < t ∧ zs[r]? = some y ∧ z.2.1.2 = y.2.1.2 ++ [e] ∧ z.2.2 = ((r : Int), gt3 n e)
def Linked (n : Nat) (zs : List NZ) : Prop := ∀ t z, zs[t]? = some z → LinkAt n zs t z
theorem Linked.one {n : Nat} {z : NZ} (h : z.2.1.2 = [] ∧ z.2.2 = (-1, (0, (0, 0)))) : Linked n [z] := by
  intro t y hy
  cases t with
  | zero => cases hy; exact .inl h
  | succ t => simp at hy
theorem Linked.snoc {n : Nat} {zs : List NZ} {z : NZ} (h : Linked n zs) {r : Nat} {y : NZ} {e : Nat} (hy : zs[r]? = some y) (h1 : z.2.1.2 = y.2.1.2 ++ [e]) (h2 : z.2.2 = ((r : Int), gt3 n e)) : Linked n (zs ++ [z]) := by
  have up : ∀ {r : Nat} {y : NZ}, zs[r]? = some y → (zs ++ [z])[r]? = some y := fun hy => by rw [List.getElem?_append_left (List.getElem?_eq_some_iff.1 hy).1]; exact hy
  intro t x hx
  by_cases ht : t < zs.length
  · rw [List.getElem?_append_left ht] at hx
    rcases h t x hx with h3 | ⟨r, y, e, g1, g2, g3, g4⟩
    · exact .inl h3
    · exact .inr ⟨r, y, e, g1, up g2, g3, g4⟩
  · have htl : t = zs.length := by
      have := (List.getElem?_eq_some_iff.1 hx).1
      simp at this; omega
    subst htl
    rw [List.getElem?_append_right (Nat.le_refl _)] at hx
    simp at hx; subst hx
    exact .inr ⟨r, y, e, (List.getElem?_eq_some_iff.1 hy).1, up hy, h1, h2⟩
/-- What has been told of a path. -/
def OutI (n : Nat) (zs : List NZ) (p : List Nat) (kk : Int) (os : List NZ) : Prop :=
  (∃ t z r, kk = ((t : Nat) : Int) ∧ zs[t]? = some z ∧ p = z.2.1.2 ++ r ∧ os.map (fun z => z.2.2.2) = r.reverse.map (gt3 n)) ∨ (kk = -1 ∧ os.map (fun z => z.2.2.2) = p.reverse.map (gt3 n) ++ [(0, (0, 0))])
theorem OutI.step {n : Nat} {zs : List NZ} {p : List Nat} {os : List NZ} (hl : Linked n zs) {t : Nat} {z : NZ} {r : List Nat} (hz : zs[t]? = some z) (hp : p = z.2.1.2 ++ r) (ho : os.map (fun z => z.2.2.2) = r.reverse.map (gt3 n)) :
    OutI n zs p z.2.2.1 (os ++ [z]) ∧ z.2.2.1 < (t : Int) := by
  rcases hl t z hz with ⟨h1, h2⟩ | ⟨s, y, e, h1, h2, h3, h4⟩
  · refine ⟨.inr ⟨by rw [h2], ?_⟩, by rw [h2]; show (-1 : Int) < _; omega⟩
    rw [h1, List.nil_append] at hp
    rw [List.map_append, ho, hp]; simp [h2]
  · refine ⟨.inl ⟨s, y, e :: r, by rw [h4], h2, by rw [hp, h3, List.append_assoc]; rfl, ?_⟩, by rw [h4]; show (s : Int) < t; omega⟩
    rw [List.map_append, ho]; simp [h4]

end Go.Proofs.Yteehfidjofcfmaa
/- Walks: shortest networks by the program; parts of the reference's search. -/
set_option linter.unusedSimpArgs false
set_option linter.unusedVariables false
namespace Go.Proofs.Yteehfidjofcfmaa
open Go Go.RowKit
namespace NwtT
theorem Tagg_28 : aggOf Try.prog 28 = some 1 := by kernel_rfl
theorem Tagg_38 : aggOf Try.prog 38 = some 2 := by kernel_rfl
theorem Tcall_126 : callable Try.prog 126 = true := by kernel_rfl
theorem Tcall_25 : callable Try.prog 25 = true := by kernel_rfl
theorem Tcall_35 : callable Try.prog 35 = true := by kernel_rfl
theorem Tcall_52 : callable Try.prog 52 = true := by kernel_rfl
theorem Tcall_53 : callable Try.prog 53 = true := by kernel_rfl
theorem Tcall_57 : callable Try.prog 57 = true := by kernel_rfl
theorem Tcall_60 : callable Try.prog 60 = true := by kernel_rfl
theorem Tcall_83 : callable Try.prog 83 = true := by kernel_rfl
theorem Tfo_28_0 : fieldOff Try.prog 28 0 = some 0 := by kernel_rfl
theorem Tfo_38_1 : fieldOff Try.prog 38 1 = some 1 := by kernel_rfl
theorem Tfo_77_0 : fieldOff Try.prog 77 0 = some 0 := by kernel_rfl
theorem Tfo_77_1 : fieldOff Try.prog 77 1 = some 1 := by kernel_rfl
theorem Tint_96 : Try.prog.underlying 96 = some (.int .u64) := by kernel_rfl
theorem Tone_22 : oneOf Try.prog 22 = true := by kernel_rfl
theorem Tone_3 : oneOf Try.prog 3 = true := by kernel_rfl
theorem Tone_36 : oneOf Try.prog 36 = true := by kernel_rfl
theorem Tsize_38 : (Try.prog.info? 38).map (·.size) = some 2 := by kernel_rfl
theorem Tsl_22 : sliceOf Try.prog 22 = some (3, 1, 8, [.int .i64 0]) := by kernel_rfl
theorem Tsl_36 : sliceOf Try.prog 36 = some (71, 3, 24, [.int .i64 0, .int .i64 0, .int .i64 0]) := by kernel_rfl
theorem Tsome_3 : (Try.prog.underlying 3).isSome = true := by kernel_rfl
theorem Tzero_38 : zeroOf Try.prog 38 = some [.int .i64 0, .slice none 0 0] := by kernel_rfl
end NwtT
open NwtT
set_option maxHeartbeats 1000000 in
set_option maxRecDepth 20000 in
theorem ShortestNetwork_spec {va vm : Value} {n mn : Nat} {xs ms : List Int} {w : World} (ha : Sl w va 1 n (ints xs)) (hms : Sl w vm 1 mn (ints ms)) : Calls Try.prog 25 #[.agg #[va], vm] w (Post No w fun v H => ∃ u, v = .tuple #[.agg #[.int .i64 (nwN n xs ms), u], .bool (nwB n xs ms)] ∧ H = [.own u 71 3 (nwG n xs ms).length (ints (flCX (dcw n (nwG n xs ms))))]) := by
 have hxl := ha.len
 rw [Nat.mul_one] at hxl
 have hxl : xs.length = n := by simpa [ints] using hxl
 have hn := ha.le
 obtain ⟨Av, cv, rfl, hnc, _⟩ := ha.form0
 have hmn := hms.le
 obtain rfl : ms.length = mn := by have h := hms.len; simpa [ints] using h
 obtain ⟨Am, cm, rfl, hmc, _⟩ := hms.form0
 refine enter (n := 31) (args := [.agg #[.slice Av n cv], .slice Am (ms.length) cm]) Try.func25 rfl rfl (St.empty _ _) ?_
 refine Run.sr ?_
 refine Run.step rfl (OpStep.box (us := [.slice Av n cv]) rfl fun b1 => ?_)
 refine Run.step rfl (OpStep.alloc (zs := [.int .i64 0, .slice none 0 0]) Tzero_38 fun b2 => ?_)
 refine Run.p (.bool false) rfl rfl ?_
 refine Run.dsr ?_
 refine Run.y (.pointer (some ⟨b1, 0, none⟩)) rfl (OpY.fieldAddr Tfo_28_0 rfl rfl) ?_
 refine Run.y (.slice Av n cv) rfl (OpY.load1 Tone_22 rfl (Cells.blk (.tail _ (List.Mem.head _)) ⟨rfl, trivial⟩)) ?_
 refine Run.y (.int .i64 (((n : Nat) : Int))) rfl (OpY.len Tsl_22 rfl) ?_
 refine Run.p (.int .i64 (((n : Nat) : Int))) rfl rfl ?_
 refine Run.done ?_
 refine Run.seq ?_
 refine Run.sr ?_
 refine Run.y (.agg #[.slice Av n cv]) rfl (OpY.loadN (cs := [.slice Av n cv]) Tagg_28 rfl (Cells.blk (.tail _ (List.Mem.head _)) ⟨rfl, trivial⟩)) ?_
 refine Run.q (v := .bool (linOk xs n)) rfl (OpQ.call (vs := [.agg #[.slice Av n cv]]) (caps := []) Tcall_35 rfl rfl (fun w hs => IsValidLinear_spec (hs.sl ha))) ?_
 refine Run.p (.bool (!(linOk xs n))) rfl rfl ?_
 rcases Bool.eq_false_or_eq_true (!(linOk xs n)) with h13 | h13
 ·refine Run.q (v := .bool true) rfl (OpQ.y (OpY.moveB rfl h13)) ?_
  have p13 := h13; try simp only [bs] at p13
  refine Run.pass rfl ?_
  refine Run.pass rfl ?_
  refine Run.p (.bool true) rfl rfl ?_
  refine Run.p (.bool true) rfl rfl ?_
  refine Run.pass rfl ?_
  refine Run.pass rfl ?_
  refine Run.pass rfl ?_
  refine Run.pass rfl ?_
  refine Run.p (.bool true) rfl rfl ?_
  refine Run.done ?_
  refine Run.cond (b := true) rfl (fun _ => ?_) (fun h => nomatch h)
  refine Run.seq ?_
  have hbad : nwB n xs ms = false := by
   cases hb : nwB n xs ms with
   | false => rfl
   | true =>
    exfalso
    obtain ⟨⟨h3, hlk⟩, hmk⟩ : (n ≤ 3 ∧ linOk xs n = true) ∧ mskOk n ms ms.length = true := by simpa [nwB] using hb
    first | (simp_all; done) | (simp_all; omega) | omega
  refine Run.region ?_
  refine Run.y (.agg #[.int .i64 0, .slice none 0 0]) rfl (OpY.build (cs := [.int .i64 0, .slice none 0 0]) (by kernel_rfl)) ?_
  refine Run.step rfl (OpStep.storeAll (us := [.int .i64 0, .slice none 0 0]) Tsize_38 rfl rfl rfl (.here _) rfl ?_)
  refine Run.p (.bool false) rfl rfl ?_
  refine Run.done ?_
  refine Run.ret ?_
  refine ⟨.tuple #[.agg #[.int .i64 0, .slice none 0 0], .bool false], [.own (.slice none 0 0) 71 3 0 ([])], Out.cell2 (cs := [.int .i64 0, .slice none 0 0]) rfl Tagg_38 rfl (Cells.blk (.head _) ⟨rfl, rfl, trivial⟩) rfl, ((Weak.nilOwn 71 3).trans (Some'.weak (.take (.nil _)))), ?_⟩
  exact ⟨_, by rw [(nw_bad hbad).2, hbad], by rw [(nw_bad hbad).1]; rfl⟩
 ·refine Run.q (v := .bool false) rfl (OpQ.y (OpY.moveB rfl h13)) ?_
  have p13 := h13; try simp only [bs] at p13
  refine Run.p (.int .i64 (((n : Nat) : Int))) rfl rfl ?_
  refine Run.p (.bool (decide ((((n : Nat) : Int)) > 3))) rfl rfl ?_
  refine Run.p (.bool (decide ((((n : Nat) : Int)) > 3))) rfl rfl ?_
  rcases Bool.eq_false_or_eq_true (decide ((((n : Nat) : Int)) > 3)) with h17 | h17
  ·refine Run.q (v := .bool true) rfl (OpQ.y (OpY.moveB rfl h17)) ?_
   have p17 := h17; try simp only [bs] at p17
   refine Run.pass rfl ?_
   refine Run.pass rfl ?_
   refine Run.pass rfl ?_
   refine Run.pass rfl ?_
   refine Run.p (.bool true) rfl rfl ?_
   refine Run.done ?_
   refine Run.cond (b := true) rfl (fun _ => ?_) (fun h => nomatch h)
   refine Run.seq ?_
   have hbad : nwB n xs ms = false := by
    cases hb : nwB n xs ms with
    | false => rfl
    | true =>
     exfalso
     obtain ⟨⟨h3, hlk⟩, hmk⟩ : (n ≤ 3 ∧ linOk xs n = true) ∧ mskOk n ms ms.length = true := by simpa [nwB] using hb
     first | (simp_all; done) | (simp_all; omega) | omega
   refine Run.region ?_
   refine Run.y (.agg #[.int .i64 0, .slice none 0 0]) rfl (OpY.build (cs := [.int .i64 0, .slice none 0 0]) (by kernel_rfl)) ?_
   refine Run.step rfl (OpStep.storeAll (us := [.int .i64 0, .slice none 0 0]) Tsize_38 rfl rfl rfl (.here _) rfl ?_)
   refine Run.p (.bool false) rfl rfl ?_
   refine Run.done ?_
   refine Run.ret ?_
   refine ⟨.tuple #[.agg #[.int .i64 0, .slice none 0 0], .bool false], [.own (.slice none 0 0) 71 3 0 ([])], Out.cell2 (cs := [.int .i64 0, .slice none 0 0]) rfl Tagg_38 rfl (Cells.blk (.head _) ⟨rfl, rfl, trivial⟩) rfl, ((Weak.nilOwn 71 3).trans (Some'.weak (.take (.nil _)))), ?_⟩
   exact ⟨_, by rw [(nw_bad hbad).2, hbad], by rw [(nw_bad hbad).1]; rfl⟩
  ·refine Run.q (v := .bool false) rfl (OpQ.y (OpY.moveB rfl h17)) ?_
   have p17 := h17; try simp only [bs] at p17
   refine Run.p (.int .i64 (((n : Nat) : Int))) rfl rfl ?_
   refine Run.p (.slice Am (ms.length) cm) rfl rfl ?_
   refine Run.q (v := .bool (mskOk n ms ms.length)) rfl (OpQ.call (vs := [.int .i64 (((n : Nat) : Int)), .slice Am (ms.length) cm]) (caps := []) Tcall_57 rfl rfl (fun w hs => areMasks_spec (hs.sl hms))) ?_
   refine Run.p (.bool (!(mskOk n ms ms.length))) rfl rfl ?_
   refine Run.p (.bool (!(mskOk n ms ms.length))) rfl rfl ?_
   refine Run.done ?_
   refine Run.cond (b := !(mskOk n ms ms.length)) rfl (fun h22 => ?_) (fun h22 => ?_)
   ·have p22 := h22; try simp only [bs] at p22
    refine Run.seq ?_
    have hbad : nwB n xs ms = false := by
     cases hb : nwB n xs ms with
     | false => rfl
     | true =>
      exfalso
      obtain ⟨⟨h3, hlk⟩, hmk⟩ : (n ≤ 3 ∧ linOk xs n = true) ∧ mskOk n ms ms.length = true := by simpa [nwB] using hb
      first | (simp_all; done) | (simp_all; omega) | omega
    refine Run.region ?_
    refine Run.y (.agg #[.int .i64 0, .slice none 0 0]) rfl (OpY.build (cs := [.int .i64 0, .slice none 0 0]) (by kernel_rfl)) ?_
    refine Run.step rfl (OpStep.storeAll (us := [.int .i64 0, .slice none 0 0]) Tsize_38 rfl rfl rfl (.here _) rfl ?_)
    refine Run.p (.bool false) rfl rfl ?_
    refine Run.done ?_
    refine Run.ret ?_
    refine ⟨.tuple #[.agg #[.int .i64 0, .slice none 0 0], .bool false], [.own (.slice none 0 0) 71 3 0 ([])], Out.cell2 (cs := [.int .i64 0, .slice none 0 0]) rfl Tagg_38 rfl (Cells.blk (.head _) ⟨rfl, rfl, trivial⟩) rfl, ((Weak.nilOwn 71 3).trans (Some'.weak (.take (.nil _)))), ?_⟩
    exact ⟨_, by rw [(nw_bad hbad).2, hbad], by rw [(nw_bad hbad).1]; rfl⟩
   ·have p22 := h22; try simp only [bs] at p22
    refine Run.skip ?_
    refine Run.seq ?_
    have hgood : nwB n xs ms = true := by
     simp only [nwB, Bool.and_eq_true, decide_eq_true_eq]
     refine ⟨⟨?_, ?_⟩, ?_⟩ <;> first | omega | (simp_all; done) | (simp_all; omega)
    have hok := nw_ok hxl hgood
    obtain ⟨h3, h1n, hnl, hml, hmb, hmi, hmk, hm7, hfd, hone, hlen, hbw⟩ := hok
    obtain ⟨m, hm⟩ : ∃ m, m = nats xs := ⟨_, rfl⟩
    rw [← hm] at hnl hml hmb hmi hfd hone
    refine Run.region ?_
    refine Run.p (.int .i64 (((n : Nat) : Int))) rfl rfl ?_
    refine Run.y (.agg #[.slice Av n cv]) rfl (OpY.loadN (cs := [.slice Av n cv]) Tagg_28 rfl (Cells.blk (.tail _ (List.Mem.head _)) ⟨rfl, trivial⟩)) ?_
    refine Run.p (.slice Am (ms.length) cm) rfl rfl ?_
    refine Run.step rfl (OpStep.call (vs := [.agg #[.slice Av n cv], .slice Am (ms.length) cm]) (caps := []) Tcall_53 rfl rfl (fun w hs => (by have h := shortest_spec (m := m) (ms := ms) (n := n) (va := .slice Av n cv) (vm := .slice Am ms.length cm) (w := w) (by omega) (by omega) hml hmb hm7 (fun i => mQ_small h3 hm7 i) hfd (by rw [hnl]; exact hs.sl ha) (hs.sl hms); exact h)) ?_)
    rintro uS _ ⟨p, i, hp, rfl⟩
    show Run _ _ (putF _ _ _ uS) [.own uS 71 3 (p.length) (ints (flCX (dcw n p))), .blk b2 38 [.int .i64 0, .slice none 0 0], .blk b1 28 [.slice Av n cv]]
    have hpe := hone i p hp
    have hpl : p.length ≤ 60 := by rw [hpe]; exact hlen
    have hpb : BW (lok n) (n * n) p := by rw [hpe]; exact hbw
    refine Run.step rfl (OpStep.call (vs := [.int .i64 (((n : Nat) : Int)), uS]) (caps := []) Tcall_52 rfl rfl (fun w hs => (by have h := circuitIf_spec (N := (n : Int)) (by omega) (by rw [← dcw_len n p]; exact circ_cx ⟨by omega, by omega⟩ (dec_ok hpb) (by rw [dcw_len]; omega)) (hs.slOwn (.head _)); exact h)) ?_)
    rintro _ _ ⟨uC, rfl, rfl⟩
    show Run _ _ (putF _ _ _ (.tuple #[.agg #[.int .i64 (((n : Nat) : Int)), uC], .bool true])) [.own uC 71 3 (p.length) (ints (flCX (dcw n p))), .own uS 71 3 (p.length) (ints (flCX (dcw n p))), .blk b2 38 [.int .i64 0, .slice none 0 0], .blk b1 28 [.slice Av n cv]]
    refine Run.p (.agg #[.int .i64 (((n : Nat) : Int)), uC]) rfl rfl ?_
    refine Run.p (.bool true) rfl rfl ?_
    refine Run.formOwn (.head _) (fun A_uC1 c_uC1 hv hcapc_uC1 hmaxc_uC1 => ?_) (fun _ _ _ => ⟨nofun, nofun, nofun⟩)
    subst hv
    refine Run.step rfl (OpStep.storeAll (us := [.int .i64 (((n : Nat) : Int)), .slice A_uC1 (p.length) c_uC1]) Tsize_38 rfl rfl rfl (.there _ (.there _ (.here _))) rfl ?_)
    refine Run.p (.bool true) rfl rfl ?_
    refine Run.done ?_
    refine Run.ret ?_
    refine ⟨.tuple #[.agg #[.int .i64 (((n : Nat) : Int)), .slice A_uC1 (p.length) c_uC1], .bool true], [.own (.slice A_uC1 (p.length) c_uC1) 71 3 ((nwG n xs ms).length) (ints (flCX (dcw n (nwG n xs ms))))], Out.cell2 (cs := [.int .i64 (((n : Nat) : Int)), .slice A_uC1 (p.length) c_uC1]) rfl Tagg_38 rfl (Cells.blk (.tail _ (.tail _ (List.Mem.head _))) ⟨rfl, rfl, trivial⟩) rfl, (Some'.weak (.takeEq (by first | rfl | rw [hpe]) (.nil _))), ?_⟩
    exact ⟨_, by rw [nw_good hgood, hgood], rfl⟩

set_option maxHeartbeats 1000000 in
set_option maxRecDepth 20000 in
theorem LeastNetwork_spec {va vm : Value} {n mn : Nat} {xs ms : List Int} {w : World} (ha : Sl w va 1 n (ints xs)) (hms : Sl w vm 1 mn (ints ms)) : Calls Try.prog 16 #[.agg #[va], vm] w (Post No w fun v _ => v = .tuple #[.int .i64 ((nwG n xs ms).length : Nat), .bool (nwB n xs ms)]) := by
 refine enter (n := 18) (args := [.agg #[va], vm]) Try.func16 rfl rfl (St.empty _ _) ?_
 refine Run.sr ?_
 refine Run.step rfl (OpStep.box (us := [va]) rfl fun b1 => ?_)
 refine Run.p (.int .i64 0) rfl rfl ?_
 refine Run.p (.bool false) rfl rfl ?_
 refine Run.dsr ?_
 refine Run.y (.agg #[va]) rfl (OpY.loadN (cs := [va]) Tagg_28 rfl (Cells.blk (.head _) ⟨rfl, trivial⟩)) ?_
 refine Run.p (vm) rfl rfl ?_
 refine Run.step rfl (OpStep.call (vs := [.agg #[va], vm]) (caps := []) Tcall_25 rfl rfl (fun w hs => ShortestNetwork_spec (hs.sl ha) (hs.sl hms)) ?_)
 rintro _ _ ⟨u, rfl, rfl⟩
 show Run _ _ (putF _ _ _ (.tuple #[.agg #[.int .i64 (nwN n xs ms), u], .bool (nwB n xs ms)])) [.own u 71 3 ((nwG n xs ms).length) (ints (flCX (dcw n (nwG n xs ms)))), .blk b1 28 [va]]
 refine Run.p (.tuple #[.agg #[.int .i64 (nwN n xs ms), u], .bool (nwB n xs ms)]) rfl rfl ?_
 refine Run.p (.agg #[.int .i64 (nwN n xs ms), u]) rfl rfl ?_
 refine Run.p (.bool (nwB n xs ms)) rfl rfl ?_
 refine Run.step rfl (OpStep.alloc (zs := [.int .i64 0, .slice none 0 0]) Tzero_38 fun b2 => ?_)
 refine Run.formOwn (.tail _ (List.Mem.head _)) (fun A_u1 c_u1 hv hcapc_u1 hmaxc_u1 => ?_) (fun _ _ _ => ⟨nofun, nofun, nofun⟩)
 subst hv
 refine Run.step rfl (OpStep.storeAll (us := [.int .i64 (nwN n xs ms), .slice A_u1 ((nwG n xs ms).length) c_u1]) Tsize_38 rfl rfl rfl (.here _) rfl ?_)
 refine Run.p (.bool (nwB n xs ms)) rfl rfl ?_
 refine Run.dsr ?_
 refine Run.y (.pointer (some ⟨b2, 1, none⟩)) rfl (OpY.fieldAddr Tfo_38_1 rfl rfl) ?_
 refine Run.y (.slice A_u1 ((nwG n xs ms).length) c_u1) rfl (OpY.load1 Tone_36 rfl (Cells.blk (.head _) ⟨rfl, trivial⟩)) ?_
 refine Run.y (.int .i64 ((((nwG n xs ms).length : Nat) : Int))) rfl (OpY.len Tsl_36 rfl) ?_
 refine Run.p (.bool (nwB n xs ms)) rfl rfl ?_
 refine Run.p (.int .i64 ((((nwG n xs ms).length : Nat) : Int))) rfl rfl ?_
 refine Run.p (.bool (nwB n xs ms)) rfl rfl ?_
 refine Run.done ?_
 refine Run.ret ?_
 refine ⟨.tuple #[.int .i64 ((((nwG n xs ms).length : Nat) : Int)), .bool (nwB n xs ms)], [], Out.two rfl rfl rfl, (Some'.weak (.nil _)), ?_⟩
 rfl

set_option maxHeartbeats 1000000 in
set_option maxRecDepth 20000 in
theorem l14Small_spec {va vm : Value} {n mn : Nat} {xs ms : List Int} {w : World} (ha : Sl w va 1 n (ints xs)) (hms : Sl w vm 1 mn (ints ms)) : Calls Try.prog 49 #[.agg #[va], vm] w (Post No w fun v _ => v = .bool (nwB n xs ms)) := by
 have hxl := ha.len
 rw [Nat.mul_one] at hxl
 have hxl : xs.length = n := by simpa [ints] using hxl
 have hn := ha.le
 obtain ⟨Av, cv, rfl, hnc, _⟩ := ha.form0
 have hmn := hms.le
 obtain rfl : ms.length = mn := by have h := hms.len; simpa [ints] using h
 obtain ⟨Am, cm, rfl, hmc, _⟩ := hms.form0
 refine enter (n := 20) (args := [.agg #[.slice Av n cv], .slice Am (ms.length) cm]) Try.func49 rfl rfl (St.empty _ _) ?_
 refine Run.sr ?_
 refine Run.step rfl (OpStep.box (us := [.slice Av n cv]) rfl fun b1 => ?_)
 refine Run.p (.bool false) rfl rfl ?_
 refine Run.dsr ?_
 refine Run.y (.pointer (some ⟨b1, 0, none⟩)) rfl (OpY.fieldAddr Tfo_28_0 rfl rfl) ?_
 refine Run.y (.slice Av n cv) rfl (OpY.load1 Tone_22 rfl (Cells.blk (.head _) ⟨rfl, trivial⟩)) ?_
 refine Run.y (.int .i64 (((n : Nat) : Int))) rfl (OpY.len Tsl_22 rfl) ?_
 refine Run.p (.bool (decide ((((n : Nat) : Int)) ≤ 3))) rfl rfl ?_
 rcases Bool.eq_false_or_eq_true (decide ((((n : Nat) : Int)) ≤ 3)) with h9 | h9
 ·refine Run.q (v := .bool true) rfl (OpQ.y (OpY.moveB rfl h9)) ?_
  have p9 := h9; try simp only [bs] at p9
  refine Run.y (.agg #[.slice Av n cv]) rfl (OpY.loadN (cs := [.slice Av n cv]) Tagg_28 rfl (Cells.blk (.head _) ⟨rfl, trivial⟩)) ?_
  refine Run.q (v := .bool (linOk xs n)) rfl (OpQ.call (vs := [.agg #[.slice Av n cv]]) (caps := []) Tcall_60 rfl rfl (fun w hs => l12Valid_spec (hs.sl ha))) ?_
  refine Run.p (.bool (linOk xs n)) rfl rfl ?_
  rcases Bool.eq_false_or_eq_true (linOk xs n) with h13 | h13
  ·refine Run.q (v := .bool true) rfl (OpQ.y (OpY.moveB rfl h13)) ?_
   have p13 := h13; try simp only [bs] at p13
   refine Run.y (.pointer (some ⟨b1, 0, none⟩)) rfl (OpY.fieldAddr Tfo_28_0 rfl rfl) ?_
   refine Run.y (.slice Av n cv) rfl (OpY.load1 Tone_22 rfl (Cells.blk (.head _) ⟨rfl, trivial⟩)) ?_
   refine Run.y (.int .i64 (((n : Nat) : Int))) rfl (OpY.len Tsl_22 rfl) ?_
   refine Run.p (.slice Am (ms.length) cm) rfl rfl ?_
   refine Run.q (v := .bool (mskOk n ms ms.length)) rfl (OpQ.call (vs := [.int .i64 (((n : Nat) : Int)), .slice Am (ms.length) cm]) (caps := []) Tcall_83 rfl rfl (fun w hs => l14Masks_spec (hs.sl hms))) ?_
   refine Run.p (.bool (mskOk n ms ms.length)) rfl rfl ?_
   refine Run.p (.bool (mskOk n ms ms.length)) rfl rfl ?_
   refine Run.done ?_
   refine Run.ret ?_
   refine ⟨.bool (mskOk n ms ms.length), [], Out.one rfl rfl, (Some'.weak (.nil _)), ?_⟩
   show _ = _; simp only [nwB]; simp_all <;> omega
  ·refine Run.q (v := .bool false) rfl (OpQ.y (OpY.moveB rfl h13)) ?_
   have p13 := h13; try simp only [bs] at p13
   refine Run.pass rfl ?_
   refine Run.pass rfl ?_
   refine Run.pass rfl ?_
   refine Run.pass rfl ?_
   refine Run.pass rfl ?_
   refine Run.p (.bool false) rfl rfl ?_
   refine Run.p (.bool false) rfl rfl ?_
   refine Run.done ?_
   refine Run.ret ?_
   refine ⟨.bool false, [], Out.one rfl rfl, (Some'.weak (.nil _)), ?_⟩
   show _ = _; simp only [nwB]; simp_all <;> omega
 ·refine Run.q (v := .bool false) rfl (OpQ.y (OpY.moveB rfl h9)) ?_
  have p9 := h9; try simp only [bs] at p9
  refine Run.pass rfl ?_
  refine Run.pass rfl ?_
  refine Run.p (.bool false) rfl rfl ?_
  refine Run.p (.bool false) rfl rfl ?_
  refine Run.pass rfl ?_
  refine Run.pass rfl ?_
  refine Run.pass rfl ?_
  refine Run.pass rfl ?_
  refine Run.pass rfl ?_
  refine Run.p (.bool false) rfl rfl ?_
  refine Run.p (.bool false) rfl rfl ?_
  refine Run.done ?_
  refine Run.ret ?_
  refine ⟨.bool false, [], Out.one rfl rfl, (Some'.weak (.nil _)), ?_⟩
  show _ = _; simp only [nwB]; simp_all <;> omega

set_option maxHeartbeats 1000000 in
set_option maxRecDepth 20000 in
theorem l14Seen_spec {va vm : Value} {f : Nat} {l : List Nat} {ms : List Int} {w : World} (h7 : ms.length ≤ 7) (hf : f < 2 ^ ms.length) (ha : Sl w va 1 l.length (ints (nl l))) (hms : Sl w vm 1 ms.length (ints ms)) : Calls Try.prog 90 #[.int .i64 (f : Int), .agg #[va], vm] w (Post No w fun v _ => v = .int .i64 ((seenK f l ms ms.length : Nat) : Int)) := by
 obtain ⟨Am, cm, rfl, hmc, _⟩ := hms.form0
 have hp7 : 2 ^ ms.length ≤ 128 := Nat.le_trans (Nat.pow_le_pow_right (by omega) h7) (by decide)
 refine enter (n := 27) (args := [.int .i64 (((f : Nat) : Int)), .agg #[va], .slice Am (ms.length) cm]) Try.func90 rfl rfl (St.empty _ _) ?_
 refine Run.sr ?_
 refine Run.step rfl (OpStep.box (us := [va]) rfl fun b1 => ?_)
 refine Run.p (.int .i64 0) rfl rfl ?_
 refine Run.done ?_
 refine Run.seq ?_
 refine Run.sr ?_
 refine Run.p (.slice Am (ms.length) cm) rfl rfl ?_
 refine Run.y (.int .i64 (((ms.length : Nat) : Int))) rfl (OpY.len Tsl_22 rfl) ?_
 refine Run.p (.int .i64 0) rfl rfl ?_
 refine Run.done ?_
 refine Run.block ?_
 refine Run.loop (ι := Nat) [0, 7, 8, 11, 12, 13, 14, 15, 16, 17, 18, 19, 20, 21, 22, 23, 24, 25] (fun k => [(0, .int .i64 (((seenK f l ms k : Nat) : Int))), (11, .int .i64 (((k : Nat) : Int)))]) (fun k => [.blk b1 28 [va]]) (fun k => k ≤ ms.length ∧ (True)) (fun k => ms.length - k) 0 ?_ ?_ ?_ ?_
 ·exact ⟨Nat.zero_le _, by first | trivial | (intro i hi; omega)⟩
 ·exact ⟨rfl, rfl, trivial⟩
 ·exact (Some'.weak (.take (.nil _)))
 ·rintro k fr hinv
  show Run _ _ (over _ _ [(0, .int .i64 (((seenK f l ms k : Nat) : Int))), (11, .int .i64 (((k : Nat) : Int)))] fr) [.blk b1 28 [va]]
  try dsimp only at hinv
  refine Run.sr ?_
  refine Run.p (.bool (decide ((((k : Nat) : Int)) < (((ms.length : Nat) : Int))))) rfl rfl ?_
  refine Run.done ?_
  refine Run.seq ?_
  refine Run.cond (b := decide ((((k : Nat) : Int)) < (((ms.length : Nat) : Int)))) rfl (fun h12 => ?_) (fun h12 => ?_)
  ·have p12 := h12; try simp only [bs] at p12
   have hltk : k < ms.length := by omega
   obtain ⟨b, o, rfl⟩ := hms.opn (by omega)
   have hsl := seenK_lt (l := l) hf k (by omega)
   obtain ⟨q, hq⟩ : ∃ q : Nat, q = 2 ^ k := ⟨_, rfl⟩
   have hq7 : q ≤ 128 := by rw [hq]; exact Nat.le_trans (Nat.pow_le_pow_right (by omega) (show k ≤ 7 by omega)) (by decide)
   refine Run.skip ?_
   refine Run.seq ?_
   refine Run.block ?_
   refine Run.sr ?_
   refine Run.p (.int .i64 (((k : Nat) : Int))) rfl rfl ?_
   refine Run.y (.pointer (some ⟨b, o + k, none⟩)) rfl (OpY.index (kk := k) Tsl_22 rfl rfl (by omega) (by omega) (by first | rfl | omega)) ?_
   refine Run.y (.int .i64 (ix ms (k))) rfl (OpY.load1 Tone_3 rfl (Cells.arg (k := k) hms rfl (by omega) (pre1 (by omega)))) ?_
   refine Run.p (.int .i64 (((k : Nat) : Int))) rfl rfl ?_
   refine Run.p (.int .i64 (ix ms (k))) rfl rfl ?_
   refine Run.dsr ?_
   refine Run.y (.pointer (some ⟨b1, 0, none⟩)) rfl (OpY.fieldAddr Tfo_28_0 rfl rfl) ?_
   refine Run.y (va) rfl (OpY.load1 Tone_22 rfl (Cells.blk (.head _) ⟨rfl, trivial⟩)) ?_
   refine Run.p (.int .i64 (ix ms (k))) rfl rfl ?_
   refine Run.q (v := .bool (hasI (nl l) (ix ms k) l.length)) rfl (OpQ.call (vs := [va, .int .i64 (ix ms (k))]) (caps := []) Tcall_126 rfl rfl (fun w hs => l1Has_spec (hs.sl ha))) ?_
   refine Run.done ?_
   refine Run.cond (b := hasI (nl l) (ix ms k) l.length) rfl (fun h19 => ?_) (fun h19 => ?_)
   ·have p19 := h19; try simp only [bs] at p19
    refine Run.region ?_
    refine Run.p (.int .i64 (((seenK f l ms k : Nat) : Int))) rfl rfl ?_
    refine Run.p (.int .i64 (((k : Nat) : Int))) rfl rfl ?_
    refine Run.y (.int .u64 (((k : Nat) : Int))) rfl (OpY.convIntEq Tsome_3 Tint_96 rfl (by rw [IntKind.wrap_u64]; omega)) ?_
    refine Run.y (.int .i64 (((q : Nat) : Int))) rfl (OpY.shlOne rfl rfl rfl (by omega) hq) ?_
    refine Run.y (.int .i64 (((seenK f l ms k ||| q : Nat) : Int))) rfl (OpY.orNat rfl rfl rfl rfl (by omega) (by omega)) ?_
    refine Run.p (.int .i64 (((seenK f l ms k ||| q : Nat) : Int))) rfl rfl ?_
    refine Run.done ?_
    refine Run.blockEnd ?_
    refine Run.region ?_
    refine Run.y (.int .i64 ((((k : Nat) : Int)) + 1)) rfl (OpY.add rfl rfl rfl (by omega) (by omega)) ?_
    refine Run.p (.int .i64 ((((k : Nat) : Int)) + 1)) rfl rfl ?_
    refine Run.done ?_
    refine Run.goal ⟨(by repeat (first | exact Same.refl _ _ | refine Same.put rfl ?_ | refine Same.over rfl rfl ?_)), k + 1, ?_, ?_, ?_, ?_⟩
    ·refine ⟨by omega, ?_⟩
     trivial
    ·omega
    ·exact ⟨(by show Value.int _ _ = Value.int _ _; simp_all [seenK]), (by first | rfl | (congr 1; omega) | simp), trivial⟩
    ·exact (Some'.weak (.take (.nil _)))
   ·have p19 := h19; try simp only [bs] at p19
    refine Run.skip ?_
    refine Run.blockEnd ?_
    refine Run.region ?_
    refine Run.y (.int .i64 ((((k : Nat) : Int)) + 1)) rfl (OpY.add rfl rfl rfl (by omega) (by omega)) ?_
    refine Run.p (.int .i64 ((((k : Nat) : Int)) + 1)) rfl rfl ?_
    refine Run.done ?_
    refine Run.goal ⟨(by repeat (first | exact Same.refl _ _ | refine Same.put rfl ?_ | refine Same.over rfl rfl ?_)), k + 1, ?_, ?_, ?_, ?_⟩
    ·refine ⟨by omega, ?_⟩
     trivial
    ·omega
    ·exact ⟨(by show Value.int _ _ = Value.int _ _; simp_all [seenK]), (by first | rfl | (congr 1; omega) | simp), trivial⟩
    ·exact (Some'.weak (.take (.nil _)))
  ·have p12 := h12; try simp only [bs] at p12
   have hknk : k = ms.length := by omega
   refine Run.exit rfl ?_
   refine Run.sr ?_
   refine Run.p (.int .i64 (((seenK f l ms k : Nat) : Int))) rfl rfl ?_
   refine Run.p (.int .i64 (((seenK f l ms k : Nat) : Int))) rfl rfl ?_
   refine Run.done ?_
   refine Run.ret ?_
   refine ⟨.int .i64 (((seenK f l ms k : Nat) : Int)), [], Out.one rfl rfl, (Some'.weak (.nil _)), ?_⟩
   show _ = _; rw [hknk]

set_option maxHeartbeats 1000000 in
set_option maxRecDepth 20000 in
theorem l14Code_spec {va : Value} {f : Nat} {l : List Nat} {c2 c3 c4 c5 c6 : Int} {w : World} (h3 : l.length ≤ 3) (hf : f < 128) (hb : ∀ i, nx l i < 8) (ha : Sl w va 1 l.length (ints (nl l))) : Calls Try.prog 91 #[.agg #[va, .int .i64 (f : Int), .int .i64 c2, .int .i64 c3, .int .i64 c4, .int .i64 c5, .int .i64 c6]] w (Post No w fun v _ => v = .int .i64 ((cdS f l l.length : Nat) : Int)) := by
 have hll := nl_length l
 obtain ⟨A, c, rfl, _, _⟩ := ha.form0
 refine enter (n := 22) (args := [.agg #[.slice A (l.length) c, .int .i64 (((f : Nat) : Int)), .int .i64 c2, .int .i64 c3, .int .i64 c4, .int .i64 c5, .int .i64 c6]]) Try.func91 rfl rfl (St.empty _ _) ?_
 refine Run.sr ?_
 refine Run.step rfl (OpStep.box (us := [.slice A (l.length) c, .int .i64 (((f : Nat) : Int)), .int .i64 c2, .int .i64 c3, .int .i64 c4, .int .i64 c5, .int .i64 c6]) rfl fun b1 => ?_)
 refine Run.p (.int .i64 0) rfl rfl ?_
 refine Run.dsr ?_
 refine Run.y (.pointer (some ⟨b1, 1, none⟩)) rfl (OpY.fieldAddr Tfo_77_1 rfl rfl) ?_
 refine Run.y (.int .i64 (((f : Nat) : Int))) rfl (OpY.load1 Tone_3 rfl (Cells.blk (.head _) ⟨rfl, trivial⟩)) ?_
 refine Run.p (.int .i64 (((f : Nat) : Int))) rfl rfl ?_
 refine Run.done ?_
 refine Run.seq ?_
 refine Run.sr ?_
 refine Run.y (.pointer (some ⟨b1, 0, none⟩)) rfl (OpY.fieldAddr Tfo_77_0 rfl rfl) ?_
 refine Run.y (.pointer (some ⟨b1, 0, none⟩)) rfl (OpY.fieldAddr Tfo_28_0 rfl rfl) ?_
 refine Run.y (.slice A (l.length) c) rfl (OpY.load1 Tone_22 rfl (Cells.blk (.head _) ⟨rfl, trivial⟩)) ?_
 refine Run.y (.int .i64 (((l.length : Nat) : Int))) rfl (OpY.len Tsl_22 rfl) ?_
 refine Run.p (.int .i64 0) rfl rfl ?_
 refine Run.done ?_
 refine Run.block ?_
 refine Run.loop (ι := Nat) [3, 5, 12, 13, 14, 15, 16, 17, 18, 19, 20] (fun k => [(3, .int .i64 (((cdS f l k : Nat) : Int))), (12, .int .i64 (((k : Nat) : Int)))]) (fun k => [.blk b1 77 [.slice A (l.length) c, .int .i64 (((f : Nat) : Int)), .int .i64 c2, .int .i64 c3, .int .i64 c4, .int .i64 c5, .int .i64 c6]]) (fun k => k ≤ l.length ∧ (True)) (fun k => l.length - k) 0 ?_ ?_ ?_ ?_
 ·exact ⟨Nat.zero_le _, by first | trivial | (intro i hi; omega)⟩
 ·exact ⟨rfl, rfl, trivial⟩
 ·exact (Some'.weak (.take (.nil _)))
 ·rintro k fr hinv
  show Run _ _ (over _ _ [(3, .int .i64 (((cdS f l k : Nat) : Int))), (12, .int .i64 (((k : Nat) : Int)))] fr) [.blk b1 77 [.slice A (l.length) c, .int .i64 (((f : Nat) : Int)), .int .i64 c2, .int .i64 c3, .int .i64 c4, .int .i64 c5, .int .i64 c6]]
  try dsimp only at hinv
  refine Run.sr ?_
  refine Run.p (.bool (decide ((((k : Nat) : Int)) < (((l.length : Nat) : Int))))) rfl rfl ?_
  refine Run.done ?_
  refine Run.seq ?_
  refine Run.cond (b := decide ((((k : Nat) : Int)) < (((l.length : Nat) : Int)))) rfl (fun h13 => ?_) (fun h13 => ?_)
  ·have p13 := h13; try simp only [bs] at p13
   have hltk : k < l.length := by omega
   obtain ⟨b, o, rfl⟩ := ha.opn (by omega)
   have hcd := cdS_lt hb hf k
   have hk8 : 8 ^ k ≤ 512 := Nat.le_trans (Nat.pow_le_pow_right (by omega) (show k ≤ 3 by omega)) (by decide)
   have hxk := hb k
   refine Run.skip ?_
   refine Run.seq ?_
   refine Run.block ?_
   refine Run.sr ?_
   refine Run.y (.pointer (some ⟨b, o + k, none⟩)) rfl (OpY.index (kk := k) Tsl_22 rfl rfl (by omega) (by omega) (by first | rfl | omega)) ?_
   refine Run.y (.int .i64 (ix (nl l) (k))) rfl (OpY.load1 Tone_3 rfl (Cells.arg (k := k) ha rfl (by omega) (pre1 (by omega)))) ?_
   refine Run.p (.int .i64 (ix (nl l) (k))) rfl rfl ?_
   refine Run.dr ?_
   refine Run.p (.int .i64 (((cdS f l k : Nat) : Int))) rfl rfl ?_
   refine Run.y (.int .i64 (((cdS f l k * 8 : Nat) : Int))) rfl (OpY.shl (n := 3) rfl rfl rfl (by decide) (by push_cast; rfl) (by omega) (by omega)) ?_
   refine Run.p (.int .i64 (ix (nl l) (k))) rfl rfl ?_
   refine Run.y (.int .i64 (((cdS f l k * 8 ||| nx l k : Nat) : Int))) rfl (OpY.orNat rfl rfl rfl (ix_nl _ _) (by omega) (by omega)) ?_
   refine Run.p (.int .i64 (((cdS f l k * 8 ||| nx l k : Nat) : Int))) rfl rfl ?_
   refine Run.done ?_
   refine Run.blockEnd ?_
   refine Run.region ?_
   refine Run.y (.int .i64 ((((k : Nat) : Int)) + 1)) rfl (OpY.add rfl rfl rfl (by omega) (by omega)) ?_
   refine Run.p (.int .i64 ((((k : Nat) : Int)) + 1)) rfl rfl ?_
   refine Run.done ?_
   refine Run.goal ⟨(by repeat (first | exact Same.refl _ _ | refine Same.put rfl ?_ | refine Same.over rfl rfl ?_)), k + 1, ?_, ?_, ?_, ?_⟩
   ·refine ⟨by omega, ?_⟩
    trivial
   ·omega
   ·exact ⟨rfl, (by first | rfl | (congr 1; omega) | simp), trivial⟩
   ·exact (Some'.weak (.takeEq (by first | rfl | simp) (.nil _)))
  ·have p13 := h13; try simp only [bs] at p13
   have hknk : k = l.length := by omega
   refine Run.exit rfl ?_
   refine Run.sr ?_
   refine Run.p (.int .i64 (((cdS f l k : Nat) : Int))) rfl rfl ?_
   refine Run.p (.int .i64 (((cdS f l k : Nat) : Int))) rfl rfl ?_
   refine Run.done ?_
   refine Run.ret ?_
   refine ⟨.int .i64 (((cdS f l k : Nat) : Int)), [], Out.one rfl rfl, (Some'.weak (.nil _)), ?_⟩
   show _ = _; rw [hknk]

end Go.Proofs.Yteehfidjofcfmaa
/- Walks: circuits compared. -/
set_option linter.unusedSimpArgs false
set_option linter.unusedVariables false
namespace Go.Proofs.Yteehfidjofcfmaa
open Go Go.RowKit
namespace EqcT
theorem Tagg_71 : aggOf Try.prog 71 = some 3 := by kernel_rfl
theorem Tcall_72 : callable Try.prog 72 = true := by kernel_rfl
theorem Tfo_38_0 : fieldOff Try.prog 38 0 = some 0 := by kernel_rfl
theorem Tfo_38_1 : fieldOff Try.prog 38 1 = some 1 := by kernel_rfl
theorem Tns_71_3 : numStruct Try.prog 71 3 = true := by kernel_rfl
theorem Tone_3 : oneOf Try.prog 3 = true := by kernel_rfl
theorem Tone_36 : oneOf Try.prog 36 = true := by kernel_rfl
theorem Tsl_36 : sliceOf Try.prog 36 = some (71, 3, 24, [.int .i64 0, .int .i64 0, .int .i64 0]) := by kernel_rfl
end EqcT
open EqcT
def eqG1 (xs ys : List Int) (i : Nat) : Bool := decide ([ix xs (i * 3), ix xs (i * 3 + 1), ix xs (i * 3 + 2)] = [ix ys (i * 3), ix ys (i * 3 + 1), ix ys (i * 3 + 2)])
/-- Two lists of gates are equal. -/
def eqGs (xs : List Int) (n : Nat) (ys : List Int) (m : Nat) : Bool := decide (n = m) && allI (eqG1 xs ys) n
theorem eqGs_ne {xs ys : List Int} {n m : Nat} (h : n ≠ m) : eqGs xs n ys m = false := by simp [eqGs, h]
theorem eqGs_eq {xs ys : List Int} {n m : Nat} (h : n = m) (ha : ∀ i, i < n → eqG1 xs ys i = true) : eqGs xs n ys m = true := by
  simp only [eqGs, Bool.and_eq_true, decide_eq_true_eq]; exact ⟨h, allI_iff.2 ha⟩
theorem eqGs_no {xs ys : List Int} {n m k : Nat} (hk : k < n) (h : eqG1 xs ys k = false) : eqGs xs n ys m = false := by
  cases hb : eqGs xs n ys m with
  | false => rfl
  | true =>
    simp only [eqGs, Bool.and_eq_true] at hb
    rw [allI_iff.1 hb.2 k hk] at h; cases h

set_option maxHeartbeats 1000000 in
set_option maxRecDepth 20000 in
theorem EqualGates_spec {va vb : Value} {n m : Nat} {xs ys : List Int} {w : World} (ha : Sl w va 3 n (ints xs)) (hb : Sl w vb 3 m (ints ys)) : Calls Try.prog 72 #[va, vb] w (Post No w fun v _ => v = .bool (eqGs xs n ys m)) := by
 have hal := ha.len
 have hbl := hb.len
 have han := ha.le
 have hbn := hb.le
 obtain ⟨A, c, rfl, _, _⟩ := ha.form0
 obtain ⟨Ab, cb, rfl, _, _⟩ := hb.form0
 refine enter (n := 26) (args := [.slice A n c, .slice Ab m cb]) Try.func72 rfl rfl (St.empty _ _) ?_
 refine Run.sr ?_
 refine Run.p (.bool false) rfl rfl ?_
 refine Run.done ?_
 refine Run.seq ?_
 refine Run.sr ?_
 refine Run.p (.slice A n c) rfl rfl ?_
 refine Run.y (.int .i64 (((n : Nat) : Int))) rfl (OpY.len Tsl_36 rfl) ?_
 refine Run.p (.slice Ab m cb) rfl rfl ?_
 refine Run.y (.int .i64 (((m : Nat) : Int))) rfl (OpY.len Tsl_36 rfl) ?_
 refine Run.p (.bool ((((n : Nat) : Int)) != (((m : Nat) : Int)))) rfl rfl ?_
 refine Run.done ?_
 refine Run.cond (b := (((n : Nat) : Int)) != (((m : Nat) : Int))) rfl (fun h10 => ?_) (fun h10 => ?_)
 ·have p10 := h10; try simp only [bs] at p10
  have hres : eqGs xs n ys m = false := eqGs_ne (by omega)
  refine Run.sr ?_
  refine Run.p (.bool false) rfl rfl ?_
  refine Run.done ?_
  refine Run.ret ?_
  refine ⟨.bool false, [], Out.one rfl rfl, (Some'.weak (.nil _)), ?_⟩
  show _ = _; rw [hres]
 ·have p10 := h10; try simp only [bs] at p10
  have hnm : n = m := by omega
  refine Run.skip ?_
  refine Run.seq ?_
  refine Run.sr ?_
  refine Run.p (.slice A n c) rfl rfl ?_
  refine Run.y (.int .i64 (((n : Nat) : Int))) rfl (OpY.len Tsl_36 rfl) ?_
  refine Run.p (.int .i64 0) rfl rfl ?_
  refine Run.done ?_
  refine Run.block ?_
  refine Run.loop (ι := Nat) [4, 5, 13, 14, 15, 16, 17, 18, 19, 20, 21, 22, 23, 24, 25] (fun k => [(13, .int .i64 (((k : Nat) : Int)))]) (fun k => []) (fun k => k ≤ n ∧ (∀ i, i < k → eqG1 xs ys i = true)) (fun k => n - k) 0 ?_ ?_ ?_ ?_
  ·exact ⟨Nat.zero_le _, by first | trivial | (intro i hi; omega)⟩
  ·exact ⟨rfl, trivial⟩
  ·exact (Some'.weak (.nil _))
  ·rintro k fr hinv
   show Run _ _ (over _ _ [(13, .int .i64 (((k : Nat) : Int)))] fr) []
   try dsimp only at hinv
   refine Run.sr ?_
   refine Run.p (.bool (decide ((((k : Nat) : Int)) < (((n : Nat) : Int))))) rfl rfl ?_
   refine Run.done ?_
   refine Run.seq ?_
   refine Run.cond (b := decide ((((k : Nat) : Int)) < (((n : Nat) : Int)))) rfl (fun h14 => ?_) (fun h14 => ?_)
   ·have p14 := h14; try simp only [bs] at p14
    have hltk : k < n := by omega
    obtain ⟨b, o, rfl⟩ := ha.opn (by omega)
    obtain ⟨bb, ob, rfl⟩ := hb.opn (by omega)
    refine Run.skip ?_
    refine Run.seq ?_
    refine Run.block ?_
    refine Run.sr ?_
    refine Run.p (.int .i64 (((k : Nat) : Int))) rfl rfl ?_
    refine Run.p (.int .i64 (((k : Nat) : Int))) rfl rfl ?_
    refine Run.done ?_
    refine Run.seq ?_
    refine Run.draws (by kernel_rfl) (by kernel_rfl) ?_
    refine Lex.q (v := .slice (some ⟨b, o, none⟩) n c) rfl (OpQ.y (OpY.pure rfl)) ?_
    refine Lex.q (v := .int .i64 (((k : Nat) : Int))) rfl (OpQ.y (OpY.pure rfl)) ?_
    refine Lex.q (v := .pointer (some ⟨b, o + k * 3, none⟩)) rfl (OpQ.y (OpY.index (kk := k) Tsl_36 rfl rfl (by omega) (by omega) (by first | rfl | omega))) ?_
    refine Lex.q (v := .agg #[.int .i64 (ix xs (k * 3)), .int .i64 (ix xs (k * 3 + 1)), .int .i64 (ix xs (k * 3 + 2))]) rfl (OpQ.y (OpY.loadN (cs := [.int .i64 (ix xs (k * 3)), .int .i64 (ix xs (k * 3 + 1)), .int .i64 (ix xs (k * 3 + 2))]) Tagg_71 rfl (Cells.arg (k := k * 3) ha rfl (by omega) (pre3 (by omega))))) ?_
    refine Lex.q (v := .slice (some ⟨bb, ob, none⟩) m cb) rfl (OpQ.y (OpY.pure rfl)) ?_
    refine Lex.q (v := .int .i64 (((k : Nat) : Int))) rfl (OpQ.y (OpY.pure rfl)) ?_
    refine Lex.q (v := .pointer (some ⟨bb, ob + k * 3, none⟩)) rfl (OpQ.y (OpY.index (kk := k) Tsl_36 rfl rfl (by omega) (by omega) (by first | rfl | omega))) ?_
    refine Lex.q (v := .agg #[.int .i64 (ix ys (k * 3)), .int .i64 (ix ys (k * 3 + 1)), .int .i64 (ix ys (k * 3 + 2))]) rfl (OpQ.y (OpY.loadN (cs := [.int .i64 (ix ys (k * 3)), .int .i64 (ix ys (k * 3 + 1)), .int .i64 (ix ys (k * 3 + 2))]) Tagg_71 rfl (Cells.arg (k := k * 3) hb rfl (by omega) (pre3 (by omega))))) ?_
    refine Lex.q (v := .bool (!decide ([ix xs (k * 3), ix xs (k * 3 + 1), ix xs (k * 3 + 2)] = [ix ys (k * 3), ix ys (k * 3 + 1), ix ys (k * 3 + 2)]))) rfl (OpQ.y (OpY.neStruct (xs := [ix xs (k * 3), ix xs (k * 3 + 1), ix xs (k * 3 + 2)]) (ys := [ix ys (k * 3), ix ys (k * 3 + 1), ix ys (k * 3 + 2)]) Tns_71_3 rfl rfl rfl rfl)) ?_
    refine Lex.done ?_
    refine Run.cond (b := !decide ([ix xs (k * 3), ix xs (k * 3 + 1), ix xs (k * 3 + 2)] = [ix ys (k * 3), ix ys (k * 3 + 1), ix ys (k * 3 + 2)])) rfl (fun h24 => ?_) (fun h24 => ?_)
    ·have p24 := h24; try simp only [bs] at p24
     refine Run.seq ?_
     have hres : eqGs xs n ys m = false := eqGs_no hltk (by rw [eqG1]; exact (Bool.not_eq_true' _).mp h24)
     refine Run.region ?_
     refine Run.p (.bool false) rfl rfl ?_
     refine Run.done ?_
     refine Run.ret ?_
     refine ⟨.bool false, [], Out.one rfl rfl, (Some'.weak (.nil _)), ?_⟩
     show _ = _; rw [hres]
    ·have p24 := h24; try simp only [bs] at p24
     have hgood : eqG1 xs ys k = true := by rw [eqG1]; exact (Bool.not_eq_false' _).mp h24
     refine Run.skip ?_
     refine Run.blockEnd ?_
     refine Run.region ?_
     refine Run.y (.int .i64 ((((k : Nat) : Int)) + 1)) rfl (OpY.add rfl rfl rfl (by omega) (by omega)) ?_
     refine Run.p (.int .i64 ((((k : Nat) : Int)) + 1)) rfl rfl ?_
     refine Run.done ?_
     refine Run.goal ⟨(by repeat (first | exact Same.refl _ _ | refine Same.put rfl ?_ | refine Same.over rfl rfl ?_)), k + 1, ?_, ?_, ?_, ?_⟩
     ·refine ⟨by omega, ?_⟩
      intro i hi
      rcases Nat.lt_succ_iff_lt_or_eq.1 hi with h | h
      ·exact hinv.2 i h
      ·rw [h]; exact hgood
     ·omega
     ·exact ⟨(by first | rfl | (congr 1; omega) | simp), trivial⟩
     ·exact (Some'.weak (.nil _))
   ·have p14 := h14; try simp only [bs] at p14
    have hknk : k = n := by omega
    refine Run.exit rfl ?_
    refine Run.seq ?_
    have hres : eqGs xs n ys m = true := eqGs_eq hnm fun i hi => hinv.2 i (by omega)
    refine Run.region ?_
    refine Run.p (.bool true) rfl rfl ?_
    refine Run.done ?_
    refine Run.ret ?_
    refine ⟨.bool true, [], Out.one rfl rfl, (Some'.weak (.nil _)), ?_⟩
    show _ = _; rw [hres]

set_option maxHeartbeats 1000000 in
set_option maxRecDepth 20000 in
theorem EqualCircuits_spec {N M : Int} {va vb : Value} {n m : Nat} {xs ys : List Int} {w : World} (ha : Sl w va 3 n (ints xs)) (hb : Sl w vb 3 m (ints ys)) : Calls Try.prog 33 #[.agg #[.int .i64 N, va], .agg #[.int .i64 M, vb]] w (Post No w fun v _ => v = .bool ((N == M) && eqGs xs n ys m)) := by
 refine enter (n := 17) (args := [.agg #[.int .i64 N, va], .agg #[.int .i64 M, vb]]) Try.func33 rfl rfl (St.empty _ _) ?_
 refine Run.sr ?_
 refine Run.step rfl (OpStep.box (us := [.int .i64 N, va]) rfl fun b1 => ?_)
 refine Run.step rfl (OpStep.box (us := [.int .i64 M, vb]) rfl fun b2 => ?_)
 refine Run.p (.bool false) rfl rfl ?_
 refine Run.dsr ?_
 refine Run.y (.pointer (some ⟨b1, 0, none⟩)) rfl (OpY.fieldAddr Tfo_38_0 rfl rfl) ?_
 refine Run.y (.int .i64 N) rfl (OpY.load1 Tone_3 rfl (Cells.blk (.tail _ (List.Mem.head _)) ⟨rfl, trivial⟩)) ?_
 refine Run.y (.pointer (some ⟨b2, 0, none⟩)) rfl (OpY.fieldAddr Tfo_38_0 rfl rfl) ?_
 refine Run.y (.int .i64 M) rfl (OpY.load1 Tone_3 rfl (Cells.blk (.head _) ⟨rfl, trivial⟩)) ?_
 refine Run.p (.bool (N == M)) rfl rfl ?_
 rcases Bool.eq_false_or_eq_true (N == M) with h10 | h10
 ·refine Run.q (v := .bool true) rfl (OpQ.y (OpY.moveB rfl h10)) ?_
  have p10 := h10; try simp only [bs] at p10
  refine Run.y (.pointer (some ⟨b1, 1, none⟩)) rfl (OpY.fieldAddr Tfo_38_1 rfl rfl) ?_
  refine Run.y (va) rfl (OpY.load1 Tone_36 rfl (Cells.blk (.tail _ (List.Mem.head _)) ⟨rfl, trivial⟩)) ?_
  refine Run.y (.pointer (some ⟨b2, 1, none⟩)) rfl (OpY.fieldAddr Tfo_38_1 rfl rfl) ?_
  refine Run.y (vb) rfl (OpY.load1 Tone_36 rfl (Cells.blk (.head _) ⟨rfl, trivial⟩)) ?_
  refine Run.q (v := .bool (eqGs xs n ys m)) rfl (OpQ.call (vs := [va, vb]) (caps := []) Tcall_72 rfl rfl (fun w hs => EqualGates_spec (hs.sl ha) (hs.sl hb))) ?_
  refine Run.p (.bool (eqGs xs n ys m)) rfl rfl ?_
  refine Run.p (.bool (eqGs xs n ys m)) rfl rfl ?_
  refine Run.done ?_
  refine Run.ret ?_
  refine ⟨.bool (eqGs xs n ys m), [], Out.one rfl rfl, (Some'.weak (.nil _)), ?_⟩
  show _ = _
  first | rw [h10, Bool.true_and] | rw [h10, Bool.false_and]
 ·refine Run.q (v := .bool false) rfl (OpQ.y (OpY.moveB rfl h10)) ?_
  have p10 := h10; try simp only [bs] at p10
  refine Run.pass rfl ?_
  refine Run.pass rfl ?_
  refine Run.pass rfl ?_
  refine Run.pass rfl ?_
  refine Run.pass rfl ?_
  refine Run.p (.bool false) rfl rfl ?_
  refine Run.p (.bool false) rfl rfl ?_
  refine Run.done ?_
  refine Run.ret ?_
  refine ⟨.bool false, [], Out.one rfl rfl, (Some'.weak (.nil _)), ?_⟩
  show _ = _
  first | rw [h10, Bool.true_and] | rw [h10, Bool.false_and]

end Go.Proofs.Yteehfidjofcfmaa
