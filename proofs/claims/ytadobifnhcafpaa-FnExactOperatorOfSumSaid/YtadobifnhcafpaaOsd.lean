/- Walks: the operator of a path sum, of the reference. -/
import Derived.Test.YtadobifnhcafpaaOsc
import Derived.Test.YtadobifnhcafpaaProg
set_option linter.unusedSimpArgs false
set_option linter.unusedVariables false
namespace Go.Proofs.Ytadobifnhcafpaa
open Go Go.RowKit
namespace OsdT
theorem Tagg_29 : aggOf Try.prog 29 = some 3 := by kernel_rfl
theorem Tagg_35 : aggOf Try.prog 35 = some 6 := by kernel_rfl
theorem Tagg_51 : aggOf Try.prog 51 = some 2 := by kernel_rfl
theorem Tagg_54 : aggOf Try.prog 54 = some 2 := by kernel_rfl
theorem Tagg_56 : aggOf Try.prog 56 = some 4 := by kernel_rfl
theorem Tcall_15 : callable Try.prog 15 = true := by kernel_rfl
theorem Tcall_16 : callable Try.prog 16 = true := by kernel_rfl
theorem Tcall_17 : callable Try.prog 17 = true := by kernel_rfl
theorem Tcall_18 : callable Try.prog 18 = true := by kernel_rfl
theorem Tcall_19 : callable Try.prog 19 = true := by kernel_rfl
theorem Tcall_20 : callable Try.prog 20 = true := by kernel_rfl
theorem Tcall_21 : callable Try.prog 21 = true := by kernel_rfl
theorem Tcall_22 : callable Try.prog 22 = true := by kernel_rfl
theorem Tcall_23 : callable Try.prog 23 = true := by kernel_rfl
theorem Tfo_29_2 : fieldOff Try.prog 29 2 = some 2 := by kernel_rfl
theorem Tfo_35_0 : fieldOff Try.prog 35 0 = some 0 := by kernel_rfl
theorem Tfo_35_1 : fieldOff Try.prog 35 1 = some 1 := by kernel_rfl
theorem Tfo_35_2 : fieldOff Try.prog 35 2 = some 2 := by kernel_rfl
theorem Tfo_35_3 : fieldOff Try.prog 35 3 = some 3 := by kernel_rfl
theorem Tfo_35_4 : fieldOff Try.prog 35 4 = some 4 := by kernel_rfl
theorem Tfo_35_5 : fieldOff Try.prog 35 5 = some 5 := by kernel_rfl
theorem Tfo_47_0 : fieldOff Try.prog 47 0 = some 0 := by kernel_rfl
theorem Tfo_51_0 : fieldOff Try.prog 51 0 = some 0 := by kernel_rfl
theorem Tfo_51_1 : fieldOff Try.prog 51 1 = some 1 := by kernel_rfl
theorem Tint_48 : Try.prog.underlying 48 = some (.int .u64) := by kernel_rfl
theorem Tone_27 : oneOf Try.prog 27 = true := by kernel_rfl
theorem Tone_3 : oneOf Try.prog 3 = true := by kernel_rfl
theorem Tone_32 : oneOf Try.prog 32 = true := by kernel_rfl
theorem Tone_33 : oneOf Try.prog 33 = true := by kernel_rfl
theorem Tone_4 : oneOf Try.prog 4 = true := by kernel_rfl
theorem Tsize_27 : (Try.prog.info? 27).map (·.size) = some 1 := by kernel_rfl
theorem Tsize_29 : (Try.prog.info? 29).map (·.size) = some 3 := by kernel_rfl
theorem Tsize_51 : (Try.prog.info? 51).map (·.size) = some 2 := by kernel_rfl
theorem Tsize_56 : (Try.prog.info? 56).map (·.size) = some 4 := by kernel_rfl
theorem Tsl_27 : sliceOf Try.prog 27 = some (61, 5, 40, [.int .i64 0, .int .i64 0, .int .i64 0, .int .i64 0, .int .i64 0]) := by kernel_rfl
theorem Tsl_32 : sliceOf Try.prog 32 = some (51, 2, 16, [.int .i64 0, .int .i64 0]) := by kernel_rfl
theorem Tsl_33 : sliceOf Try.prog 33 = some (54, 2, 16, [.int .i64 0, .int .i64 0]) := by kernel_rfl
theorem Tsl_49 : sliceOf Try.prog 49 = some (56, 4, 32, [.int .i64 0, .int .i64 0, .int .i64 0, .int .i64 0]) := by kernel_rfl
theorem Tsome_3 : (Try.prog.underlying 3).isSome = true := by kernel_rfl
theorem Tzero_29 : zeroOf Try.prog 29 = some [.int .i64 0, .int .i64 0, .slice none 0 0] := by kernel_rfl
theorem Tzero_51 : zeroOf Try.prog 51 = some [.int .i64 0, .int .i64 0] := by kernel_rfl
theorem Tzero_56 : zeroOf Try.prog 56 = some [.int .i64 0, .int .i64 0, .int .i64 0, .int .i64 0] := by kernel_rfl
end OsdT
open OsdT

theorem OpY.rem8 {E : Env} {f : Fr} {H : List Res} {d : Option Tmp} {ty : TypeId} {pos : String} {after : Array Edge} {gd : Option (Nat × Bool)} {t t' : TypeId} {x y : Operand} {a c : Int} (hx : f.eval x = .int .i64 a) (hy : f.eval y = .int .i64 8) (h0 : 0 ≤ a) (h : a % 8 = c) :
    OpY E ⟨d, .binOp .rem t x y t', ty, pos, after, gd⟩ f H (.int .i64 c) := by
  have h2 := OpY.rem (E := E) (H := H) (d := d) (ty := ty) (pos := pos) (after := after) (gd := gd) (t := t) (t' := t') hx hy (by omega) (by omega)
  rwa [h] at h2
theorem repK4 (n k : Nat) : (List.replicate n (List.replicate k (Value.int .i64 0))).flatten = ints (List.replicate (n * k) 0) := repK n k
theorem mxN_succ (cs : List Int) (X : Int) (c : Nat) : (!mxB cs X c || !scB (cr cs c) X) = !mxB cs X (c + 1) := by rw [mxB_succ, Bool.not_and]
theorem upN_succ (b : Bool) (x : R4) (k : Nat) : ((b || !upB x k) || !gdR (rtR (upS x k))) = (b || !upB x (k + 1)) := by rw [upB, Bool.not_and, Bool.or_assoc]

set_option maxHeartbeats 1000000 in
set_option maxRecDepth 20000 in
theorem mostO_spec (a b : Int) (w : World) : Calls Try.prog 22 #[.int .i64 a, .int .i64 b] w (Post No w fun v _ => v = .int .i64 (max a b)) := by
  refine enter (n := 10) (args := [.int .i64 a, .int .i64 b]) Try.func22 rfl rfl (St.empty _ _) ?_
  refine Run.seq ?_
  refine Run.region ?_
  refine Run.q (v := .int .i64 0) rfl (OpQ.y (OpY.pure rfl)) ?_
  refine Run.done ?_
  refine Run.seq ?_
  refine Run.seq ?_
  refine Run.region ?_
  refine Run.q (v := .int .i64 a) rfl (OpQ.y (OpY.pure rfl)) ?_
  refine Run.q (v := .int .i64 b) rfl (OpQ.y (OpY.pure rfl)) ?_
  refine Run.q (v := .bool (decide (a > b))) rfl (OpQ.y (OpY.pure rfl)) ?_
  refine Run.done ?_
  refine Run.cond (b := decide (a > b)) rfl (fun h7 => ?_) (fun h7 => ?_)
  · have p7 := h7; try simp only [bs] at p7
    refine Run.seq ?_
    refine Run.region ?_
    refine Run.q (v := .int .i64 a) rfl (OpQ.y (OpY.pure rfl)) ?_
    refine Run.q (v := .int .i64 a) rfl (OpQ.y (OpY.pure rfl)) ?_
    refine Run.done ?_
    refine Run.ret ?_
    refine ⟨.int .i64 a, [], Out.one rfl rfl, (Some'.weak (.nil _)), ?_⟩
    show _ = _; congr 1; omega
  · have p7 := h7; try simp only [bs] at p7
    refine Run.skip ?_
    refine Run.seq ?_
    refine Run.region ?_
    refine Run.q (v := .int .i64 b) rfl (OpQ.y (OpY.pure rfl)) ?_
    refine Run.q (v := .int .i64 b) rfl (OpQ.y (OpY.pure rfl)) ?_
    refine Run.done ?_
    refine Run.ret ?_
    refine ⟨.int .i64 b, [], Out.one rfl rfl, (Some'.weak (.nil _)), ?_⟩
    show _ = _; congr 1; omega

set_option maxHeartbeats 1000000 in
set_option maxRecDepth 20000 in
theorem l2Cmatrix_spec {bx n : Nat} {bb : Bool} {v : Value} {a b : Int} {xs : List Value} {w : World} (h : St (Of [.blk bx 47 [.bool bb], .own v 61 5 n xs]) w w [.blk bx 47 [.bool bb], .own v 61 5 n xs]) : Calls Try.prog 23 #[.pointer (some ⟨bx, 0, none⟩), .agg #[.int .i64 a, .int .i64 b, v]] w (Post (Of [.blk bx 47 [.bool bb], .own v 61 5 n xs]) w fun r H => ∃ u, r = .tuple #[.agg #[.int .i64 (if bb = true then 0 else a), .int .i64 (if bb = true then 0 else b), u], .bool (!bb)] ∧ H = [.blk bx 47 [.bool bb], .own u 61 5 (if bb = true then 0 else n) (if bb = true then [] else xs)]) := by
  refine enter (n := 12) (args := [.pointer (some ⟨bx, 0, none⟩), .agg #[.int .i64 a, .int .i64 b, v]]) Try.func23 rfl rfl (h) ?_
  refine Run.seq ?_
  refine Run.region ?_
  refine Run.step rfl (OpStep.box (us := [.int .i64 a, .int .i64 b, v]) rfl fun b1 => ?_)
  refine Run.step rfl (OpStep.alloc (zs := [.int .i64 0, .int .i64 0, .slice none 0 0]) Tzero_29 fun b2 => ?_)
  refine Run.q (v := .bool false) rfl (OpQ.y (OpY.pure rfl)) ?_
  refine Run.done ?_
  refine Run.seq ?_
  refine Run.seq ?_
  refine Run.region ?_
  refine Run.q (v := .pointer (some ⟨bx, 0, none⟩)) rfl (OpQ.y (OpY.pure rfl)) ?_
  refine Run.q (v := .pointer (some ⟨bx, 0, none⟩)) rfl (OpQ.y (OpY.nilCheck rfl)) ?_
  refine Run.q (v := .pointer (some ⟨bx, 0, none⟩)) rfl (OpQ.y (OpY.fieldAddr Tfo_47_0 rfl rfl)) ?_
  refine Run.q (v := .bool bb) rfl (OpQ.y (OpY.load1 Tone_4 rfl (Cells.blk (.tail _ (.tail _ (List.Mem.head _))) ⟨rfl, trivial⟩))) ?_
  refine Run.done ?_
  refine Run.cond (b := bb) rfl (fun h9 => ?_) (fun h9 => ?_)
  · have p9 := h9; try simp only [bs] at p9
    have hb : bb = true := by simpa using p9
    refine Run.seq ?_
    refine Run.weak (H' := [.own (.slice none 0 0) 61 5 0 ([]), .blk b2 29 [.int .i64 0, .int .i64 0, .slice none 0 0], .blk b1 29 [.int .i64 a, .int .i64 b, v], .blk bx 47 [.bool bb], .own v 61 5 n xs]) (Weak.nilOwn _ _) ?_ ⟨_, _, rfl, fun _ => nofun, fun _ => nofun⟩
    refine Run.region ?_
    refine Run.q (v := .agg #[.int .i64 0, .int .i64 0, .slice none 0 0]) rfl (OpQ.y (OpY.build (cs := [.int .i64 0, .int .i64 0, .slice none 0 0]) (by kernel_rfl))) ?_
    refine Run.step rfl (OpStep.storeAll (us := [.int .i64 0, .int .i64 0, .slice none 0 0]) Tsize_29 rfl rfl rfl (.there _ (.here _)) rfl ?_)
    refine Run.q (v := .bool false) rfl (OpQ.y (OpY.pure rfl)) ?_
    refine Run.done ?_
    refine Run.ret ?_
    refine ⟨.tuple #[.agg #[.int .i64 0, .int .i64 0, .slice none 0 0], .bool false], [.blk bx 47 [.bool bb], .own (.slice none 0 0) 61 5 ((if bb = true then 0 else n)) ((if bb = true then [] else xs))], Out.cell2 (cs := [.int .i64 0, .int .i64 0, .slice none 0 0]) rfl Tagg_29 rfl (Cells.blk (.tail _ (List.Mem.head _)) ⟨rfl, rfl, rfl, trivial⟩) rfl, ((Weak.front [.own (.slice none 0 0) 61 5 0 ([]), .blk b2 29 [.int .i64 0, .int .i64 0, .slice none 0 0], .blk b1 29 [.int .i64 a, .int .i64 b, v]] (.blk bx 47 [.bool bb]) [.own v 61 5 n xs]).trans (Some'.weak (.take (.takeEq (by rw [hb]; rfl) (.nil _))))), ?_⟩
    exact ⟨_, by rw [hb]; rfl, rfl⟩
  · have p9 := h9; try simp only [bs] at p9
    have hb : bb = false := by simpa using p9
    refine Run.skip ?_
    refine Run.seq ?_
    refine Run.region ?_
    refine Run.q (v := .agg #[.int .i64 a, .int .i64 b, v]) rfl (OpQ.y (OpY.loadN (cs := [.int .i64 a, .int .i64 b, v]) Tagg_29 rfl (Cells.blk (.tail _ (List.Mem.head _)) ⟨rfl, rfl, rfl, trivial⟩))) ?_
    refine Run.formOwn (.tail _ (.tail _ (.tail _ (List.Mem.head _)))) (fun A_v1 c_v1 hv hcapc_v1 hmaxc_v1 => ?_) (fun _ _ _ => ⟨nofun, nofun, nofun⟩)
    subst hv
    refine Run.step rfl (OpStep.storeAll (us := [.int .i64 a, .int .i64 b, .slice A_v1 n c_v1]) Tsize_29 rfl rfl rfl (.here _) rfl ?_)
    refine Run.q (v := .bool true) rfl (OpQ.y (OpY.pure rfl)) ?_
    refine Run.done ?_
    refine Run.ret ?_
    refine ⟨.tuple #[.agg #[.int .i64 a, .int .i64 b, .slice A_v1 n c_v1], .bool true], [.blk bx 47 [.bool bb], .own (.slice A_v1 n c_v1) 61 5 ((if bb = true then 0 else n)) ((if bb = true then [] else xs))], Out.cell2 (cs := [.int .i64 a, .int .i64 b, .slice A_v1 n c_v1]) rfl Tagg_29 rfl (Cells.blk (.head _) ⟨rfl, rfl, rfl, trivial⟩) rfl, (Some'.weak (.skip (.skip (.take (.takeEq (by rw [hb]; rfl) (.nil _)))))), ?_⟩
    exact ⟨_, by rw [hb]; rfl, rfl⟩

set_option maxHeartbeats 1500000 in
set_option maxRecDepth 20000 in
theorem sOperatorOfSum_spec {I V R F : Int} {vt vo : Value} {nt no : Nat} {ts os : List Int} {w : World} (ht : Sl w vt 2 nt (ints ts)) (ho : Sl w vo 2 no (ints os)) (hnt9 : nt ≤ 1048576) : Calls Try.prog 5 #[.agg #[.int .i64 I, .int .i64 V, .int .i64 R, .int .i64 F, vt, vo]] w (Post No w fun v H => ∃ u, v = .tuple #[.agg #[.int .i64 (opD (osB I V R F ts nt os no) (osD I)), .int .i64 (opD (osB I V R F ts nt os no) (osD I)), u], .bool (osB I V R F ts nt os no)] ∧ H = [.own u 61 5 (opN (osB I V R F ts nt os no) (osD I)) (ints (osL I V R F ts nt os no))]) := by
  have htl := ht.len
  have hol := ho.len
  obtain ⟨At, ct, rfl, _, _⟩ := ht.form0
  obtain ⟨Ao, co, rfl, _, _⟩ := ho.form0
  refine enter (n := 151) (args := [.agg #[.int .i64 I, .int .i64 V, .int .i64 R, .int .i64 F, .slice At nt ct, .slice Ao no co]]) Try.func5 rfl rfl (St.empty _ _) ?_
  refine Run.seq ?_
  refine Run.region ?_
  refine Run.step rfl (OpStep.box (us := [.int .i64 I, .int .i64 V, .int .i64 R, .int .i64 F, .slice At nt ct, .slice Ao no co]) rfl fun b1 => ?_)
  refine Run.step rfl (OpStep.alloc (zs := [.int .i64 0, .int .i64 0, .slice none 0 0]) Tzero_29 fun b2 => ?_)
  refine Run.q (v := .bool false) rfl (OpQ.y (OpY.pure rfl)) ?_
  refine Run.done ?_
  refine Run.seq ?_
  refine Run.seq ?_
  refine Run.region ?_
  refine Run.q (v := .agg #[.int .i64 I, .int .i64 V, .int .i64 R, .int .i64 F, .slice At nt ct, .slice Ao no co]) rfl (OpQ.y (OpY.loadN (cs := [.int .i64 I, .int .i64 V, .int .i64 R, .int .i64 F, .slice At nt ct, .slice Ao no co]) Tagg_35 rfl (Cells.blk (.tail _ (List.Mem.head _)) ⟨rfl, rfl, rfl, rfl, rfl, rfl, trivial⟩))) ?_
  refine Run.q (v := .bool (psOk I V R F ts nt os no)) rfl (OpQ.call (vs := [.agg #[.int .i64 I, .int .i64 V, .int .i64 R, .int .i64 F, .slice At nt ct, .slice Ao no co]]) (caps := []) Tcall_15 rfl rfl (fun w hs => l21Valid_spec (hs.sl ht) (hs.sl ho))) ?_
  refine Run.q (v := .bool (!(psOk I V R F ts nt os no))) rfl (OpQ.y (OpY.pure rfl)) ?_
  rcases Bool.eq_false_or_eq_true (!(psOk I V R F ts nt os no)) with h21 | h21
  · refine Run.q (v := .bool true) rfl (OpQ.y (OpY.moveB rfl h21)) ?_
    have p21 := h21; try simp only [bs] at p21
    refine Run.pass rfl ?_
    refine Run.pass rfl ?_
    refine Run.pass rfl ?_
    refine Run.pass rfl ?_
    refine Run.pass rfl ?_
    refine Run.pass rfl ?_
    refine Run.q (v := .bool true) rfl (OpQ.y (OpY.pure rfl)) ?_
    refine Run.done ?_
    refine Run.cond (b := true) rfl (fun _ => ?_) (fun h => nomatch h)
    refine Run.seq ?_
    have hnb : osB I V R F ts nt os no = false := osB_no (by first | (intro h; have := h.1; simp_all; done) | (intro h; have := h.2; omega) | (intro h; simp_all; omega))
    refine Run.weak (H' := [.own (.slice none 0 0) 61 5 0 ([]), .blk b2 29 [.int .i64 0, .int .i64 0, .slice none 0 0], .blk b1 35 [.int .i64 I, .int .i64 V, .int .i64 R, .int .i64 F, .slice At nt ct, .slice Ao no co]]) (Weak.nilOwn _ _) ?_ ⟨_, _, rfl, fun _ => nofun, fun _ => nofun⟩
    refine Run.region ?_
    refine Run.q (v := .agg #[.int .i64 0, .int .i64 0, .slice none 0 0]) rfl (OpQ.y (OpY.build (cs := [.int .i64 0, .int .i64 0, .slice none 0 0]) (by kernel_rfl))) ?_
    refine Run.step rfl (OpStep.storeAll (us := [.int .i64 0, .int .i64 0, .slice none 0 0]) Tsize_29 rfl rfl rfl (.there _ (.here _)) rfl ?_)
    refine Run.q (v := .bool false) rfl (OpQ.y (OpY.pure rfl)) ?_
    refine Run.done ?_
    refine Run.ret ?_
    refine ⟨.tuple #[.agg #[.int .i64 0, .int .i64 0, .slice none 0 0], .bool false], [.own (.slice none 0 0) 61 5 (opN (osB I V R F ts nt os no) (osD I)) (ints (osL I V R F ts nt os no))], Out.cell2 (cs := [.int .i64 0, .int .i64 0, .slice none 0 0]) rfl Tagg_29 rfl (Cells.blk (.tail _ (List.Mem.head _)) ⟨rfl, rfl, rfl, trivial⟩) rfl, (Some'.weak (.takeEq (by first | (rw [hnb]; rfl) | (rw [osL, hnb]; rfl) | (rw [osL, hbe, osC, ← hDe, ← hAe, hcn]; cases mxB (cnS (ocC I os no D) (ocP ts F nt) (D * D) a) R (D * D) <;> rfl) | (rw [hbe, ← hDe, hcn]; cases mxB (cnS (ocC I os no D) (ocP ts F nt) (D * D) a) R (D * D) <;> rfl)) (.nil _))), ?_⟩
    first | exact ⟨_, by rw [hnb]; rfl, rfl⟩ | exact ⟨_, by rw [hbe, ← hDe, hcn]; cases mxB (cnS (ocC I os no D) (ocP ts F nt) (D * D) a) R (D * D) <;> rfl, rfl⟩
  · refine Run.q (v := .bool false) rfl (OpQ.y (OpY.moveB rfl h21)) ?_
    have p21 := h21; try simp only [bs] at p21
    have hok : psOk I V R F ts nt os no = true := by simpa using p21
    have hpf0 := psF_of hok
    have hhd := psHead_iff (I := I) (V := V) (R := R) (F := F) (no := no) (by simp only [psOk, Bool.and_eq_true] at hok; exact hok.1.1)
    refine Run.q (v := .pointer (some ⟨b1, 0, none⟩)) rfl (OpQ.y (OpY.fieldAddr Tfo_35_0 rfl rfl)) ?_
    refine Run.q (v := .int .i64 I) rfl (OpQ.y (OpY.load1 Tone_3 rfl (Cells.blk (.tail _ (List.Mem.head _)) ⟨rfl, trivial⟩))) ?_
    refine Run.q (v := .pointer (some ⟨b1, 1, none⟩)) rfl (OpQ.y (OpY.fieldAddr Tfo_35_1 rfl rfl)) ?_
    refine Run.q (v := .int .i64 V) rfl (OpQ.y (OpY.load1 Tone_3 rfl (Cells.blk (.tail _ (List.Mem.head _)) ⟨rfl, trivial⟩))) ?_
    refine Run.q (v := .int .i64 (I + V)) rfl (OpQ.y (OpY.add rfl rfl rfl (by omega) (by omega))) ?_
    refine Run.q (v := .bool (decide ((I + V) > 10))) rfl (OpQ.y (OpY.pure rfl)) ?_
    refine Run.q (v := .bool (decide ((I + V) > 10))) rfl (OpQ.y (OpY.pure rfl)) ?_
    refine Run.done ?_
    refine Run.cond (b := decide ((I + V) > 10)) rfl (fun h28 => ?_) (fun h28 => ?_)
    · have p28 := h28; try simp only [bs] at p28
      refine Run.seq ?_
      have hnb : osB I V R F ts nt os no = false := osB_no (by first | (intro h; have := h.1; simp_all; done) | (intro h; have := h.2; omega) | (intro h; simp_all; omega))
      refine Run.weak (H' := [.own (.slice none 0 0) 61 5 0 ([]), .blk b2 29 [.int .i64 0, .int .i64 0, .slice none 0 0], .blk b1 35 [.int .i64 I, .int .i64 V, .int .i64 R, .int .i64 F, .slice At nt ct, .slice Ao no co]]) (Weak.nilOwn _ _) ?_ ⟨_, _, rfl, fun _ => nofun, fun _ => nofun⟩
      refine Run.region ?_
      refine Run.q (v := .agg #[.int .i64 0, .int .i64 0, .slice none 0 0]) rfl (OpQ.y (OpY.build (cs := [.int .i64 0, .int .i64 0, .slice none 0 0]) (by kernel_rfl))) ?_
      refine Run.step rfl (OpStep.storeAll (us := [.int .i64 0, .int .i64 0, .slice none 0 0]) Tsize_29 rfl rfl rfl (.there _ (.here _)) rfl ?_)
      refine Run.q (v := .bool false) rfl (OpQ.y (OpY.pure rfl)) ?_
      refine Run.done ?_
      refine Run.ret ?_
      refine ⟨.tuple #[.agg #[.int .i64 0, .int .i64 0, .slice none 0 0], .bool false], [.own (.slice none 0 0) 61 5 (opN (osB I V R F ts nt os no) (osD I)) (ints (osL I V R F ts nt os no))], Out.cell2 (cs := [.int .i64 0, .int .i64 0, .slice none 0 0]) rfl Tagg_29 rfl (Cells.blk (.tail _ (List.Mem.head _)) ⟨rfl, rfl, rfl, trivial⟩) rfl, (Some'.weak (.takeEq (by first | (rw [hnb]; rfl) | (rw [osL, hnb]; rfl) | (rw [osL, hbe, osC, ← hDe, ← hAe, hcn]; cases mxB (cnS (ocC I os no D) (ocP ts F nt) (D * D) a) R (D * D) <;> rfl) | (rw [hbe, ← hDe, hcn]; cases mxB (cnS (ocC I os no D) (ocP ts F nt) (D * D) a) R (D * D) <;> rfl)) (.nil _))), ?_⟩
      first | exact ⟨_, by rw [hnb]; rfl, rfl⟩ | exact ⟨_, by rw [hbe, ← hDe, hcn]; cases mxB (cnS (ocC I os no D) (ocP ts F nt) (D * D) a) R (D * D) <;> rfl, rfl⟩
    · have p28 := h28; try simp only [bs] at p28
      refine Run.skip ?_
      refine Run.seq ?_
      have hpf := psF_of (by assumption : psOk I V R F ts nt os no = true)
      have hfa := osF_of (V := V) hpf.hI ⟨hpf.hV, by omega⟩
      obtain ⟨D, hDe⟩ : ∃ D : Nat, D = osD I := ⟨_, rfl⟩
      obtain ⟨AA, hAe⟩ : ∃ AA : Nat, AA = 2 ^ (I + V).toNat := ⟨_, rfl⟩
      have hbe := osB_yes (by assumption : psOk I V R F ts nt os no = true) (by omega)
      unfold osC at hbe
      rw [← hDe, ← hAe] at hfa hbe
      obtain ⟨hI, hV, hD1, hA1, hD, hA⟩ := hfa
      have hR := hpf.hR
      have hF := hpf.hF
      have hno := hpf.ho
      have hrng : ∀ a, a < AA → ocC I os no D a < D * D ∧ ocP ts F nt a < 8 := fun a _ => ⟨(oc_spec hpf hDe a).1.1, (oc_spec hpf hDe a).2.1⟩
      refine Run.region ?_
      refine Run.q (v := .agg #[.bool false]) rfl (OpQ.y (OpY.build (cs := [.bool false]) (by kernel_rfl))) ?_
      refine Run.step rfl (OpStep.box (us := [.bool false]) rfl fun b3 => ?_)
      refine Run.q (v := .pointer (some ⟨b3, 0, none⟩)) rfl (OpQ.y (OpY.pure rfl)) ?_
      refine Run.done ?_
      refine Run.seq ?_
      refine Run.region ?_
      refine Run.q (v := .pointer (some ⟨b1, 0, none⟩)) rfl (OpQ.y (OpY.fieldAddr Tfo_35_0 rfl rfl)) ?_
      refine Run.q (v := .int .i64 I) rfl (OpQ.y (OpY.load1 Tone_3 rfl (Cells.blk (.tail _ (.tail _ (List.Mem.head _))) ⟨rfl, trivial⟩))) ?_
      refine Run.q (v := .int .u64 I) rfl (OpQ.y (OpY.convIntEq Tsome_3 Tint_48 rfl (by rw [IntKind.wrap_u64]; omega))) ?_
      refine Run.q (v := .int .i64 (((D : Nat) : Int))) rfl (OpQ.y (OpY.shl (n := I.toNat) rfl rfl (by omega) (by omega) hD1 (by omega) (by omega))) ?_
      refine Run.q (v := .int .i64 (((D : Nat) : Int))) rfl (OpQ.y (OpY.pure rfl)) ?_
      refine Run.done ?_
      refine Run.seq ?_
      refine Run.region ?_
      refine Run.q (v := .int .i64 (((D : Nat) : Int))) rfl (OpQ.y (OpY.pure rfl)) ?_
      refine Run.q (v := .int .i64 (((D : Nat) : Int))) rfl (OpQ.y (OpY.pure rfl)) ?_
      refine Run.q (v := .int .i64 (((D * D : Nat) : Int))) rfl (OpQ.y (OpY.mul rfl rfl (by push_cast; rfl) (by omega) (by omega))) ?_
      refine Run.step rfl (OpStep.makeSlice (n := D * D) Tsl_49 rfl (by decide) (by first | rfl | omega) (by first | rfl | omega) (by omega) (by simp only [maxLen]; omega) fun b4 => ?_)
      refine Run.q (v := .slice (some ⟨b4, 0, none⟩) (D * D) (D * D)) rfl (OpQ.y (OpY.pure rfl)) ?_
      refine Run.done ?_
      refine Run.seq ?_
      refine Run.seq ?_
      refine Run.region ?_
      refine Run.q (v := .int .i64 0) rfl (OpQ.y (OpY.pure rfl)) ?_
      refine Run.done ?_
      refine Run.block ?_
      refine Run.loop (ι := Nat) ([7, 8, 10, 11, 12, 13, 40, 41, 42, 43, 44, 45, 46, 47, 48, 49, 50, 51, 52, 53, 54, 55, 56, 57, 58, 59, 60, 61, 62, 63, 64, 65, 66, 67, 68, 69, 70, 71, 72, 73, 74, 75, 76, 77, 78, 79, 80, 81, 82, 83] ++ [84, 85, 86, 87, 88, 89, 90, 91, 92, 93, 94, 95, 96, 97, 98, 99, 100, 101, 102, 103, 104, 105, 106, 107, 108, 109, 110, 111, 112, 113, 114, 115]) (fun a => [(7, .int .i64 (((a : Nat) : Int)))]) (fun a => [.own (.slice (some ⟨b4, 0, none⟩) (D * D) (D * D)) 56 4 (D * D) (ints (smS (ocC I os no D) (ocP ts F nt) (D * D) a)), .blk b3 47 [.bool false], .blk b2 29 [.int .i64 0, .int .i64 0, .slice none 0 0], .blk b1 35 [.int .i64 I, .int .i64 V, .int .i64 R, .int .i64 F, .slice At nt ct, .slice Ao no co]]) (fun a => a ≤ AA) (fun a => AA - a) 0 ?_ ?_ ?_ ?_
      · exact Nat.zero_le _
      · exact ⟨rfl, trivial⟩
      · exact (Some'.weak (.takeEq (by first | rfl | exact congrArg _ (repK4 _ 4)) (.take (.take (.take (.nil _))))))
      · rintro a fr hinv
        show Run _ _ (over _ _ [(7, .int .i64 (((a : Nat) : Int)))] fr) [.own (.slice (some ⟨b4, 0, none⟩) (D * D) (D * D)) 56 4 (D * D) (ints (smS (ocC I os no D) (ocP ts F nt) (D * D) a)), .blk b3 47 [.bool false], .blk b2 29 [.int .i64 0, .int .i64 0, .slice none 0 0], .blk b1 35 [.int .i64 I, .int .i64 V, .int .i64 R, .int .i64 F, .slice At nt ct, .slice Ao no co]]
        try dsimp only at hinv
        refine Run.seq ?_
        refine Run.seq ?_
        refine Run.region ?_
        refine Run.q (v := .int .i64 (((a : Nat) : Int))) rfl (OpQ.y (OpY.pure rfl)) ?_
        refine Run.q (v := .pointer (some ⟨b1, 0, none⟩)) rfl (OpQ.y (OpY.fieldAddr Tfo_35_0 rfl rfl)) ?_
        refine Run.q (v := .int .i64 I) rfl (OpQ.y (OpY.load1 Tone_3 rfl (Cells.blk (.tail _ (.tail _ (.tail _ (List.Mem.head _)))) ⟨rfl, trivial⟩))) ?_
        refine Run.q (v := .pointer (some ⟨b1, 1, none⟩)) rfl (OpQ.y (OpY.fieldAddr Tfo_35_1 rfl rfl)) ?_
        refine Run.q (v := .int .i64 V) rfl (OpQ.y (OpY.load1 Tone_3 rfl (Cells.blk (.tail _ (.tail _ (.tail _ (List.Mem.head _)))) ⟨rfl, trivial⟩))) ?_
        refine Run.q (v := .int .i64 (I + V)) rfl (OpQ.y (OpY.add rfl rfl rfl (by omega) (by omega))) ?_
        refine Run.q (v := .int .u64 (I + V)) rfl (OpQ.y (OpY.convIntEq Tsome_3 Tint_48 rfl (by rw [IntKind.wrap_u64]; omega))) ?_
        refine Run.q (v := .int .i64 (((AA : Nat) : Int))) rfl (OpQ.y (OpY.shl (n := (I + V).toNat) rfl rfl (by omega) (by omega) hA1 (by omega) (by omega))) ?_
        refine Run.q (v := .bool (decide ((((a : Nat) : Int)) < (((AA : Nat) : Int))))) rfl (OpQ.y (OpY.pure rfl)) ?_
        refine Run.done ?_
        refine Run.cond (b := decide ((((a : Nat) : Int)) < (((AA : Nat) : Int)))) rfl (fun h48 => ?_) (fun h48 => ?_)
        · have p48 := h48; try simp only [bs] at p48
          have ha : a < AA := by omega
          have hoc := oc_spec hpf hDe a
          obtain ⟨sD, hsD⟩ : ∃ sD : Int, stS os a no * ((D : Nat) : Int) = sD := ⟨_, rfl⟩
          rw [hsD] at hoc
          have hcr := coS_range a I.toNat
          have hst := stS_range hpf a no (Nat.le_refl _)
          have hs0 : 0 ≤ sD := by rw [← hsD]; exact Int.mul_nonneg hst.1 (by omega)
          have hlen : (smS (ocC I os no D) (ocP ts F nt) (D * D) a).length = D * D * 4 := smS_length ..
          have hlim : Lim (r4 (smS (ocC I os no D) (ocP ts F nt) (D * D) a) (ocC I os no D a)) := by rw [sm_cn hrng a (by omega) _ hoc.1.1]; exact gd_lim (cr_lim (by omega) _)
          refine Run.skip ?_
          refine Run.seq ?_
          refine Run.block ?_
          refine Run.seq ?_
          refine Run.region ?_
          refine Run.q (v := .pointer (some ⟨b1, 3, none⟩)) rfl (OpQ.y (OpY.fieldAddr Tfo_35_3 rfl rfl)) ?_
          refine Run.q (v := .int .i64 F) rfl (OpQ.y (OpY.load1 Tone_3 rfl (Cells.blk (.tail _ (.tail _ (.tail _ (List.Mem.head _)))) ⟨rfl, trivial⟩))) ?_
          refine Run.q (v := .int .i64 F) rfl (OpQ.y (OpY.pure rfl)) ?_
          refine Run.done ?_
          refine Run.seq ?_
          refine Run.seq ?_
          refine Run.region ?_
          refine Run.q (v := .pointer (some ⟨b1, 4, none⟩)) rfl (OpQ.y (OpY.fieldAddr Tfo_35_4 rfl rfl)) ?_
          refine Run.q (v := .slice At nt ct) rfl (OpQ.y (OpY.load1 Tone_32 rfl (Cells.blk (.tail _ (.tail _ (.tail _ (List.Mem.head _)))) ⟨rfl, trivial⟩))) ?_
          refine Run.q (v := .int .i64 (((nt : Nat) : Int))) rfl (OpQ.y (OpY.len Tsl_32 rfl)) ?_
          refine Run.q (v := .int .i64 0) rfl (OpQ.y (OpY.pure rfl)) ?_
          refine Run.done ?_
          refine Run.block ?_
          refine Run.loop (ι := Nat) [8, 10, 56, 57, 58, 59, 60, 61, 62, 63, 64, 65, 66, 67, 68, 69, 70, 71] (fun k => [(8, .int .i64 (pwS ts F a k)), (56, .int .i64 (((k : Nat) : Int)))]) (fun k => [.own (.slice (some ⟨b4, 0, none⟩) (D * D) (D * D)) 56 4 (D * D) (ints (smS (ocC I os no D) (ocP ts F nt) (D * D) a)), .blk b3 47 [.bool false], .blk b2 29 [.int .i64 0, .int .i64 0, .slice none 0 0], .blk b1 35 [.int .i64 I, .int .i64 V, .int .i64 R, .int .i64 F, .slice At nt ct, .slice Ao no co]]) (fun k => k ≤ nt ∧ (True)) (fun k => nt - k) 0 ?_ ?_ ?_ ?_
          · exact ⟨Nat.zero_le _, by first | trivial | (intro i hi; omega)⟩
          · exact ⟨rfl, rfl, trivial⟩
          · exact (Some'.weak (.take (.take (.take (.take (.nil _))))))
          · rintro k fr hinv
            show Run _ _ (over _ _ [(8, .int .i64 (pwS ts F a k)), (56, .int .i64 (((k : Nat) : Int)))] fr) [.own (.slice (some ⟨b4, 0, none⟩) (D * D) (D * D)) 56 4 (D * D) (ints (smS (ocC I os no D) (ocP ts F nt) (D * D) a)), .blk b3 47 [.bool false], .blk b2 29 [.int .i64 0, .int .i64 0, .slice none 0 0], .blk b1 35 [.int .i64 I, .int .i64 V, .int .i64 R, .int .i64 F, .slice At nt ct, .slice Ao no co]]
            try dsimp only at hinv
            refine Run.seq ?_
            refine Run.region ?_
            refine Run.q (v := .bool (decide ((((k : Nat) : Int)) < (((nt : Nat) : Int))))) rfl (OpQ.y (OpY.pure rfl)) ?_
            refine Run.done ?_
            refine Run.seq ?_
            refine Run.cond (b := decide ((((k : Nat) : Int)) < (((nt : Nat) : Int)))) rfl (fun h57 => ?_) (fun h57 => ?_)
            · have p57 := h57; try simp only [bs] at p57
              have hltk : k < nt := by omega
              obtain ⟨bt, ot, rfl⟩ := ht.opn (by omega)
              have hp := pwS_range hpf a k (by omega)
              have hk2 := hpf.ht k hltk
              refine Run.skip ?_
              refine Run.seq ?_
              refine Run.block ?_
              refine Run.seq ?_
              refine Run.region ?_
              refine Run.q (v := .pointer (some ⟨bt, ot + k * 2, none⟩)) rfl (OpQ.y (OpY.index (kk := k) Tsl_32 rfl rfl (by omega) (by omega) (by first | rfl | omega))) ?_
              refine Run.q (v := .agg #[.int .i64 (ix ts (k * 2)), .int .i64 (ix ts (k * 2 + 1))]) rfl (OpQ.y (OpY.loadN (cs := [.int .i64 (ix ts (k * 2)), .int .i64 (ix ts (k * 2 + 1))]) Tagg_51 rfl (Cells.arg (k := k * 2) ht rfl (by omega) (pre2 (by omega))))) ?_
              refine Run.step rfl (OpStep.alloc (zs := [.int .i64 0, .int .i64 0]) Tzero_51 fun b5 => ?_)
              refine Run.step rfl (OpStep.storeAll (us := [.int .i64 (ix ts (k * 2)), .int .i64 (ix ts (k * 2 + 1))]) Tsize_51 rfl rfl rfl (.here _) rfl ?_)
              refine Run.done ?_
              refine Run.seq ?_
              refine Run.region ?_
              refine Run.q (v := .pointer (some ⟨b5, 0, none⟩)) rfl (OpQ.y (OpY.fieldAddr Tfo_51_0 rfl rfl)) ?_
              refine Run.q (v := .int .i64 (ix ts (k * 2))) rfl (OpQ.y (OpY.load1 Tone_3 rfl (Cells.blk (.head _) ⟨rfl, trivial⟩))) ?_
              refine Run.q (v := .int .i64 (((a : Nat) : Int))) rfl (OpQ.y (OpY.pure rfl)) ?_
              refine Run.q (v := .int .i64 (andI a (ix ts (k * 2)))) rfl (OpQ.y (OpY.andEq rfl rfl (andI_comm (by omega) (by omega) hk2.1.2))) ?_
              refine Run.q (v := .pointer (some ⟨b5, 0, none⟩)) rfl (OpQ.y (OpY.fieldAddr Tfo_51_0 rfl rfl)) ?_
              refine Run.q (v := .int .i64 (ix ts (k * 2))) rfl (OpQ.y (OpY.load1 Tone_3 rfl (Cells.blk (.head _) ⟨rfl, trivial⟩))) ?_
              refine Run.q (v := .bool ((andI a (ix ts (k * 2))) == (ix ts (k * 2)))) rfl (OpQ.y (OpY.pure rfl)) ?_
              refine Run.done ?_
              refine Run.cond (b := (andI a (ix ts (k * 2))) == (ix ts (k * 2))) rfl (fun h66 => ?_) (fun h66 => ?_)
              · have p66 := h66; try simp only [bs] at p66
                refine Run.region ?_
                refine Run.q (v := .int .i64 (pwS ts F a k)) rfl (OpQ.y (OpY.pure rfl)) ?_
                refine Run.q (v := .pointer (some ⟨b5, 1, none⟩)) rfl (OpQ.y (OpY.fieldAddr Tfo_51_1 rfl rfl)) ?_
                refine Run.q (v := .int .i64 (ix ts (k * 2 + 1))) rfl (OpQ.y (OpY.load1 Tone_3 rfl (Cells.blk (.head _) ⟨rfl, trivial⟩))) ?_
                refine Run.q (v := .int .i64 ((pwS ts F a k) + (ix ts (k * 2 + 1)))) rfl (OpQ.y (OpY.add rfl rfl rfl (by omega) (by omega))) ?_
                refine Run.q (v := .int .i64 ((pwS ts F a k) + (ix ts (k * 2 + 1)))) rfl (OpQ.y (OpY.pure rfl)) ?_
                refine Run.done ?_
                refine Run.blockEnd ?_
                refine Run.region ?_
                refine Run.q (v := .int .i64 ((((k : Nat) : Int)) + 1)) rfl (OpQ.y (OpY.add rfl rfl rfl (by omega) (by omega))) ?_
                refine Run.q (v := .int .i64 ((((k : Nat) : Int)) + 1)) rfl (OpQ.y (OpY.pure rfl)) ?_
                refine Run.done ?_
                refine Run.goal ⟨(by repeat (first | exact Same.refl _ _ | refine Same.put rfl ?_ | refine Same.over rfl rfl ?_)), k + 1, ?_, ?_, ?_, ?_⟩
                · refine ⟨by omega, ?_⟩
                  trivial
                · omega
                · exact ⟨(by show Value.int _ _ = Value.int _ _; first | rw [pwS, if_pos p66] | rw [pwS, if_neg p66]), (by first | rfl | (congr 1; omega) | simp), trivial⟩
                · exact (Some'.weak (.skip (.takeEq (by first | rfl | simp) (.take (.take (.takeEq (by first | rfl | simp) (.nil _)))))))
              · have p66 := h66; try simp only [bs] at p66
                refine Run.skip ?_
                refine Run.blockEnd ?_
                refine Run.region ?_
                refine Run.q (v := .int .i64 ((((k : Nat) : Int)) + 1)) rfl (OpQ.y (OpY.add rfl rfl rfl (by omega) (by omega))) ?_
                refine Run.q (v := .int .i64 ((((k : Nat) : Int)) + 1)) rfl (OpQ.y (OpY.pure rfl)) ?_
                refine Run.done ?_
                refine Run.goal ⟨(by repeat (first | exact Same.refl _ _ | refine Same.put rfl ?_ | refine Same.over rfl rfl ?_)), k + 1, ?_, ?_, ?_, ?_⟩
                · refine ⟨by omega, ?_⟩
                  trivial
                · omega
                · exact ⟨(by show Value.int _ _ = Value.int _ _; first | rw [pwS, if_pos p66] | rw [pwS, if_neg p66]), (by first | rfl | (congr 1; omega) | simp), trivial⟩
                · exact (Some'.weak (.skip (.takeEq (by first | rfl | simp) (.take (.take (.takeEq (by first | rfl | simp) (.nil _)))))))
            · have p57 := h57; try simp only [bs] at p57
              have hknk : k = nt := by omega
              have hp := pwS_range hpf a nt (Nat.le_refl _)
              have hpk : pwS ts F a k = pwS ts F a nt := by rw [hknk]
              refine Run.exit rfl ?_
              refine Run.seq ?_
              refine Run.region ?_
              refine Run.q (v := .int .i64 0) rfl (OpQ.y (OpY.pure rfl)) ?_
              refine Run.q (v := .int .i64 0) rfl (OpQ.y (OpY.pure rfl)) ?_
              refine Run.done ?_
              refine Run.seq ?_
              refine Run.seq ?_
              refine Run.region ?_
              refine Run.q (v := .int .i64 0) rfl (OpQ.y (OpY.pure rfl)) ?_
              refine Run.done ?_
              refine Run.block ?_
              refine Run.loop (ι := Nat) [11, 12, 13, 72, 73, 74, 75, 76, 77, 78, 79, 80, 81, 82, 83, 84, 85, 86, 87, 88, 89, 90, 91, 92, 93, 94, 95] (fun q => [(11, .int .i64 (stS os a q)), (12, .int .i64 (coS a q)), (13, .int .i64 (((q : Nat) : Int)))]) (fun q => [.own (.slice (some ⟨b4, 0, none⟩) (D * D) (D * D)) 56 4 (D * D) (ints (smS (ocC I os no D) (ocP ts F nt) (D * D) a)), .blk b3 47 [.bool false], .blk b2 29 [.int .i64 0, .int .i64 0, .slice none 0 0], .blk b1 35 [.int .i64 I, .int .i64 V, .int .i64 R, .int .i64 F, .slice At nt ct, .slice Ao no co]]) (fun q => q ≤ no) (fun q => no - q) 0 ?_ ?_ ?_ ?_
              · exact Nat.zero_le _
              · exact ⟨rfl, rfl, rfl, trivial⟩
              · exact (Some'.weak (.take (.take (.take (.take (.nil _))))))
              · rintro q fr hinv
                show Run _ _ (over _ _ [(11, .int .i64 (stS os a q)), (12, .int .i64 (coS a q)), (13, .int .i64 (((q : Nat) : Int)))] fr) [.own (.slice (some ⟨b4, 0, none⟩) (D * D) (D * D)) 56 4 (D * D) (ints (smS (ocC I os no D) (ocP ts F nt) (D * D) a)), .blk b3 47 [.bool false], .blk b2 29 [.int .i64 0, .int .i64 0, .slice none 0 0], .blk b1 35 [.int .i64 I, .int .i64 V, .int .i64 R, .int .i64 F, .slice At nt ct, .slice Ao no co]]
                try dsimp only at hinv
                refine Run.seq ?_
                refine Run.seq ?_
                refine Run.region ?_
                refine Run.q (v := .int .i64 (((q : Nat) : Int))) rfl (OpQ.y (OpY.pure rfl)) ?_
                refine Run.q (v := .pointer (some ⟨b1, 0, none⟩)) rfl (OpQ.y (OpY.fieldAddr Tfo_35_0 rfl rfl)) ?_
                refine Run.q (v := .int .i64 I) rfl (OpQ.y (OpY.load1 Tone_3 rfl (Cells.blk (.tail _ (.tail _ (.tail _ (List.Mem.head _)))) ⟨rfl, trivial⟩))) ?_
                refine Run.q (v := .bool (decide ((((q : Nat) : Int)) < I))) rfl (OpQ.y (OpY.pure rfl)) ?_
                refine Run.done ?_
                refine Run.cond (b := decide ((((q : Nat) : Int)) < I)) rfl (fun h75 => ?_) (fun h75 => ?_)
                · have p75 := h75; try simp only [bs] at p75
                  have hqn : q < no := by omega
                  have hcq := coS_range a q
                  have hsq := stS_range hpf a q (by omega)
                  have hpq := pow_no (k := q) (by omega)
                  have hq := hpf.hq q hqn
                  have hpr := xorI_range (parI_range (andI a (ix os (q * 2)))) hq.2
                  obtain ⟨bo, oo, rfl⟩ := ho.opn (by omega)
                  refine Run.skip ?_
                  refine Run.seq ?_
                  refine Run.block ?_
                  refine Run.seq ?_
                  refine Run.region ?_
                  refine Run.q (v := .int .i64 (stS os a q)) rfl (OpQ.y (OpY.pure rfl)) ?_
                  refine Run.q (v := .int .i64 (2 * (stS os a q))) rfl (OpQ.y (OpY.mul rfl rfl (by first | rfl | grind) (by omega) (by omega))) ?_
                  refine Run.q (v := .pointer (some ⟨b1, 5, none⟩)) rfl (OpQ.y (OpY.fieldAddr Tfo_35_5 rfl rfl)) ?_
                  refine Run.q (v := .slice (some ⟨bo, oo, none⟩) no co) rfl (OpQ.y (OpY.load1 Tone_33 rfl (Cells.blk (.tail _ (.tail _ (.tail _ (List.Mem.head _)))) ⟨rfl, trivial⟩))) ?_
                  refine Run.q (v := .int .i64 (((q : Nat) : Int))) rfl (OpQ.y (OpY.pure rfl)) ?_
                  refine Run.q (v := .pointer (some ⟨bo, oo + q * 2, none⟩)) rfl (OpQ.y (OpY.index (kk := q) Tsl_33 rfl rfl (by omega) (by omega) (by first | rfl | omega))) ?_
                  refine Run.q (v := .agg #[.int .i64 (ix os (q * 2)), .int .i64 (ix os (q * 2 + 1))]) rfl (OpQ.y (OpY.loadN (cs := [.int .i64 (ix os (q * 2)), .int .i64 (ix os (q * 2 + 1))]) Tagg_54 rfl (Cells.arg (k := q * 2) ho rfl (by omega) (pre2 (by omega))))) ?_
                  refine Run.q (v := .int .i64 (((a : Nat) : Int))) rfl (OpQ.y (OpY.pure rfl)) ?_
                  refine Run.q (v := .int .i64 (xorI (parI (andI a (ix os (q * 2)))) (ix os (q * 2 + 1)))) rfl (OpQ.call (vs := [.agg #[.int .i64 (ix os (q * 2)), .int .i64 (ix os (q * 2 + 1))], .int .i64 (((a : Nat) : Int))]) (caps := []) Tcall_16 rfl rfl (fun w hs => l21Value_spec (by omega) hq.1)) ?_
                  refine Run.q (v := .int .i64 ((2 * (stS os a q)) + (xorI (parI (andI a (ix os (q * 2)))) (ix os (q * 2 + 1))))) rfl (OpQ.y (OpY.add rfl rfl rfl (by omega) (by omega))) ?_
                  refine Run.q (v := .int .i64 ((2 * (stS os a q)) + (xorI (parI (andI a (ix os (q * 2)))) (ix os (q * 2 + 1))))) rfl (OpQ.y (OpY.pure rfl)) ?_
                  refine Run.done ?_
                  refine Run.region ?_
                  refine Run.q (v := .int .i64 (coS a q)) rfl (OpQ.y (OpY.pure rfl)) ?_
                  refine Run.q (v := .int .i64 (2 * (coS a q))) rfl (OpQ.y (OpY.mul rfl rfl (by first | rfl | grind) (by omega) (by omega))) ?_
                  refine Run.q (v := .int .i64 (((a : Nat) : Int))) rfl (OpQ.y (OpY.pure rfl)) ?_
                  refine Run.q (v := .int .i64 (((q : Nat) : Int))) rfl (OpQ.y (OpY.pure rfl)) ?_
                  refine Run.q (v := .int .u64 (((q : Nat) : Int))) rfl (OpQ.y (OpY.convIntEq Tsome_3 Tint_48 rfl (by rw [IntKind.wrap_u64]; omega))) ?_
                  refine Run.q (v := .int .i64 ((((a : Nat) : Int)) >>> q)) rfl (OpQ.y (OpY.shr rfl rfl (by first | rfl | omega) (by omega))) ?_
                  refine Run.q (v := .int .i64 (((((a : Nat) : Int)) >>> q) % 2)) rfl (OpQ.y (OpY.and1 rfl rfl)) ?_
                  refine Run.q (v := .int .i64 ((2 * (coS a q)) + (((((a : Nat) : Int)) >>> q) % 2))) rfl (OpQ.y (OpY.add rfl rfl rfl (by omega) (by omega))) ?_
                  refine Run.q (v := .int .i64 ((2 * (coS a q)) + (((((a : Nat) : Int)) >>> q) % 2))) rfl (OpQ.y (OpY.pure rfl)) ?_
                  refine Run.done ?_
                  refine Run.blockEnd ?_
                  refine Run.region ?_
                  refine Run.q (v := .int .i64 (((q : Nat) : Int))) rfl (OpQ.y (OpY.pure rfl)) ?_
                  refine Run.q (v := .int .i64 ((((q : Nat) : Int)) + 1)) rfl (OpQ.y (OpY.add rfl rfl rfl (by omega) (by omega))) ?_
                  refine Run.q (v := .int .i64 ((((q : Nat) : Int)) + 1)) rfl (OpQ.y (OpY.pure rfl)) ?_
                  refine Run.done ?_
                  refine Run.goal ⟨(by repeat (first | exact Same.refl _ _ | refine Same.put rfl ?_ | refine Same.over rfl rfl ?_)), q + 1, ?_, ?_, ?_, ?_⟩
                  · exact hqn
                  · omega
                  · exact ⟨(by first | rfl | (congr 1; omega) | simp), (by first | rfl | (congr 1; omega) | simp), (by first | rfl | (congr 1; omega) | simp), trivial⟩
                  · exact (Some'.weak (.takeEq (by first | rfl | simp) (.take (.take (.takeEq (by first | rfl | simp) (.nil _))))))
                · have p75 := h75; try simp only [bs] at p75
                  have hqI : q = no := by omega
                  have hqt : q = I.toNat := by omega
                  have hoc2 : sD + coS a q = (ocC I os no D a : Nat) := by rw [hqt]; exact hoc.1.2
                  have hsD : stS os a q * ((D : Nat) : Int) = sD := by rw [hqI]; exact hsD
                  refine Run.exit rfl ?_
                  refine Run.heldB (base := [.blk b3 47 [.bool false], .blk b2 29 [.int .i64 0, .int .i64 0, .slice none 0 0], .blk b1 35 [.int .i64 I, .int .i64 V, .int .i64 R, .int .i64 F, .slice At nt ct, .slice Ao no co]]) (by kernel_rfl) ?_
                  refine DW.take (i := 0) (v := .slice (some ⟨b4, 0, none⟩) (D * D) (D * D)) rfl (by kernel_rfl) (by kernel_rfl) (by kernel_rfl) (fun _ _ _ h => h) (Some'.weak (.skip (.take (.take (.take (.nil _)))))) rfl (OpY.pure rfl) ?_
                  refine DW.take (i := 1) (v := .int .i64 (stS os a q)) rfl (by kernel_rfl) (by kernel_rfl) (by kernel_rfl) (fun _ _ _ h => h) (Some'.weak (.skip (.take (.take (.take (.nil _)))))) rfl (OpY.pure rfl) ?_
                  refine DW.take (i := 2) (v := .int .i64 (((D : Nat) : Int))) rfl (by kernel_rfl) (by kernel_rfl) (by kernel_rfl) (fun _ _ _ h => h) (Some'.weak (.skip (.take (.take (.take (.nil _)))))) rfl (OpY.pure rfl) ?_
                  refine DW.take (i := 3) (v := .int .i64 sD) rfl (by kernel_rfl) (by kernel_rfl) (by kernel_rfl) (fun _ _ _ h => h) (Some'.weak (.skip (.take (.take (.take (.nil _)))))) rfl (OpY.mul rfl rfl hsD (by omega) (by omega)) ?_
                  refine DW.take (i := 4) (v := .int .i64 (coS a q)) rfl (by kernel_rfl) (by kernel_rfl) (by kernel_rfl) (fun _ _ _ h => h) (Some'.weak (.skip (.take (.take (.take (.nil _)))))) rfl (OpY.pure rfl) ?_
                  refine DW.take (i := 5) (v := .int .i64 (((ocC I os no D a : Nat) : Int))) rfl (by kernel_rfl) (by kernel_rfl) (by kernel_rfl) (fun _ _ _ h => h) (Some'.weak (.skip (.take (.take (.take (.nil _)))))) rfl (OpY.add rfl rfl hoc2 (by omega) (by omega)) ?_
                  refine DW.take (i := 6) (v := .slice (some ⟨b4, 0, none⟩) (D * D) (D * D)) rfl (by kernel_rfl) (by kernel_rfl) (by kernel_rfl) (fun _ _ _ h => h) (Some'.weak (.skip (.take (.take (.take (.nil _)))))) rfl (OpY.pure rfl) ?_
                  refine DW.take (i := 7) (v := .int .i64 (stS os a q)) rfl (by kernel_rfl) (by kernel_rfl) (by kernel_rfl) (fun _ _ _ h => h) (Some'.weak (.skip (.take (.take (.take (.nil _)))))) rfl (OpY.pure rfl) ?_
                  refine DW.take (i := 8) (v := .int .i64 (((D : Nat) : Int))) rfl (by kernel_rfl) (by kernel_rfl) (by kernel_rfl) (fun _ _ _ h => h) (Some'.weak (.skip (.take (.take (.take (.nil _)))))) rfl (OpY.pure rfl) ?_
                  refine DW.take (i := 9) (v := .int .i64 sD) rfl (by kernel_rfl) (by kernel_rfl) (by kernel_rfl) (fun _ _ _ h => h) (Some'.weak (.skip (.take (.take (.take (.nil _)))))) rfl (OpY.mul rfl rfl hsD (by omega) (by omega)) ?_
                  refine DW.take (i := 10) (v := .int .i64 (coS a q)) rfl (by kernel_rfl) (by kernel_rfl) (by kernel_rfl) (fun _ _ _ h => h) (Some'.weak (.skip (.take (.take (.take (.nil _)))))) rfl (OpY.pure rfl) ?_
                  refine DW.take (i := 11) (v := .int .i64 (((ocC I os no D a : Nat) : Int))) rfl (by kernel_rfl) (by kernel_rfl) (by kernel_rfl) (fun _ _ _ h => h) (Some'.weak (.skip (.take (.take (.take (.nil _)))))) rfl (OpY.add rfl rfl hoc2 (by omega) (by omega)) ?_
                  refine DW.take (i := 12) (v := .pointer (some ⟨b4, (ocC I os no D a) * 4, none⟩)) rfl (by kernel_rfl) (by kernel_rfl) (by kernel_rfl) (fun _ _ _ h => h) (Some'.weak (.skip (.take (.take (.take (.nil _)))))) rfl (OpY.index (kk := ocC I os no D a) Tsl_49 rfl rfl (by omega) (by omega) (by first | rfl | omega)) ?_
                  refine DW.take (i := 14) (v := .agg #[.int .i64 1, .int .i64 0, .int .i64 0, .int .i64 0]) rfl (by kernel_rfl) (by kernel_rfl) (by kernel_rfl) (fun _ _ _ h => h) (Some'.weak (.skip (.take (.take (.take (.nil _)))))) rfl (OpY.build (cs := [.int .i64 1, .int .i64 0, .int .i64 0, .int .i64 0]) (by kernel_rfl)) ?_
                  refine DW.take (i := 15) (v := .int .i64 (pwS ts F a k)) rfl (by kernel_rfl) (by kernel_rfl) (by kernel_rfl) (fun _ _ _ h => h) (Some'.weak (.skip (.take (.take (.take (.nil _)))))) rfl (OpY.pure rfl) ?_
                  refine DW.take (i := 16) (v := .int .i64 (((ocP ts F nt a : Nat) : Int))) rfl (by kernel_rfl) (by kernel_rfl) (by kernel_rfl) (fun _ _ _ h => h) (Some'.weak (.skip (.take (.take (.take (.nil _)))))) rfl (OpY.rem8 rfl rfl (by omega) (by rw [hpk]; exact hoc.2.2)) ?_
                  refine DW.two (i := 13) (j := 17) (by kernel_rfl) rfl rfl rfl rfl ?_ ?_
                  · refine OpStep.q (v := .agg #[.int .i64 (ix (smS (ocC I os no D) (ocP ts F nt) (D * D) a) ((ocC I os no D a) * 4)), .int .i64 (ix (smS (ocC I os no D) (ocP ts F nt) (D * D) a) ((ocC I os no D a) * 4 + 1)), .int .i64 (ix (smS (ocC I os no D) (ocP ts F nt) (D * D) a) ((ocC I os no D a) * 4 + 2)), .int .i64 (ix (smS (ocC I os no D) (ocP ts F nt) (D * D) a) ((ocC I os no D a) * 4 + 3))]) (OpQ.y (OpY.loadN (cs := [.int .i64 (ix (smS (ocC I os no D) (ocP ts F nt) (D * D) a) ((ocC I os no D a) * 4)), .int .i64 (ix (smS (ocC I os no D) (ocP ts F nt) (D * D) a) ((ocC I os no D a) * 4 + 1)), .int .i64 (ix (smS (ocC I os no D) (ocP ts F nt) (D * D) a) ((ocC I os no D a) * 4 + 2)), .int .i64 (ix (smS (ocC I os no D) (ocP ts F nt) (D * D) a) ((ocC I os no D a) * 4 + 3))]) Tagg_56 rfl (Cells.own0 (.head _) (pre4 (by omega))))) ?_
                    refine ⟨(Some'.weak (.skip (.take (.take (.take (.nil _)))))), ?_⟩
                    refine DW.step (i := 17) (by kernel_rfl) rfl rfl (OpStep.q (v := .agg #[.int .i64 ((twR (ocP ts F nt a)).a), .int .i64 ((twR (ocP ts F nt a)).b), .int .i64 ((twR (ocP ts F nt a)).c), .int .i64 ((twR (ocP ts F nt a)).d)]) (OpQ.call (vs := [.agg #[.int .i64 1, .int .i64 0, .int .i64 0, .int .i64 0], .int .i64 (((ocP ts F nt a : Nat) : Int))]) (caps := []) Tcall_18 rfl rfl (fun w hs => l1Turn_spec (hoc.2.1))) ?_)
                    refine ⟨(Some'.weak (.skip (.take (.take (.take (.nil _)))))), ?_⟩
                    refine DW.step (i := 18) (by kernel_rfl) rfl rfl (OpStep.q (v := .agg #[.int .i64 ((adR (r4 (smS (ocC I os no D) (ocP ts F nt) (D * D) a) (ocC I os no D a)) (twR (ocP ts F nt a))).a), .int .i64 ((adR (r4 (smS (ocC I os no D) (ocP ts F nt) (D * D) a) (ocC I os no D a)) (twR (ocP ts F nt a))).b), .int .i64 ((adR (r4 (smS (ocC I os no D) (ocP ts F nt) (D * D) a) (ocC I os no D a)) (twR (ocP ts F nt a))).c), .int .i64 ((adR (r4 (smS (ocC I os no D) (ocP ts F nt) (D * D) a) (ocC I os no D a)) (twR (ocP ts F nt a))).d)]) (OpQ.call (vs := [.agg #[.int .i64 (ix (smS (ocC I os no D) (ocP ts F nt) (D * D) a) ((ocC I os no D a) * 4)), .int .i64 (ix (smS (ocC I os no D) (ocP ts F nt) (D * D) a) ((ocC I os no D a) * 4 + 1)), .int .i64 (ix (smS (ocC I os no D) (ocP ts F nt) (D * D) a) ((ocC I os no D a) * 4 + 2)), .int .i64 (ix (smS (ocC I os no D) (ocP ts F nt) (D * D) a) ((ocC I os no D a) * 4 + 3))], .agg #[.int .i64 ((twR (ocP ts F nt a)).a), .int .i64 ((twR (ocP ts F nt a)).b), .int .i64 ((twR (ocP ts F nt a)).c), .int .i64 ((twR (ocP ts F nt a)).d)]]) (caps := []) Tcall_17 rfl rfl (fun w hs => l1Add4_spec (x := r4 (smS (ocC I os no D) (ocP ts F nt) (D * D) a) (ocC I os no D a)) (y := twR (ocP ts F nt a)) hlim (by have := twR_lim (ocP ts F nt a); unfold Lim; omega))) ?_)
                    refine ⟨(Some'.weak (.skip (.take (.take (.take (.nil _)))))), ?_⟩
                    refine DW.take (i := 19) (v := .pointer (some ⟨b4, (ocC I os no D a) * 4, none⟩)) rfl (by kernel_rfl) (by kernel_rfl) (by kernel_rfl) (fun _ _ _ h => h) (Some'.weak (.skip (.take (.take (.take (.nil _)))))) rfl (OpY.index (kk := ocC I os no D a) Tsl_49 rfl rfl (by omega) (by omega) (by first | rfl | omega)) ?_
                    refine DW.step (i := 20) (by kernel_rfl) rfl rfl (OpStep.storeOwnInt4 (o := (ocC I os no D a) * 4) (a := (adR (r4 (smS (ocC I os no D) (ocP ts F nt) (D * D) a) (ocC I os no D a)) (twR (ocP ts F nt a))).a) (b := (adR (r4 (smS (ocC I os no D) (ocP ts F nt) (D * D) a) (ocC I os no D a)) (twR (ocP ts F nt a))).b) (c := (adR (r4 (smS (ocC I os no D) (ocP ts F nt) (D * D) a) (ocC I os no D a)) (twR (ocP ts F nt a))).c) (p := (adR (r4 (smS (ocC I os no D) (ocP ts F nt) (D * D) a) (ocC I os no D a)) (twR (ocP ts F nt a))).d) Tsize_56 rfl rfl (.here _) (by omega) ?_)
                    refine ⟨(Some'.weak (.skip (.take (.take (.take (.nil _)))))), ?_⟩
                    refine DW.done (by kernel_rfl) ?_
                    refine Run.blockEnd ?_
                    refine Run.region ?_
                    refine Run.q (v := .int .i64 (((a : Nat) : Int))) rfl (OpQ.y (OpY.pure rfl)) ?_
                    refine Run.q (v := .int .i64 ((((a : Nat) : Int)) + 1)) rfl (OpQ.y (OpY.add rfl rfl rfl (by omega) (by omega))) ?_
                    refine Run.q (v := .int .i64 ((((a : Nat) : Int)) + 1)) rfl (OpQ.y (OpY.pure rfl)) ?_
                    refine Run.done ?_
                    refine Run.goal ⟨(by repeat (first | exact Same.refl _ _ | refine Same.put rfl ?_ | refine Same.over rfl rfl ?_)), a + 1, ?_, ?_, ?_, ?_⟩
                    · exact ha
                    · omega
                    · exact ⟨(by first | rfl | (congr 1; omega) | simp), trivial⟩
                    · exact (Some'.weak (.takeEq (by first | rfl | exact congrArg _ (repK4 _ 4)) (.take (.take (.take (.nil _))))))
                  · refine OpStep.q (v := .agg #[.int .i64 ((twR (ocP ts F nt a)).a), .int .i64 ((twR (ocP ts F nt a)).b), .int .i64 ((twR (ocP ts F nt a)).c), .int .i64 ((twR (ocP ts F nt a)).d)]) (OpQ.call (vs := [.agg #[.int .i64 1, .int .i64 0, .int .i64 0, .int .i64 0], .int .i64 (((ocP ts F nt a : Nat) : Int))]) (caps := []) Tcall_18 rfl rfl (fun w hs => l1Turn_spec (hoc.2.1))) ?_
                    refine ⟨(Some'.weak (.skip (.take (.take (.take (.nil _)))))), ?_⟩
                    refine DW.step (i := 13) (by kernel_rfl) rfl rfl (OpStep.q (v := .agg #[.int .i64 (ix (smS (ocC I os no D) (ocP ts F nt) (D * D) a) ((ocC I os no D a) * 4)), .int .i64 (ix (smS (ocC I os no D) (ocP ts F nt) (D * D) a) ((ocC I os no D a) * 4 + 1)), .int .i64 (ix (smS (ocC I os no D) (ocP ts F nt) (D * D) a) ((ocC I os no D a) * 4 + 2)), .int .i64 (ix (smS (ocC I os no D) (ocP ts F nt) (D * D) a) ((ocC I os no D a) * 4 + 3))]) (OpQ.y (OpY.loadN (cs := [.int .i64 (ix (smS (ocC I os no D) (ocP ts F nt) (D * D) a) ((ocC I os no D a) * 4)), .int .i64 (ix (smS (ocC I os no D) (ocP ts F nt) (D * D) a) ((ocC I os no D a) * 4 + 1)), .int .i64 (ix (smS (ocC I os no D) (ocP ts F nt) (D * D) a) ((ocC I os no D a) * 4 + 2)), .int .i64 (ix (smS (ocC I os no D) (ocP ts F nt) (D * D) a) ((ocC I os no D a) * 4 + 3))]) Tagg_56 rfl (Cells.own0 (.head _) (pre4 (by omega))))) ?_)
                    refine ⟨(Some'.weak (.skip (.take (.take (.take (.nil _)))))), ?_⟩
                    refine DW.step (i := 18) (by kernel_rfl) rfl rfl (OpStep.q (v := .agg #[.int .i64 ((adR (r4 (smS (ocC I os no D) (ocP ts F nt) (D * D) a) (ocC I os no D a)) (twR (ocP ts F nt a))).a), .int .i64 ((adR (r4 (smS (ocC I os no D) (ocP ts F nt) (D * D) a) (ocC I os no D a)) (twR (ocP ts F nt a))).b), .int .i64 ((adR (r4 (smS (ocC I os no D) (ocP ts F nt) (D * D) a) (ocC I os no D a)) (twR (ocP ts F nt a))).c), .int .i64 ((adR (r4 (smS (ocC I os no D) (ocP ts F nt) (D * D) a) (ocC I os no D a)) (twR (ocP ts F nt a))).d)]) (OpQ.call (vs := [.agg #[.int .i64 (ix (smS (ocC I os no D) (ocP ts F nt) (D * D) a) ((ocC I os no D a) * 4)), .int .i64 (ix (smS (ocC I os no D) (ocP ts F nt) (D * D) a) ((ocC I os no D a) * 4 + 1)), .int .i64 (ix (smS (ocC I os no D) (ocP ts F nt) (D * D) a) ((ocC I os no D a) * 4 + 2)), .int .i64 (ix (smS (ocC I os no D) (ocP ts F nt) (D * D) a) ((ocC I os no D a) * 4 + 3))], .agg #[.int .i64 ((twR (ocP ts F nt a)).a), .int .i64 ((twR (ocP ts F nt a)).b), .int .i64 ((twR (ocP ts F nt a)).c), .int .i64 ((twR (ocP ts F nt a)).d)]]) (caps := []) Tcall_17 rfl rfl (fun w hs => l1Add4_spec (x := r4 (smS (ocC I os no D) (ocP ts F nt) (D * D) a) (ocC I os no D a)) (y := twR (ocP ts F nt a)) hlim (by have := twR_lim (ocP ts F nt a); unfold Lim; omega))) ?_)
                    refine ⟨(Some'.weak (.skip (.take (.take (.take (.nil _)))))), ?_⟩
                    refine DW.take (i := 19) (v := .pointer (some ⟨b4, (ocC I os no D a) * 4, none⟩)) rfl (by kernel_rfl) (by kernel_rfl) (by kernel_rfl) (fun _ _ _ h => h) (Some'.weak (.skip (.take (.take (.take (.nil _)))))) rfl (OpY.index (kk := ocC I os no D a) Tsl_49 rfl rfl (by omega) (by omega) (by first | rfl | omega)) ?_
                    refine DW.step (i := 20) (by kernel_rfl) rfl rfl (OpStep.storeOwnInt4 (o := (ocC I os no D a) * 4) (a := (adR (r4 (smS (ocC I os no D) (ocP ts F nt) (D * D) a) (ocC I os no D a)) (twR (ocP ts F nt a))).a) (b := (adR (r4 (smS (ocC I os no D) (ocP ts F nt) (D * D) a) (ocC I os no D a)) (twR (ocP ts F nt a))).b) (c := (adR (r4 (smS (ocC I os no D) (ocP ts F nt) (D * D) a) (ocC I os no D a)) (twR (ocP ts F nt a))).c) (p := (adR (r4 (smS (ocC I os no D) (ocP ts F nt) (D * D) a) (ocC I os no D a)) (twR (ocP ts F nt a))).d) Tsize_56 rfl rfl (.here _) (by omega) ?_)
                    refine ⟨(Some'.weak (.skip (.take (.take (.take (.nil _)))))), ?_⟩
                    refine DW.done (by kernel_rfl) ?_
                    refine Run.blockEnd ?_
                    refine Run.region ?_
                    refine Run.q (v := .int .i64 (((a : Nat) : Int))) rfl (OpQ.y (OpY.pure rfl)) ?_
                    refine Run.q (v := .int .i64 ((((a : Nat) : Int)) + 1)) rfl (OpQ.y (OpY.add rfl rfl rfl (by omega) (by omega))) ?_
                    refine Run.q (v := .int .i64 ((((a : Nat) : Int)) + 1)) rfl (OpQ.y (OpY.pure rfl)) ?_
                    refine Run.done ?_
                    refine Run.goal ⟨(by repeat (first | exact Same.refl _ _ | refine Same.put rfl ?_ | refine Same.over rfl rfl ?_)), a + 1, ?_, ?_, ?_, ?_⟩
                    · exact ha
                    · omega
                    · exact ⟨(by first | rfl | (congr 1; omega) | simp), trivial⟩
                    · exact (Some'.weak (.takeEq (by first | rfl | exact congrArg _ (repK4 _ 4)) (.take (.take (.take (.nil _))))))
        · have p48 := h48; try simp only [bs] at p48
          have haA : AA = a := by omega
          rw [haA] at hbe hAe hrng
          have hlen : (smS (ocC I os no D) (ocP ts F nt) (D * D) a).length = D * D * 4 := smS_length ..
          refine Run.exit rfl ?_
          refine Run.seq ?_
          refine Run.region ?_
          refine Run.q (v := .int .i64 (((D : Nat) : Int))) rfl (OpQ.y (OpY.pure rfl)) ?_
          refine Run.q (v := .int .i64 (((D : Nat) : Int))) rfl (OpQ.y (OpY.pure rfl)) ?_
          refine Run.q (v := .agg #[.int .i64 (((D : Nat) : Int)), .int .i64 (((D : Nat) : Int)), .slice none 0 0]) rfl (OpQ.y (OpY.build (cs := [.int .i64 (((D : Nat) : Int)), .int .i64 (((D : Nat) : Int)), .slice none 0 0]) (by kernel_rfl))) ?_
          refine Run.step rfl (OpStep.alloc (zs := [.int .i64 0, .int .i64 0, .slice none 0 0]) Tzero_29 fun b6 => ?_)
          refine Run.step rfl (OpStep.storeAll (us := [.int .i64 (((D : Nat) : Int)), .int .i64 (((D : Nat) : Int)), .slice none 0 0]) Tsize_29 rfl rfl rfl (.here _) rfl ?_)
          refine Run.done ?_
          refine Run.seq ?_
          refine Run.seq ?_
          refine Run.region ?_
          refine Run.q (v := .slice (some ⟨b4, 0, none⟩) (D * D) (D * D)) rfl (OpQ.y (OpY.pure rfl)) ?_
          refine Run.q (v := .int .i64 (((D * D : Nat) : Int))) rfl (OpQ.y (OpY.len Tsl_49 rfl)) ?_
          refine Run.q (v := .int .i64 0) rfl (OpQ.y (OpY.pure rfl)) ?_
          refine Run.done ?_
          refine Run.block ?_
          refine Run.weak (H' := [.own (.slice none 0 0) 61 5 0 ([]), .blk b6 29 [.int .i64 (((D : Nat) : Int)), .int .i64 (((D : Nat) : Int)), .slice none 0 0], .own (.slice (some ⟨b4, 0, none⟩) (D * D) (D * D)) 56 4 (D * D) (ints (smS (ocC I os no D) (ocP ts F nt) (D * D) a)), .blk b3 47 [.bool false], .blk b2 29 [.int .i64 0, .int .i64 0, .slice none 0 0], .blk b1 35 [.int .i64 I, .int .i64 V, .int .i64 R, .int .i64 F, .slice At nt ct, .slice Ao no co]]) (Weak.nilOwn _ _) ?_ ⟨_, _, rfl, fun _ => nofun, fun _ => nofun⟩
          refine Run.loop (ι := Nat × Value) [16, 17, 121, 122, 123, 124, 125, 126, 127, 128, 129, 130, 131, 132, 133, 134, 135, 136, 137, 138, 139, 140, 141, 142, 143, 144, 145] (fun ⟨c, vo⟩ => [(121, .int .i64 (((c : Nat) : Int)))]) (fun ⟨c, vo⟩ => [.own vo 61 5 c (ints (mxL (cnS (ocC I os no D) (ocP ts F nt) (D * D) a) R c)), .own (.slice (some ⟨b4, 0, none⟩) (D * D) (D * D)) 56 4 (D * D) (ints (smS (ocC I os no D) (ocP ts F nt) (D * D) a)), .blk b6 29 [.int .i64 (((D : Nat) : Int)), .int .i64 (((D : Nat) : Int)), vo], .blk b3 47 [.bool (!mxB (cnS (ocC I os no D) (ocP ts F nt) (D * D) a) R c)], .blk b2 29 [.int .i64 0, .int .i64 0, .slice none 0 0], .blk b1 35 [.int .i64 I, .int .i64 V, .int .i64 R, .int .i64 F, .slice At nt ct, .slice Ao no co]]) (fun ⟨c, vo⟩ => c ≤ D * D) (fun ⟨c, vo⟩ => D * D - c) (0, .slice none 0 0) ?_ ?_ ?_ ?_
          · exact Nat.zero_le _
          · exact ⟨rfl, trivial⟩
          · exact (((((((Weak.front [.own (.slice none 0 0) 61 5 0 ([]), .blk b6 29 [.int .i64 (((D : Nat) : Int)), .int .i64 (((D : Nat) : Int)), .slice none 0 0], .own (.slice (some ⟨b4, 0, none⟩) (D * D) (D * D)) 56 4 (D * D) (ints (smS (ocC I os no D) (ocP ts F nt) (D * D) a)), .blk b3 47 [.bool false], .blk b2 29 [.int .i64 0, .int .i64 0, .slice none 0 0]] (.blk b1 35 [.int .i64 I, .int .i64 V, .int .i64 R, .int .i64 F, .slice At nt ct, .slice Ao no co]) []).trans (Weak.front [.blk b1 35 [.int .i64 I, .int .i64 V, .int .i64 R, .int .i64 F, .slice At nt ct, .slice Ao no co], .own (.slice none 0 0) 61 5 0 ([]), .blk b6 29 [.int .i64 (((D : Nat) : Int)), .int .i64 (((D : Nat) : Int)), .slice none 0 0], .own (.slice (some ⟨b4, 0, none⟩) (D * D) (D * D)) 56 4 (D * D) (ints (smS (ocC I os no D) (ocP ts F nt) (D * D) a)), .blk b3 47 [.bool false]] (.blk b2 29 [.int .i64 0, .int .i64 0, .slice none 0 0]) [])).trans (Weak.front [.blk b2 29 [.int .i64 0, .int .i64 0, .slice none 0 0], .blk b1 35 [.int .i64 I, .int .i64 V, .int .i64 R, .int .i64 F, .slice At nt ct, .slice Ao no co], .own (.slice none 0 0) 61 5 0 ([]), .blk b6 29 [.int .i64 (((D : Nat) : Int)), .int .i64 (((D : Nat) : Int)), .slice none 0 0], .own (.slice (some ⟨b4, 0, none⟩) (D * D) (D * D)) 56 4 (D * D) (ints (smS (ocC I os no D) (ocP ts F nt) (D * D) a))] (.blk b3 47 [.bool false]) [])).trans (Weak.front [.blk b3 47 [.bool false], .blk b2 29 [.int .i64 0, .int .i64 0, .slice none 0 0], .blk b1 35 [.int .i64 I, .int .i64 V, .int .i64 R, .int .i64 F, .slice At nt ct, .slice Ao no co], .own (.slice none 0 0) 61 5 0 ([])] (.blk b6 29 [.int .i64 (((D : Nat) : Int)), .int .i64 (((D : Nat) : Int)), .slice none 0 0]) [.own (.slice (some ⟨b4, 0, none⟩) (D * D) (D * D)) 56 4 (D * D) (ints (smS (ocC I os no D) (ocP ts F nt) (D * D) a))])).trans (Weak.front [.blk b6 29 [.int .i64 (((D : Nat) : Int)), .int .i64 (((D : Nat) : Int)), .slice none 0 0], .blk b3 47 [.bool false], .blk b2 29 [.int .i64 0, .int .i64 0, .slice none 0 0], .blk b1 35 [.int .i64 I, .int .i64 V, .int .i64 R, .int .i64 F, .slice At nt ct, .slice Ao no co], .own (.slice none 0 0) 61 5 0 ([])] (.own (.slice (some ⟨b4, 0, none⟩) (D * D) (D * D)) 56 4 (D * D) (ints (smS (ocC I os no D) (ocP ts F nt) (D * D) a))) [])).trans (Weak.front [.own (.slice (some ⟨b4, 0, none⟩) (D * D) (D * D)) 56 4 (D * D) (ints (smS (ocC I os no D) (ocP ts F nt) (D * D) a)), .blk b6 29 [.int .i64 (((D : Nat) : Int)), .int .i64 (((D : Nat) : Int)), .slice none 0 0], .blk b3 47 [.bool false], .blk b2 29 [.int .i64 0, .int .i64 0, .slice none 0 0], .blk b1 35 [.int .i64 I, .int .i64 V, .int .i64 R, .int .i64 F, .slice At nt ct, .slice Ao no co]] (.own (.slice none 0 0) 61 5 0 ([])) [])).trans (Some'.weak (.takeEq (by first | rfl | (simp [mxL, ints]; done) | (rw [hmx]; done)) (.take (.takeEq (by first | rfl | (simp [mxL, ints]; done) | (rw [hmx]; done)) (.takeEq (by first | rfl | (simp [mxL, ints]; done) | (rw [hmx]; done)) (.take (.take (.nil _)))))))))
          · rintro ⟨c, vo⟩ fr hinv
            show Run _ _ (over _ _ [(121, .int .i64 (((c : Nat) : Int)))] fr) [.own vo 61 5 c (ints (mxL (cnS (ocC I os no D) (ocP ts F nt) (D * D) a) R c)), .own (.slice (some ⟨b4, 0, none⟩) (D * D) (D * D)) 56 4 (D * D) (ints (smS (ocC I os no D) (ocP ts F nt) (D * D) a)), .blk b6 29 [.int .i64 (((D : Nat) : Int)), .int .i64 (((D : Nat) : Int)), vo], .blk b3 47 [.bool (!mxB (cnS (ocC I os no D) (ocP ts F nt) (D * D) a) R c)], .blk b2 29 [.int .i64 0, .int .i64 0, .slice none 0 0], .blk b1 35 [.int .i64 I, .int .i64 V, .int .i64 R, .int .i64 F, .slice At nt ct, .slice Ao no co]]
            try dsimp only at hinv
            refine Run.seq ?_
            refine Run.region ?_
            refine Run.q (v := .bool (decide ((((c : Nat) : Int)) < (((D * D : Nat) : Int))))) rfl (OpQ.y (OpY.pure rfl)) ?_
            refine Run.done ?_
            refine Run.seq ?_
            refine Run.cond (b := decide ((((c : Nat) : Int)) < (((D * D : Nat) : Int)))) rfl (fun h122 => ?_) (fun h122 => ?_)
            · have p122 := h122; try simp only [bs] at p122
              have hcD : c < D * D := by omega
              have hx : r4 (smS (ocC I os no D) (ocP ts F nt) (D * D) a) c = (cr (cnS (ocC I os no D) (ocP ts F nt) (D * D) a) c) := sm_cn hrng a (Nat.le_refl _) c hcD
              have hgx : gdR (cr (cnS (ocC I os no D) (ocP ts F nt) (D * D) a) c) = true := cr_lim (by omega) c
              refine Run.skip ?_
              refine Run.seq ?_
              refine Run.block ?_
              refine Run.seq ?_
              refine Run.region ?_
              refine Run.q (v := .pointer (some ⟨b4, c * 4, none⟩)) rfl (OpQ.y (OpY.index (kk := c) Tsl_49 rfl rfl (by omega) (by omega) (by first | rfl | omega))) ?_
              refine Run.q (v := .agg #[.int .i64 (ix (smS (ocC I os no D) (ocP ts F nt) (D * D) a) (c * 4)), .int .i64 (ix (smS (ocC I os no D) (ocP ts F nt) (D * D) a) (c * 4 + 1)), .int .i64 (ix (smS (ocC I os no D) (ocP ts F nt) (D * D) a) (c * 4 + 2)), .int .i64 (ix (smS (ocC I os no D) (ocP ts F nt) (D * D) a) (c * 4 + 3))]) rfl (OpQ.y (OpY.loadN (cs := [.int .i64 (ix (smS (ocC I os no D) (ocP ts F nt) (D * D) a) (c * 4)), .int .i64 (ix (smS (ocC I os no D) (ocP ts F nt) (D * D) a) (c * 4 + 1)), .int .i64 (ix (smS (ocC I os no D) (ocP ts F nt) (D * D) a) (c * 4 + 2)), .int .i64 (ix (smS (ocC I os no D) (ocP ts F nt) (D * D) a) (c * 4 + 3))]) Tagg_56 rfl (Cells.own0 (.tail _ (List.Mem.head _)) (pre4 (by omega))))) ?_
              refine Run.step rfl (OpStep.alloc (zs := [.int .i64 0, .int .i64 0, .int .i64 0, .int .i64 0]) Tzero_56 fun b7 => ?_)
              refine Run.step rfl (OpStep.storeAll (us := [.int .i64 (ix (smS (ocC I os no D) (ocP ts F nt) (D * D) a) (c * 4)), .int .i64 (ix (smS (ocC I os no D) (ocP ts F nt) (D * D) a) (c * 4 + 1)), .int .i64 (ix (smS (ocC I os no D) (ocP ts F nt) (D * D) a) (c * 4 + 2)), .int .i64 (ix (smS (ocC I os no D) (ocP ts F nt) (D * D) a) (c * 4 + 3))]) Tsize_56 rfl rfl rfl (.here _) rfl ?_)
              refine Run.done ?_
              refine Run.seq ?_
              refine Run.seq ?_
              refine Run.region ?_
              refine Run.q (v := .pointer (some ⟨b1, 2, none⟩)) rfl (OpQ.y (OpY.fieldAddr Tfo_35_2 rfl rfl)) ?_
              refine Run.q (v := .int .i64 R) rfl (OpQ.y (OpY.load1 Tone_3 rfl (Cells.blk (.tail _ (.tail _ (.tail _ (.tail _ (.tail _ (.tail _ (List.Mem.head _))))))) ⟨rfl, trivial⟩))) ?_
              refine Run.q (v := .int .i64 R) rfl (OpQ.y (OpY.pure rfl)) ?_
              refine Run.done ?_
              refine Run.block ?_
              refine Run.loop (ι := Nat) [17, 127, 128, 129, 130, 131, 132, 133, 134] (fun k => [(17, .int .i64 (R + ((k : Nat) : Int)))]) (fun k => [.blk b7 56 [.int .i64 ((upS (cr (cnS (ocC I os no D) (ocP ts F nt) (D * D) a) c) k).a), .int .i64 ((upS (cr (cnS (ocC I os no D) (ocP ts F nt) (D * D) a) c) k).b), .int .i64 ((upS (cr (cnS (ocC I os no D) (ocP ts F nt) (D * D) a) c) k).c), .int .i64 ((upS (cr (cnS (ocC I os no D) (ocP ts F nt) (D * D) a) c) k).d)], .own vo 61 5 c (ints (mxL (cnS (ocC I os no D) (ocP ts F nt) (D * D) a) R c)), .own (.slice (some ⟨b4, 0, none⟩) (D * D) (D * D)) 56 4 (D * D) (ints (smS (ocC I os no D) (ocP ts F nt) (D * D) a)), .blk b6 29 [.int .i64 (((D : Nat) : Int)), .int .i64 (((D : Nat) : Int)), vo], .blk b3 47 [.bool (!mxB (cnS (ocC I os no D) (ocP ts F nt) (D * D) a) R c || !upB (cr (cnS (ocC I os no D) (ocP ts F nt) (D * D) a) c) k)], .blk b2 29 [.int .i64 0, .int .i64 0, .slice none 0 0], .blk b1 35 [.int .i64 I, .int .i64 V, .int .i64 R, .int .i64 F, .slice At nt ct, .slice Ao no co]]) (fun k => k ≤ (-R).toNat) (fun k => (-R).toNat - k) 0 ?_ ?_ ?_ ?_
              · exact Nat.zero_le _
              · exact ⟨(by show Value.int _ _ = Value.int _ _; congr 1 <;> omega), trivial⟩
              · exact (Some'.weak (.takeEq (by first | rfl | (rw [upN_succ]; done) | (rw [show upS (cr (cnS (ocC I os no D) (ocP ts F nt) (D * D) a) c) 0 = r4 (smS (ocC I os no D) (ocP ts F nt) (D * D) a) c from hx.symm]; rfl) | (simp [upB]; done)) (.take (.take (.take (.takeEq (by first | rfl | (rw [upN_succ]; done) | (rw [show upS (cr (cnS (ocC I os no D) (ocP ts F nt) (D * D) a) c) 0 = r4 (smS (ocC I os no D) (ocP ts F nt) (D * D) a) c from hx.symm]; rfl) | (simp [upB]; done)) (.take (.take (.nil _)))))))))
              · rintro k fr hinv
                show Run _ _ (over _ _ [(17, .int .i64 (R + ((k : Nat) : Int)))] fr) [.blk b7 56 [.int .i64 ((upS (cr (cnS (ocC I os no D) (ocP ts F nt) (D * D) a) c) k).a), .int .i64 ((upS (cr (cnS (ocC I os no D) (ocP ts F nt) (D * D) a) c) k).b), .int .i64 ((upS (cr (cnS (ocC I os no D) (ocP ts F nt) (D * D) a) c) k).c), .int .i64 ((upS (cr (cnS (ocC I os no D) (ocP ts F nt) (D * D) a) c) k).d)], .own vo 61 5 c (ints (mxL (cnS (ocC I os no D) (ocP ts F nt) (D * D) a) R c)), .own (.slice (some ⟨b4, 0, none⟩) (D * D) (D * D)) 56 4 (D * D) (ints (smS (ocC I os no D) (ocP ts F nt) (D * D) a)), .blk b6 29 [.int .i64 (((D : Nat) : Int)), .int .i64 (((D : Nat) : Int)), vo], .blk b3 47 [.bool (!mxB (cnS (ocC I os no D) (ocP ts F nt) (D * D) a) R c || !upB (cr (cnS (ocC I os no D) (ocP ts F nt) (D * D) a) c) k)], .blk b2 29 [.int .i64 0, .int .i64 0, .slice none 0 0], .blk b1 35 [.int .i64 I, .int .i64 V, .int .i64 R, .int .i64 F, .slice At nt ct, .slice Ao no co]]
                try dsimp only at hinv
                refine Run.seq ?_
                refine Run.seq ?_
                refine Run.region ?_
                refine Run.q (v := .int .i64 (R + ((k : Nat) : Int))) rfl (OpQ.y (OpY.pure rfl)) ?_
                refine Run.q (v := .bool (decide ((R + ((k : Nat) : Int)) < 0))) rfl (OpQ.y (OpY.pure rfl)) ?_
                refine Run.done ?_
                refine Run.cond (b := decide ((R + ((k : Nat) : Int)) < 0)) rfl (fun h128 => ?_) (fun h128 => ?_)
                · have p128 := h128; try simp only [bs] at p128
                  have hk1 : k < (-R).toNat := by omega
                  refine Run.skip ?_
                  refine Run.seq ?_
                  refine Run.block ?_
                  refine Run.region ?_
                  refine Run.q (v := .pointer (some ⟨b3, 0, none⟩)) rfl (OpQ.y (OpY.pure rfl)) ?_
                  refine Run.q (v := .agg #[.int .i64 ((upS (cr (cnS (ocC I os no D) (ocP ts F nt) (D * D) a) c) k).a), .int .i64 ((upS (cr (cnS (ocC I os no D) (ocP ts F nt) (D * D) a) c) k).b), .int .i64 ((upS (cr (cnS (ocC I os no D) (ocP ts F nt) (D * D) a) c) k).c), .int .i64 ((upS (cr (cnS (ocC I os no D) (ocP ts F nt) (D * D) a) c) k).d)]) rfl (OpQ.y (OpY.loadN (cs := [.int .i64 ((upS (cr (cnS (ocC I os no D) (ocP ts F nt) (D * D) a) c) k).a), .int .i64 ((upS (cr (cnS (ocC I os no D) (ocP ts F nt) (D * D) a) c) k).b), .int .i64 ((upS (cr (cnS (ocC I os no D) (ocP ts F nt) (D * D) a) c) k).c), .int .i64 ((upS (cr (cnS (ocC I os no D) (ocP ts F nt) (D * D) a) c) k).d)]) Tagg_56 rfl (Cells.blk (.head _) ⟨rfl, rfl, rfl, rfl, trivial⟩))) ?_
                  refine Run.q (v := .agg #[.int .i64 ((rtR (upS (cr (cnS (ocC I os no D) (ocP ts F nt) (D * D) a) c) k)).a), .int .i64 ((rtR (upS (cr (cnS (ocC I os no D) (ocP ts F nt) (D * D) a) c) k)).b), .int .i64 ((rtR (upS (cr (cnS (ocC I os no D) (ocP ts F nt) (D * D) a) c) k)).c), .int .i64 ((rtR (upS (cr (cnS (ocC I os no D) (ocP ts F nt) (D * D) a) c) k)).d)]) rfl (OpQ.call (vs := [.agg #[.int .i64 ((upS (cr (cnS (ocC I os no D) (ocP ts F nt) (D * D) a) c) k).a), .int .i64 ((upS (cr (cnS (ocC I os no D) (ocP ts F nt) (D * D) a) c) k).b), .int .i64 ((upS (cr (cnS (ocC I os no D) (ocP ts F nt) (D * D) a) c) k).c), .int .i64 ((upS (cr (cnS (ocC I os no D) (ocP ts F nt) (D * D) a) c) k).d)]]) (caps := []) Tcall_20 rfl rfl (fun w hs => l1Root_spec (x := upS (cr (cnS (ocC I os no D) (ocP ts F nt) (D * D) a) c) k) (gd_lim (upS_good hgx k)))) ?_
                  refine Run.step rfl (OpStep.callM (H1 := [.blk b3 47 [.bool (!mxB (cnS (ocC I os no D) (ocP ts F nt) (D * D) a) R c || !upB (cr (cnS (ocC I os no D) (ocP ts F nt) (D * D) a) c) k)]]) (H2 := [.blk b7 56 [.int .i64 ((upS (cr (cnS (ocC I os no D) (ocP ts F nt) (D * D) a) c) k).a), .int .i64 ((upS (cr (cnS (ocC I os no D) (ocP ts F nt) (D * D) a) c) k).b), .int .i64 ((upS (cr (cnS (ocC I os no D) (ocP ts F nt) (D * D) a) c) k).c), .int .i64 ((upS (cr (cnS (ocC I os no D) (ocP ts F nt) (D * D) a) c) k).d)], .own vo 61 5 c (ints (mxL (cnS (ocC I os no D) (ocP ts F nt) (D * D) a) R c)), .own (.slice (some ⟨b4, 0, none⟩) (D * D) (D * D)) 56 4 (D * D) (ints (smS (ocC I os no D) (ocP ts F nt) (D * D) a)), .blk b6 29 [.int .i64 (((D : Nat) : Int)), .int .i64 (((D : Nat) : Int)), vo], .blk b2 29 [.int .i64 0, .int .i64 0, .slice none 0 0], .blk b1 35 [.int .i64 I, .int .i64 V, .int .i64 R, .int .i64 F, .slice At nt ct, .slice Ao no co]]) (vs := [.pointer (some ⟨b3, 0, none⟩), .agg #[.int .i64 ((rtR (upS (cr (cnS (ocC I os no D) (ocP ts F nt) (D * D) a) c) k)).a), .int .i64 ((rtR (upS (cr (cnS (ocC I os no D) (ocP ts F nt) (D * D) a) c) k)).b), .int .i64 ((rtR (upS (cr (cnS (ocC I os no D) (ocP ts F nt) (D * D) a) c) k)).c), .int .i64 ((rtR (upS (cr (cnS (ocC I os no D) (ocP ts F nt) (D * D) a) c) k)).d)]]) (caps := []) Tcall_19 rfl rfl (Weak.front [.blk b7 56 [.int .i64 ((upS (cr (cnS (ocC I os no D) (ocP ts F nt) (D * D) a) c) k).a), .int .i64 ((upS (cr (cnS (ocC I os no D) (ocP ts F nt) (D * D) a) c) k).b), .int .i64 ((upS (cr (cnS (ocC I os no D) (ocP ts F nt) (D * D) a) c) k).c), .int .i64 ((upS (cr (cnS (ocC I os no D) (ocP ts F nt) (D * D) a) c) k).d)], .own vo 61 5 c (ints (mxL (cnS (ocC I os no D) (ocP ts F nt) (D * D) a) R c)), .own (.slice (some ⟨b4, 0, none⟩) (D * D) (D * D)) 56 4 (D * D) (ints (smS (ocC I os no D) (ocP ts F nt) (D * D) a)), .blk b6 29 [.int .i64 (((D : Nat) : Int)), .int .i64 (((D : Nat) : Int)), vo]] (.blk b3 47 [.bool (!mxB (cnS (ocC I os no D) (ocP ts F nt) (D * D) a) R c || !upB (cr (cnS (ocC I os no D) (ocP ts F nt) (D * D) a) c) k)]) [.blk b2 29 [.int .i64 0, .int .i64 0, .slice none 0 0], .blk b1 35 [.int .i64 I, .int .i64 V, .int .i64 R, .int .i64 F, .slice At nt ct, .slice Ao no co]]) (fun w hs => l2Cring_spec (x := rtR (upS (cr (cnS (ocC I os no D) (ocP ts F nt) (D * D) a) c) k)) (hs.holds _ (.head _))) ?_)
                  rintro _ _ ⟨rfl, rfl⟩
                  show Run _ _ (putF _ _ _ (.agg #[.int .i64 ((ckR (rtR (upS (cr (cnS (ocC I os no D) (ocP ts F nt) (D * D) a) c) k))).a), .int .i64 ((ckR (rtR (upS (cr (cnS (ocC I os no D) (ocP ts F nt) (D * D) a) c) k))).b), .int .i64 ((ckR (rtR (upS (cr (cnS (ocC I os no D) (ocP ts F nt) (D * D) a) c) k))).c), .int .i64 ((ckR (rtR (upS (cr (cnS (ocC I os no D) (ocP ts F nt) (D * D) a) c) k))).d)])) [.blk b3 47 [.bool ((!mxB (cnS (ocC I os no D) (ocP ts F nt) (D * D) a) R c || !upB (cr (cnS (ocC I os no D) (ocP ts F nt) (D * D) a) c) k) || !gdR (rtR (upS (cr (cnS (ocC I os no D) (ocP ts F nt) (D * D) a) c) k)))], .blk b7 56 [.int .i64 ((upS (cr (cnS (ocC I os no D) (ocP ts F nt) (D * D) a) c) k).a), .int .i64 ((upS (cr (cnS (ocC I os no D) (ocP ts F nt) (D * D) a) c) k).b), .int .i64 ((upS (cr (cnS (ocC I os no D) (ocP ts F nt) (D * D) a) c) k).c), .int .i64 ((upS (cr (cnS (ocC I os no D) (ocP ts F nt) (D * D) a) c) k).d)], .own vo 61 5 c (ints (mxL (cnS (ocC I os no D) (ocP ts F nt) (D * D) a) R c)), .own (.slice (some ⟨b4, 0, none⟩) (D * D) (D * D)) 56 4 (D * D) (ints (smS (ocC I os no D) (ocP ts F nt) (D * D) a)), .blk b6 29 [.int .i64 (((D : Nat) : Int)), .int .i64 (((D : Nat) : Int)), vo], .blk b2 29 [.int .i64 0, .int .i64 0, .slice none 0 0], .blk b1 35 [.int .i64 I, .int .i64 V, .int .i64 R, .int .i64 F, .slice At nt ct, .slice Ao no co]]
                  refine Run.step rfl (OpStep.storeAll (us := [.int .i64 ((ckR (rtR (upS (cr (cnS (ocC I os no D) (ocP ts F nt) (D * D) a) c) k))).a), .int .i64 ((ckR (rtR (upS (cr (cnS (ocC I os no D) (ocP ts F nt) (D * D) a) c) k))).b), .int .i64 ((ckR (rtR (upS (cr (cnS (ocC I os no D) (ocP ts F nt) (D * D) a) c) k))).c), .int .i64 ((ckR (rtR (upS (cr (cnS (ocC I os no D) (ocP ts F nt) (D * D) a) c) k))).d)]) Tsize_56 rfl rfl rfl (.there _ (.here _)) rfl ?_)
                  refine Run.done ?_
                  refine Run.blockEnd ?_
                  refine Run.region ?_
                  refine Run.q (v := .int .i64 (R + ((k : Nat) : Int))) rfl (OpQ.y (OpY.pure rfl)) ?_
                  refine Run.q (v := .int .i64 ((R + ((k : Nat) : Int)) + 1)) rfl (OpQ.y (OpY.add rfl rfl rfl (by omega) (by omega))) ?_
                  refine Run.q (v := .int .i64 ((R + ((k : Nat) : Int)) + 1)) rfl (OpQ.y (OpY.pure rfl)) ?_
                  refine Run.done ?_
                  refine Run.goal ⟨(by repeat (first | exact Same.refl _ _ | refine Same.put rfl ?_ | refine Same.over rfl rfl ?_)), k + 1, ?_, ?_, ?_, ?_⟩
                  · exact hk1
                  · omega
                  · exact ⟨(by show Value.int _ _ = Value.int _ _; congr 1 <;> omega), trivial⟩
                  · exact ((((((((Weak.front [.blk b3 47 [.bool ((!mxB (cnS (ocC I os no D) (ocP ts F nt) (D * D) a) R c || !upB (cr (cnS (ocC I os no D) (ocP ts F nt) (D * D) a) c) k) || !gdR (rtR (upS (cr (cnS (ocC I os no D) (ocP ts F nt) (D * D) a) c) k)))], .blk b7 56 [.int .i64 ((ckR (rtR (upS (cr (cnS (ocC I os no D) (ocP ts F nt) (D * D) a) c) k))).a), .int .i64 ((ckR (rtR (upS (cr (cnS (ocC I os no D) (ocP ts F nt) (D * D) a) c) k))).b), .int .i64 ((ckR (rtR (upS (cr (cnS (ocC I os no D) (ocP ts F nt) (D * D) a) c) k))).c), .int .i64 ((ckR (rtR (upS (cr (cnS (ocC I os no D) (ocP ts F nt) (D * D) a) c) k))).d)], .own vo 61 5 c (ints (mxL (cnS (ocC I os no D) (ocP ts F nt) (D * D) a) R c)), .own (.slice (some ⟨b4, 0, none⟩) (D * D) (D * D)) 56 4 (D * D) (ints (smS (ocC I os no D) (ocP ts F nt) (D * D) a)), .blk b6 29 [.int .i64 (((D : Nat) : Int)), .int .i64 (((D : Nat) : Int)), vo], .blk b2 29 [.int .i64 0, .int .i64 0, .slice none 0 0]] (.blk b1 35 [.int .i64 I, .int .i64 V, .int .i64 R, .int .i64 F, .slice At nt ct, .slice Ao no co]) []).trans (Weak.front [.blk b1 35 [.int .i64 I, .int .i64 V, .int .i64 R, .int .i64 F, .slice At nt ct, .slice Ao no co], .blk b3 47 [.bool ((!mxB (cnS (ocC I os no D) (ocP ts F nt) (D * D) a) R c || !upB (cr (cnS (ocC I os no D) (ocP ts F nt) (D * D) a) c) k) || !gdR (rtR (upS (cr (cnS (ocC I os no D) (ocP ts F nt) (D * D) a) c) k)))], .blk b7 56 [.int .i64 ((ckR (rtR (upS (cr (cnS (ocC I os no D) (ocP ts F nt) (D * D) a) c) k))).a), .int .i64 ((ckR (rtR (upS (cr (cnS (ocC I os no D) (ocP ts F nt) (D * D) a) c) k))).b), .int .i64 ((ckR (rtR (upS (cr (cnS (ocC I os no D) (ocP ts F nt) (D * D) a) c) k))).c), .int .i64 ((ckR (rtR (upS (cr (cnS (ocC I os no D) (ocP ts F nt) (D * D) a) c) k))).d)], .own vo 61 5 c (ints (mxL (cnS (ocC I os no D) (ocP ts F nt) (D * D) a) R c)), .own (.slice (some ⟨b4, 0, none⟩) (D * D) (D * D)) 56 4 (D * D) (ints (smS (ocC I os no D) (ocP ts F nt) (D * D) a)), .blk b6 29 [.int .i64 (((D : Nat) : Int)), .int .i64 (((D : Nat) : Int)), vo]] (.blk b2 29 [.int .i64 0, .int .i64 0, .slice none 0 0]) [])).trans (Weak.front [.blk b2 29 [.int .i64 0, .int .i64 0, .slice none 0 0], .blk b1 35 [.int .i64 I, .int .i64 V, .int .i64 R, .int .i64 F, .slice At nt ct, .slice Ao no co]] (.blk b3 47 [.bool ((!mxB (cnS (ocC I os no D) (ocP ts F nt) (D * D) a) R c || !upB (cr (cnS (ocC I os no D) (ocP ts F nt) (D * D) a) c) k) || !gdR (rtR (upS (cr (cnS (ocC I os no D) (ocP ts F nt) (D * D) a) c) k)))]) [.blk b7 56 [.int .i64 ((ckR (rtR (upS (cr (cnS (ocC I os no D) (ocP ts F nt) (D * D) a) c) k))).a), .int .i64 ((ckR (rtR (upS (cr (cnS (ocC I os no D) (ocP ts F nt) (D * D) a) c) k))).b), .int .i64 ((ckR (rtR (upS (cr (cnS (ocC I os no D) (ocP ts F nt) (D * D) a) c) k))).c), .int .i64 ((ckR (rtR (upS (cr (cnS (ocC I os no D) (ocP ts F nt) (D * D) a) c) k))).d)], .own vo 61 5 c (ints (mxL (cnS (ocC I os no D) (ocP ts F nt) (D * D) a) R c)), .own (.slice (some ⟨b4, 0, none⟩) (D * D) (D * D)) 56 4 (D * D) (ints (smS (ocC I os no D) (ocP ts F nt) (D * D) a)), .blk b6 29 [.int .i64 (((D : Nat) : Int)), .int .i64 (((D : Nat) : Int)), vo]])).trans (Weak.front [.blk b3 47 [.bool ((!mxB (cnS (ocC I os no D) (ocP ts F nt) (D * D) a) R c || !upB (cr (cnS (ocC I os no D) (ocP ts F nt) (D * D) a) c) k) || !gdR (rtR (upS (cr (cnS (ocC I os no D) (ocP ts F nt) (D * D) a) c) k)))], .blk b2 29 [.int .i64 0, .int .i64 0, .slice none 0 0], .blk b1 35 [.int .i64 I, .int .i64 V, .int .i64 R, .int .i64 F, .slice At nt ct, .slice Ao no co], .blk b7 56 [.int .i64 ((ckR (rtR (upS (cr (cnS (ocC I os no D) (ocP ts F nt) (D * D) a) c) k))).a), .int .i64 ((ckR (rtR (upS (cr (cnS (ocC I os no D) (ocP ts F nt) (D * D) a) c) k))).b), .int .i64 ((ckR (rtR (upS (cr (cnS (ocC I os no D) (ocP ts F nt) (D * D) a) c) k))).c), .int .i64 ((ckR (rtR (upS (cr (cnS (ocC I os no D) (ocP ts F nt) (D * D) a) c) k))).d)], .own vo 61 5 c (ints (mxL (cnS (ocC I os no D) (ocP ts F nt) (D * D) a) R c)), .own (.slice (some ⟨b4, 0, none⟩) (D * D) (D * D)) 56 4 (D * D) (ints (smS (ocC I os no D) (ocP ts F nt) (D * D) a))] (.blk b6 29 [.int .i64 (((D : Nat) : Int)), .int .i64 (((D : Nat) : Int)), vo]) [])).trans (Weak.front [.blk b6 29 [.int .i64 (((D : Nat) : Int)), .int .i64 (((D : Nat) : Int)), vo], .blk b3 47 [.bool ((!mxB (cnS (ocC I os no D) (ocP ts F nt) (D * D) a) R c || !upB (cr (cnS (ocC I os no D) (ocP ts F nt) (D * D) a) c) k) || !gdR (rtR (upS (cr (cnS (ocC I os no D) (ocP ts F nt) (D * D) a) c) k)))], .blk b2 29 [.int .i64 0, .int .i64 0, .slice none 0 0], .blk b1 35 [.int .i64 I, .int .i64 V, .int .i64 R, .int .i64 F, .slice At nt ct, .slice Ao no co], .blk b7 56 [.int .i64 ((ckR (rtR (upS (cr (cnS (ocC I os no D) (ocP ts F nt) (D * D) a) c) k))).a), .int .i64 ((ckR (rtR (upS (cr (cnS (ocC I os no D) (ocP ts F nt) (D * D) a) c) k))).b), .int .i64 ((ckR (rtR (upS (cr (cnS (ocC I os no D) (ocP ts F nt) (D * D) a) c) k))).c), .int .i64 ((ckR (rtR (upS (cr (cnS (ocC I os no D) (ocP ts F nt) (D * D) a) c) k))).d)], .own vo 61 5 c (ints (mxL (cnS (ocC I os no D) (ocP ts F nt) (D * D) a) R c))] (.own (.slice (some ⟨b4, 0, none⟩) (D * D) (D * D)) 56 4 (D * D) (ints (smS (ocC I os no D) (ocP ts F nt) (D * D) a))) [])).trans (Weak.front [.own (.slice (some ⟨b4, 0, none⟩) (D * D) (D * D)) 56 4 (D * D) (ints (smS (ocC I os no D) (ocP ts F nt) (D * D) a)), .blk b6 29 [.int .i64 (((D : Nat) : Int)), .int .i64 (((D : Nat) : Int)), vo], .blk b3 47 [.bool ((!mxB (cnS (ocC I os no D) (ocP ts F nt) (D * D) a) R c || !upB (cr (cnS (ocC I os no D) (ocP ts F nt) (D * D) a) c) k) || !gdR (rtR (upS (cr (cnS (ocC I os no D) (ocP ts F nt) (D * D) a) c) k)))], .blk b2 29 [.int .i64 0, .int .i64 0, .slice none 0 0], .blk b1 35 [.int .i64 I, .int .i64 V, .int .i64 R, .int .i64 F, .slice At nt ct, .slice Ao no co], .blk b7 56 [.int .i64 ((ckR (rtR (upS (cr (cnS (ocC I os no D) (ocP ts F nt) (D * D) a) c) k))).a), .int .i64 ((ckR (rtR (upS (cr (cnS (ocC I os no D) (ocP ts F nt) (D * D) a) c) k))).b), .int .i64 ((ckR (rtR (upS (cr (cnS (ocC I os no D) (ocP ts F nt) (D * D) a) c) k))).c), .int .i64 ((ckR (rtR (upS (cr (cnS (ocC I os no D) (ocP ts F nt) (D * D) a) c) k))).d)]] (.own vo 61 5 c (ints (mxL (cnS (ocC I os no D) (ocP ts F nt) (D * D) a) R c))) [])).trans (Weak.front [.own vo 61 5 c (ints (mxL (cnS (ocC I os no D) (ocP ts F nt) (D * D) a) R c)), .own (.slice (some ⟨b4, 0, none⟩) (D * D) (D * D)) 56 4 (D * D) (ints (smS (ocC I os no D) (ocP ts F nt) (D * D) a)), .blk b6 29 [.int .i64 (((D : Nat) : Int)), .int .i64 (((D : Nat) : Int)), vo], .blk b3 47 [.bool ((!mxB (cnS (ocC I os no D) (ocP ts F nt) (D * D) a) R c || !upB (cr (cnS (ocC I os no D) (ocP ts F nt) (D * D) a) c) k) || !gdR (rtR (upS (cr (cnS (ocC I os no D) (ocP ts F nt) (D * D) a) c) k)))], .blk b2 29 [.int .i64 0, .int .i64 0, .slice none 0 0], .blk b1 35 [.int .i64 I, .int .i64 V, .int .i64 R, .int .i64 F, .slice At nt ct, .slice Ao no co]] (.blk b7 56 [.int .i64 ((ckR (rtR (upS (cr (cnS (ocC I os no D) (ocP ts F nt) (D * D) a) c) k))).a), .int .i64 ((ckR (rtR (upS (cr (cnS (ocC I os no D) (ocP ts F nt) (D * D) a) c) k))).b), .int .i64 ((ckR (rtR (upS (cr (cnS (ocC I os no D) (ocP ts F nt) (D * D) a) c) k))).c), .int .i64 ((ckR (rtR (upS (cr (cnS (ocC I os no D) (ocP ts F nt) (D * D) a) c) k))).d)]) [])).trans (Some'.weak (.takeEq (by first | rfl | (rw [upN_succ]; done) | (rw [show upS (cr (cnS (ocC I os no D) (ocP ts F nt) (D * D) a) c) 0 = r4 (smS (ocC I os no D) (ocP ts F nt) (D * D) a) c from hx.symm]; rfl) | (simp [upB]; done)) (.takeEq (by first | rfl | (rw [upN_succ]; done) | (rw [show upS (cr (cnS (ocC I os no D) (ocP ts F nt) (D * D) a) c) 0 = r4 (smS (ocC I os no D) (ocP ts F nt) (D * D) a) c from hx.symm]; rfl) | (simp [upB]; done)) (.takeEq (by first | rfl | (rw [upN_succ]; done) | (rw [show upS (cr (cnS (ocC I os no D) (ocP ts F nt) (D * D) a) c) 0 = r4 (smS (ocC I os no D) (ocP ts F nt) (D * D) a) c from hx.symm]; rfl) | (simp [upB]; done)) (.takeEq (by first | rfl | (rw [upN_succ]; done) | (rw [show upS (cr (cnS (ocC I os no D) (ocP ts F nt) (D * D) a) c) 0 = r4 (smS (ocC I os no D) (ocP ts F nt) (D * D) a) c from hx.symm]; rfl) | (simp [upB]; done)) (.takeEq (by first | rfl | (rw [upN_succ]; done) | (rw [show upS (cr (cnS (ocC I os no D) (ocP ts F nt) (D * D) a) c) 0 = r4 (smS (ocC I os no D) (ocP ts F nt) (D * D) a) c from hx.symm]; rfl) | (simp [upB]; done)) (.takeEq (by first | rfl | (rw [upN_succ]; done) | (rw [show upS (cr (cnS (ocC I os no D) (ocP ts F nt) (D * D) a) c) 0 = r4 (smS (ocC I os no D) (ocP ts F nt) (D * D) a) c from hx.symm]; rfl) | (simp [upB]; done)) (.takeEq (by first | rfl | (rw [upN_succ]; done) | (rw [show upS (cr (cnS (ocC I os no D) (ocP ts F nt) (D * D) a) c) 0 = r4 (smS (ocC I os no D) (ocP ts F nt) (D * D) a) c from hx.symm]; rfl) | (simp [upB]; done)) (.nil _))))))))))
                · have p128 := h128; try simp only [bs] at p128
                  have hk : k = (-R).toNat := by omega
                  have hmx : (!mxB (cnS (ocC I os no D) (ocP ts F nt) (D * D) a) R c || !upB (cr (cnS (ocC I os no D) (ocP ts F nt) (D * D) a) c) k) = !mxB (cnS (ocC I os no D) (ocP ts F nt) (D * D) a) R (c + 1) := by rw [hk]; exact mxN_succ _ _ _
                  refine Run.exit rfl ?_
                  refine Run.heldB (base := [.blk b7 56 [.int .i64 ((upS (cr (cnS (ocC I os no D) (ocP ts F nt) (D * D) a) c) k).a), .int .i64 ((upS (cr (cnS (ocC I os no D) (ocP ts F nt) (D * D) a) c) k).b), .int .i64 ((upS (cr (cnS (ocC I os no D) (ocP ts F nt) (D * D) a) c) k).c), .int .i64 ((upS (cr (cnS (ocC I os no D) (ocP ts F nt) (D * D) a) c) k).d)], .blk b3 47 [.bool (!mxB (cnS (ocC I os no D) (ocP ts F nt) (D * D) a) R c || !upB (cr (cnS (ocC I os no D) (ocP ts F nt) (D * D) a) c) k)], .blk b2 29 [.int .i64 0, .int .i64 0, .slice none 0 0], .blk b1 35 [.int .i64 I, .int .i64 V, .int .i64 R, .int .i64 F, .slice At nt ct, .slice Ao no co]]) (by kernel_rfl) ?_
                  refine DW.take (i := 0) (v := .pointer (some ⟨b6, 2, none⟩)) rfl (by kernel_rfl) (by kernel_rfl) (by kernel_rfl) (fun _ _ _ h => h) (Some'.weak (.take (.skip (.skip (.skip (.take (.take (.take (.nil _))))))))) rfl (OpY.fieldAddr Tfo_29_2 rfl rfl) ?_
                  refine DW.take (i := 2) (v := .agg #[.int .i64 ((upS (cr (cnS (ocC I os no D) (ocP ts F nt) (D * D) a) c) k).a), .int .i64 ((upS (cr (cnS (ocC I os no D) (ocP ts F nt) (D * D) a) c) k).b), .int .i64 ((upS (cr (cnS (ocC I os no D) (ocP ts F nt) (D * D) a) c) k).c), .int .i64 ((upS (cr (cnS (ocC I os no D) (ocP ts F nt) (D * D) a) c) k).d)]) rfl (by kernel_rfl) (by kernel_rfl) (by kernel_rfl) (fun _ _ _ h => h) (Some'.weak (.take (.skip (.skip (.skip (.take (.take (.take (.nil _))))))))) rfl (OpY.loadN (cs := [.int .i64 ((upS (cr (cnS (ocC I os no D) (ocP ts F nt) (D * D) a) c) k).a), .int .i64 ((upS (cr (cnS (ocC I os no D) (ocP ts F nt) (D * D) a) c) k).b), .int .i64 ((upS (cr (cnS (ocC I os no D) (ocP ts F nt) (D * D) a) c) k).c), .int .i64 ((upS (cr (cnS (ocC I os no D) (ocP ts F nt) (D * D) a) c) k).d)]) Tagg_56 rfl (Cells.blk (.head _) ⟨rfl, rfl, rfl, rfl, trivial⟩)) ?_
                  refine DW.take (i := 3) (v := .pointer (some ⟨b1, 2, none⟩)) rfl (by kernel_rfl) (by kernel_rfl) (by kernel_rfl) (fun _ _ _ h => h) (Some'.weak (.take (.skip (.skip (.skip (.take (.take (.take (.nil _))))))))) rfl (OpY.fieldAddr Tfo_35_2 rfl rfl) ?_
                  refine DW.take (i := 4) (v := .int .i64 R) rfl (by kernel_rfl) (by kernel_rfl) (by kernel_rfl) (fun _ _ _ h => h) (Some'.weak (.take (.skip (.skip (.skip (.take (.take (.take (.nil _))))))))) rfl (OpY.load1 Tone_3 rfl (Cells.blk (.tail _ (.tail _ (.tail _ (List.Mem.head _)))) ⟨rfl, trivial⟩)) ?_
                  refine DW.two (i := 1) (j := 5) (by kernel_rfl) rfl rfl rfl rfl ?_ ?_
                  · refine OpStep.q (v := vo) (OpQ.y (OpY.load1 Tone_27 rfl (Cells.blk (.tail _ (.tail _ (.tail _ (List.Mem.head _)))) ⟨rfl, trivial⟩))) ?_
                    refine ⟨(Some'.weak (.take (.skip (.skip (.skip (.take (.take (.take (.nil _))))))))), ?_⟩
                    refine DW.step (i := 5) (by kernel_rfl) rfl rfl (OpStep.q (v := .int .i64 (((R.toNat : Nat) : Int))) (OpQ.call (vs := [.int .i64 R, .int .i64 0]) (caps := []) Tcall_22 rfl rfl (fun w hs => (by have h := mostO_spec R 0 w; rw [show max R 0 = ((R.toNat : Nat) : Int) by omega] at h; exact h))) ?_)
                    refine ⟨(Some'.weak (.take (.skip (.skip (.skip (.take (.take (.take (.nil _))))))))), ?_⟩
                    refine DW.step (i := 6) (by kernel_rfl) rfl rfl (OpStep.q (v := .agg #[.int .i64 (((dnR (upS (cr (cnS (ocC I os no D) (ocP ts F nt) (D * D) a) c) k) R.toNat).1).a), .int .i64 (((dnR (upS (cr (cnS (ocC I os no D) (ocP ts F nt) (D * D) a) c) k) R.toNat).1).b), .int .i64 (((dnR (upS (cr (cnS (ocC I os no D) (ocP ts F nt) (D * D) a) c) k) R.toNat).1).c), .int .i64 (((dnR (upS (cr (cnS (ocC I os no D) (ocP ts F nt) (D * D) a) c) k) R.toNat).1).d), .int .i64 ((((dnR (upS (cr (cnS (ocC I os no D) (ocP ts F nt) (D * D) a) c) k) R.toNat).2 : Nat) : Int))]) (OpQ.call (vs := [.agg #[.int .i64 ((upS (cr (cnS (ocC I os no D) (ocP ts F nt) (D * D) a) c) k).a), .int .i64 ((upS (cr (cnS (ocC I os no D) (ocP ts F nt) (D * D) a) c) k).b), .int .i64 ((upS (cr (cnS (ocC I os no D) (ocP ts F nt) (D * D) a) c) k).c), .int .i64 ((upS (cr (cnS (ocC I os no D) (ocP ts F nt) (D * D) a) c) k).d)], .int .i64 (((R.toNat : Nat) : Int))]) (caps := []) Tcall_21 rfl rfl (fun w hs => l2Low_spec (x := upS (cr (cnS (ocC I os no D) (ocP ts F nt) (D * D) a) c) k) (e := R.toNat) (by omega) (upS_good hgx k))) ?_)
                    refine ⟨(Some'.weak (.take (.skip (.skip (.skip (.take (.take (.take (.nil _))))))))), ?_⟩
                    refine DW.step (i := 7) (by kernel_rfl) rfl rfl (OpStep.buildSlice (us := [.int .i64 (((dnR (upS (cr (cnS (ocC I os no D) (ocP ts F nt) (D * D) a) c) k) R.toNat).1).a), .int .i64 (((dnR (upS (cr (cnS (ocC I os no D) (ocP ts F nt) (D * D) a) c) k) R.toNat).1).b), .int .i64 (((dnR (upS (cr (cnS (ocC I os no D) (ocP ts F nt) (D * D) a) c) k) R.toNat).1).c), .int .i64 (((dnR (upS (cr (cnS (ocC I os no D) (ocP ts F nt) (D * D) a) c) k) R.toNat).1).d), .int .i64 ((((dnR (upS (cr (cnS (ocC I os no D) (ocP ts F nt) (D * D) a) c) k) R.toNat).2 : Nat) : Int))]) Tsl_27 (by decide) (by decide) ⟨rfl, [.int .i64 (((dnR (upS (cr (cnS (ocC I os no D) (ocP ts F nt) (D * D) a) c) k) R.toNat).1).a), .int .i64 (((dnR (upS (cr (cnS (ocC I os no D) (ocP ts F nt) (D * D) a) c) k) R.toNat).1).b), .int .i64 (((dnR (upS (cr (cnS (ocC I os no D) (ocP ts F nt) (D * D) a) c) k) R.toNat).1).c), .int .i64 (((dnR (upS (cr (cnS (ocC I os no D) (ocP ts F nt) (D * D) a) c) k) R.toNat).1).d), .int .i64 ((((dnR (upS (cr (cnS (ocC I os no D) (ocP ts F nt) (D * D) a) c) k) R.toNat).2 : Nat) : Int))], _, rfl, rfl, rfl, rfl⟩ rfl fun b8 => ?_)
                    refine ⟨(Some'.weak (.skip (.take (.skip (.skip (.skip (.take (.take (.take (.nil _)))))))))), ?_⟩
                    refine DW.step (i := 8) (by kernel_rfl) rfl rfl (OpStep.append (H1 := [.own (.slice (some ⟨b8, 0, none⟩) 1 1) 61 5 1 ([.int .i64 (((dnR (upS (cr (cnS (ocC I os no D) (ocP ts F nt) (D * D) a) c) k) R.toNat).1).a), .int .i64 (((dnR (upS (cr (cnS (ocC I os no D) (ocP ts F nt) (D * D) a) c) k) R.toNat).1).b), .int .i64 (((dnR (upS (cr (cnS (ocC I os no D) (ocP ts F nt) (D * D) a) c) k) R.toNat).1).c), .int .i64 (((dnR (upS (cr (cnS (ocC I os no D) (ocP ts F nt) (D * D) a) c) k) R.toNat).1).d), .int .i64 ((((dnR (upS (cr (cnS (ocC I os no D) (ocP ts F nt) (D * D) a) c) k) R.toNat).2 : Nat) : Int))]), .blk b7 56 [.int .i64 ((upS (cr (cnS (ocC I os no D) (ocP ts F nt) (D * D) a) c) k).a), .int .i64 ((upS (cr (cnS (ocC I os no D) (ocP ts F nt) (D * D) a) c) k).b), .int .i64 ((upS (cr (cnS (ocC I os no D) (ocP ts F nt) (D * D) a) c) k).c), .int .i64 ((upS (cr (cnS (ocC I os no D) (ocP ts F nt) (D * D) a) c) k).d)]]) (H2 := [.own (.slice (some ⟨b4, 0, none⟩) (D * D) (D * D)) 56 4 (D * D) (ints (smS (ocC I os no D) (ocP ts F nt) (D * D) a)), .blk b6 29 [.int .i64 (((D : Nat) : Int)), .int .i64 (((D : Nat) : Int)), vo], .blk b3 47 [.bool (!mxB (cnS (ocC I os no D) (ocP ts F nt) (D * D) a) R c || !upB (cr (cnS (ocC I os no D) (ocP ts F nt) (D * D) a) c) k)], .blk b2 29 [.int .i64 0, .int .i64 0, .slice none 0 0], .blk b1 35 [.int .i64 I, .int .i64 V, .int .i64 R, .int .i64 F, .slice At nt ct, .slice Ao no co]]) (v := vo) (u := .slice (some ⟨b8, 0, none⟩) 1 1) (n := c) (m := 1) (xs := ints (mxL (cnS (ocC I os no D) (ocP ts F nt) (D * D) a) R c)) (ys := [.int .i64 (((dnR (upS (cr (cnS (ocC I os no D) (ocP ts F nt) (D * D) a) c) k) R.toNat).1).a), .int .i64 (((dnR (upS (cr (cnS (ocC I os no D) (ocP ts F nt) (D * D) a) c) k) R.toNat).1).b), .int .i64 (((dnR (upS (cr (cnS (ocC I os no D) (ocP ts F nt) (D * D) a) c) k) R.toNat).1).c), .int .i64 (((dnR (upS (cr (cnS (ocC I os no D) (ocP ts F nt) (D * D) a) c) k) R.toNat).1).d), .int .i64 ((((dnR (upS (cr (cnS (ocC I os no D) (ocP ts F nt) (D * D) a) c) k) R.toNat).2 : Nat) : Int))]) Tsl_27 (by decide) rfl rfl rfl rfl (fun w hs => hs.slOwn (.head _)) (by simp [Value.oneCell']) (by omega) (by simp only [maxLen]; omega) fun av1 hnav1 => ?_)
                    refine DW.weakS (H' := [.own (.slice (some ⟨b8, 0, none⟩) 1 1) 61 5 1 ([.int .i64 (((dnR (upS (cr (cnS (ocC I os no D) (ocP ts F nt) (D * D) a) c) k) R.toNat).1).a), .int .i64 (((dnR (upS (cr (cnS (ocC I os no D) (ocP ts F nt) (D * D) a) c) k) R.toNat).1).b), .int .i64 (((dnR (upS (cr (cnS (ocC I os no D) (ocP ts F nt) (D * D) a) c) k) R.toNat).1).c), .int .i64 (((dnR (upS (cr (cnS (ocC I os no D) (ocP ts F nt) (D * D) a) c) k) R.toNat).1).d), .int .i64 ((((dnR (upS (cr (cnS (ocC I os no D) (ocP ts F nt) (D * D) a) c) k) R.toNat).2 : Nat) : Int))]), .blk b7 56 [.int .i64 ((upS (cr (cnS (ocC I os no D) (ocP ts F nt) (D * D) a) c) k).a), .int .i64 ((upS (cr (cnS (ocC I os no D) (ocP ts F nt) (D * D) a) c) k).b), .int .i64 ((upS (cr (cnS (ocC I os no D) (ocP ts F nt) (D * D) a) c) k).c), .int .i64 ((upS (cr (cnS (ocC I os no D) (ocP ts F nt) (D * D) a) c) k).d)], .own av1 61 5 (c + 1) (ints (mxL (cnS (ocC I os no D) (ocP ts F nt) (D * D) a) R (c + 1))), .own (.slice (some ⟨b4, 0, none⟩) (D * D) (D * D)) 56 4 (D * D) (ints (smS (ocC I os no D) (ocP ts F nt) (D * D) a)), .blk b6 29 [.int .i64 (((D : Nat) : Int)), .int .i64 (((D : Nat) : Int)), vo], .blk b3 47 [.bool (!mxB (cnS (ocC I os no D) (ocP ts F nt) (D * D) a) R c || !upB (cr (cnS (ocC I os no D) (ocP ts F nt) (D * D) a) c) k)], .blk b2 29 [.int .i64 0, .int .i64 0, .slice none 0 0], .blk b1 35 [.int .i64 I, .int .i64 V, .int .i64 R, .int .i64 F, .slice At nt ct, .slice Ao no co]]) (Some'.weak (.take (.take (.takeEq (by rw [mxL, ints_append, scl, scV, ← hk]; rfl) (.take (.take (.take (.take (.take (.nil _)))))))))) ?_
                    refine ⟨(Some'.weak (.skip (.take (.skip (.skip (.skip (.take (.take (.take (.nil _)))))))))), ?_⟩
                    refine DW.take (i := 9) (v := .pointer (some ⟨b6, 2, none⟩)) rfl (by kernel_rfl) (by kernel_rfl) (by kernel_rfl) (fun _ _ _ h => h) (Some'.weak (.skip (.take (.skip (.skip (.skip (.take (.take (.take (.nil _)))))))))) rfl (OpY.fieldAddr Tfo_29_2 rfl rfl) ?_
                    refine DW.formOwn (.tail _ (.tail _ (List.Mem.head _))) (fun A_av11 c_av11 hv hcapc_av11 hmaxc_av11 => ?_)
                    subst hv
                    refine DW.step (i := 10) (by kernel_rfl) rfl rfl (OpStep.store (us := [.slice A_av11 (c + 1) c_av11]) Tsize_27 rfl rfl rfl (.there _ (.there _ (.there _ (.there _ (.here _))))) (by simp only [List.length_cons, List.length_nil]; omega) ?_)
                    show Weak [.own (.slice (some ⟨b8, 0, none⟩) 1 1) 61 5 1 ([.int .i64 (((dnR (upS (cr (cnS (ocC I os no D) (ocP ts F nt) (D * D) a) c) k) R.toNat).1).a), .int .i64 (((dnR (upS (cr (cnS (ocC I os no D) (ocP ts F nt) (D * D) a) c) k) R.toNat).1).b), .int .i64 (((dnR (upS (cr (cnS (ocC I os no D) (ocP ts F nt) (D * D) a) c) k) R.toNat).1).c), .int .i64 (((dnR (upS (cr (cnS (ocC I os no D) (ocP ts F nt) (D * D) a) c) k) R.toNat).1).d), .int .i64 ((((dnR (upS (cr (cnS (ocC I os no D) (ocP ts F nt) (D * D) a) c) k) R.toNat).2 : Nat) : Int))]), .blk b7 56 [.int .i64 ((upS (cr (cnS (ocC I os no D) (ocP ts F nt) (D * D) a) c) k).a), .int .i64 ((upS (cr (cnS (ocC I os no D) (ocP ts F nt) (D * D) a) c) k).b), .int .i64 ((upS (cr (cnS (ocC I os no D) (ocP ts F nt) (D * D) a) c) k).c), .int .i64 ((upS (cr (cnS (ocC I os no D) (ocP ts F nt) (D * D) a) c) k).d)], .own (.slice A_av11 (c + 1) c_av11) 61 5 (c + 1) (ints (mxL (cnS (ocC I os no D) (ocP ts F nt) (D * D) a) R (c + 1))), .own (.slice (some ⟨b4, 0, none⟩) (D * D) (D * D)) 56 4 (D * D) (ints (smS (ocC I os no D) (ocP ts F nt) (D * D) a)), .blk b6 29 [.int .i64 (((D : Nat) : Int)), .int .i64 (((D : Nat) : Int)), .slice A_av11 (c + 1) c_av11], .blk b3 47 [.bool (!mxB (cnS (ocC I os no D) (ocP ts F nt) (D * D) a) R c || !upB (cr (cnS (ocC I os no D) (ocP ts F nt) (D * D) a) c) k)], .blk b2 29 [.int .i64 0, .int .i64 0, .slice none 0 0], .blk b1 35 [.int .i64 I, .int .i64 V, .int .i64 R, .int .i64 F, .slice At nt ct, .slice Ao no co]] _ ∧ DW _ _ _ _ _ _ _ [.own (.slice (some ⟨b8, 0, none⟩) 1 1) 61 5 1 ([.int .i64 (((dnR (upS (cr (cnS (ocC I os no D) (ocP ts F nt) (D * D) a) c) k) R.toNat).1).a), .int .i64 (((dnR (upS (cr (cnS (ocC I os no D) (ocP ts F nt) (D * D) a) c) k) R.toNat).1).b), .int .i64 (((dnR (upS (cr (cnS (ocC I os no D) (ocP ts F nt) (D * D) a) c) k) R.toNat).1).c), .int .i64 (((dnR (upS (cr (cnS (ocC I os no D) (ocP ts F nt) (D * D) a) c) k) R.toNat).1).d), .int .i64 ((((dnR (upS (cr (cnS (ocC I os no D) (ocP ts F nt) (D * D) a) c) k) R.toNat).2 : Nat) : Int))]), .blk b7 56 [.int .i64 ((upS (cr (cnS (ocC I os no D) (ocP ts F nt) (D * D) a) c) k).a), .int .i64 ((upS (cr (cnS (ocC I os no D) (ocP ts F nt) (D * D) a) c) k).b), .int .i64 ((upS (cr (cnS (ocC I os no D) (ocP ts F nt) (D * D) a) c) k).c), .int .i64 ((upS (cr (cnS (ocC I os no D) (ocP ts F nt) (D * D) a) c) k).d)], .own (.slice A_av11 (c + 1) c_av11) 61 5 (c + 1) (ints (mxL (cnS (ocC I os no D) (ocP ts F nt) (D * D) a) R (c + 1))), .own (.slice (some ⟨b4, 0, none⟩) (D * D) (D * D)) 56 4 (D * D) (ints (smS (ocC I os no D) (ocP ts F nt) (D * D) a)), .blk b6 29 [.int .i64 (((D : Nat) : Int)), .int .i64 (((D : Nat) : Int)), .slice A_av11 (c + 1) c_av11], .blk b3 47 [.bool (!mxB (cnS (ocC I os no D) (ocP ts F nt) (D * D) a) R c || !upB (cr (cnS (ocC I os no D) (ocP ts F nt) (D * D) a) c) k)], .blk b2 29 [.int .i64 0, .int .i64 0, .slice none 0 0], .blk b1 35 [.int .i64 I, .int .i64 V, .int .i64 R, .int .i64 F, .slice At nt ct, .slice Ao no co]]
                    refine ⟨(Some'.weak (.skip (.take (.skip (.skip (.skip (.take (.take (.take (.nil _)))))))))), ?_⟩
                    refine DW.done (by kernel_rfl) ?_
                    refine Run.blockEnd ?_
                    refine Run.region ?_
                    refine Run.q (v := .int .i64 ((((c : Nat) : Int)) + 1)) rfl (OpQ.y (OpY.add rfl rfl rfl (by omega) (by omega))) ?_
                    refine Run.q (v := .int .i64 ((((c : Nat) : Int)) + 1)) rfl (OpQ.y (OpY.pure rfl)) ?_
                    refine Run.done ?_
                    refine Run.goal ⟨(by repeat (first | exact Same.refl _ _ | refine Same.put rfl ?_ | refine Same.over rfl rfl ?_)), (c + 1, .slice A_av11 (c + 1) c_av11), ?_, ?_, ?_, ?_⟩
                    · exact hcD
                    · dsimp only; omega
                    · exact ⟨(by first | rfl | (congr 1; omega) | simp), trivial⟩
                    · exact (Some'.weak (.skip (.skip (.takeEq (by first | rfl | (simp [mxL, ints]; done) | (rw [hmx]; done)) (.takeEq (by first | rfl | (simp [mxL, ints]; done) | (rw [hmx]; done)) (.takeEq (by first | rfl | (simp [mxL, ints]; done) | (rw [hmx]; done)) (.takeEq (by first | rfl | (simp [mxL, ints]; done) | (rw [hmx]; done)) (.take (.take (.nil _))))))))))
                  · refine OpStep.q (v := .int .i64 (((R.toNat : Nat) : Int))) (OpQ.call (vs := [.int .i64 R, .int .i64 0]) (caps := []) Tcall_22 rfl rfl (fun w hs => (by have h := mostO_spec R 0 w; rw [show max R 0 = ((R.toNat : Nat) : Int) by omega] at h; exact h))) ?_
                    refine ⟨(Some'.weak (.take (.skip (.skip (.skip (.take (.take (.take (.nil _))))))))), ?_⟩
                    refine DW.two (i := 1) (j := 6) (by kernel_rfl) rfl rfl rfl rfl ?_ ?_
                    · refine OpStep.q (v := vo) (OpQ.y (OpY.load1 Tone_27 rfl (Cells.blk (.tail _ (.tail _ (.tail _ (List.Mem.head _)))) ⟨rfl, trivial⟩))) ?_
                      refine ⟨(Some'.weak (.take (.skip (.skip (.skip (.take (.take (.take (.nil _))))))))), ?_⟩
                      refine DW.step (i := 6) (by kernel_rfl) rfl rfl (OpStep.q (v := .agg #[.int .i64 (((dnR (upS (cr (cnS (ocC I os no D) (ocP ts F nt) (D * D) a) c) k) R.toNat).1).a), .int .i64 (((dnR (upS (cr (cnS (ocC I os no D) (ocP ts F nt) (D * D) a) c) k) R.toNat).1).b), .int .i64 (((dnR (upS (cr (cnS (ocC I os no D) (ocP ts F nt) (D * D) a) c) k) R.toNat).1).c), .int .i64 (((dnR (upS (cr (cnS (ocC I os no D) (ocP ts F nt) (D * D) a) c) k) R.toNat).1).d), .int .i64 ((((dnR (upS (cr (cnS (ocC I os no D) (ocP ts F nt) (D * D) a) c) k) R.toNat).2 : Nat) : Int))]) (OpQ.call (vs := [.agg #[.int .i64 ((upS (cr (cnS (ocC I os no D) (ocP ts F nt) (D * D) a) c) k).a), .int .i64 ((upS (cr (cnS (ocC I os no D) (ocP ts F nt) (D * D) a) c) k).b), .int .i64 ((upS (cr (cnS (ocC I os no D) (ocP ts F nt) (D * D) a) c) k).c), .int .i64 ((upS (cr (cnS (ocC I os no D) (ocP ts F nt) (D * D) a) c) k).d)], .int .i64 (((R.toNat : Nat) : Int))]) (caps := []) Tcall_21 rfl rfl (fun w hs => l2Low_spec (x := upS (cr (cnS (ocC I os no D) (ocP ts F nt) (D * D) a) c) k) (e := R.toNat) (by omega) (upS_good hgx k))) ?_)
                      refine ⟨(Some'.weak (.take (.skip (.skip (.skip (.take (.take (.take (.nil _))))))))), ?_⟩
                      refine DW.step (i := 7) (by kernel_rfl) rfl rfl (OpStep.buildSlice (us := [.int .i64 (((dnR (upS (cr (cnS (ocC I os no D) (ocP ts F nt) (D * D) a) c) k) R.toNat).1).a), .int .i64 (((dnR (upS (cr (cnS (ocC I os no D) (ocP ts F nt) (D * D) a) c) k) R.toNat).1).b), .int .i64 (((dnR (upS (cr (cnS (ocC I os no D) (ocP ts F nt) (D * D) a) c) k) R.toNat).1).c), .int .i64 (((dnR (upS (cr (cnS (ocC I os no D) (ocP ts F nt) (D * D) a) c) k) R.toNat).1).d), .int .i64 ((((dnR (upS (cr (cnS (ocC I os no D) (ocP ts F nt) (D * D) a) c) k) R.toNat).2 : Nat) : Int))]) Tsl_27 (by decide) (by decide) ⟨rfl, [.int .i64 (((dnR (upS (cr (cnS (ocC I os no D) (ocP ts F nt) (D * D) a) c) k) R.toNat).1).a), .int .i64 (((dnR (upS (cr (cnS (ocC I os no D) (ocP ts F nt) (D * D) a) c) k) R.toNat).1).b), .int .i64 (((dnR (upS (cr (cnS (ocC I os no D) (ocP ts F nt) (D * D) a) c) k) R.toNat).1).c), .int .i64 (((dnR (upS (cr (cnS (ocC I os no D) (ocP ts F nt) (D * D) a) c) k) R.toNat).1).d), .int .i64 ((((dnR (upS (cr (cnS (ocC I os no D) (ocP ts F nt) (D * D) a) c) k) R.toNat).2 : Nat) : Int))], _, rfl, rfl, rfl, rfl⟩ rfl fun b9 => ?_)
                      refine ⟨(Some'.weak (.skip (.take (.skip (.skip (.skip (.take (.take (.take (.nil _)))))))))), ?_⟩
                      refine DW.step (i := 8) (by kernel_rfl) rfl rfl (OpStep.append (H1 := [.own (.slice (some ⟨b9, 0, none⟩) 1 1) 61 5 1 ([.int .i64 (((dnR (upS (cr (cnS (ocC I os no D) (ocP ts F nt) (D * D) a) c) k) R.toNat).1).a), .int .i64 (((dnR (upS (cr (cnS (ocC I os no D) (ocP ts F nt) (D * D) a) c) k) R.toNat).1).b), .int .i64 (((dnR (upS (cr (cnS (ocC I os no D) (ocP ts F nt) (D * D) a) c) k) R.toNat).1).c), .int .i64 (((dnR (upS (cr (cnS (ocC I os no D) (ocP ts F nt) (D * D) a) c) k) R.toNat).1).d), .int .i64 ((((dnR (upS (cr (cnS (ocC I os no D) (ocP ts F nt) (D * D) a) c) k) R.toNat).2 : Nat) : Int))]), .blk b7 56 [.int .i64 ((upS (cr (cnS (ocC I os no D) (ocP ts F nt) (D * D) a) c) k).a), .int .i64 ((upS (cr (cnS (ocC I os no D) (ocP ts F nt) (D * D) a) c) k).b), .int .i64 ((upS (cr (cnS (ocC I os no D) (ocP ts F nt) (D * D) a) c) k).c), .int .i64 ((upS (cr (cnS (ocC I os no D) (ocP ts F nt) (D * D) a) c) k).d)]]) (H2 := [.own (.slice (some ⟨b4, 0, none⟩) (D * D) (D * D)) 56 4 (D * D) (ints (smS (ocC I os no D) (ocP ts F nt) (D * D) a)), .blk b6 29 [.int .i64 (((D : Nat) : Int)), .int .i64 (((D : Nat) : Int)), vo], .blk b3 47 [.bool (!mxB (cnS (ocC I os no D) (ocP ts F nt) (D * D) a) R c || !upB (cr (cnS (ocC I os no D) (ocP ts F nt) (D * D) a) c) k)], .blk b2 29 [.int .i64 0, .int .i64 0, .slice none 0 0], .blk b1 35 [.int .i64 I, .int .i64 V, .int .i64 R, .int .i64 F, .slice At nt ct, .slice Ao no co]]) (v := vo) (u := .slice (some ⟨b9, 0, none⟩) 1 1) (n := c) (m := 1) (xs := ints (mxL (cnS (ocC I os no D) (ocP ts F nt) (D * D) a) R c)) (ys := [.int .i64 (((dnR (upS (cr (cnS (ocC I os no D) (ocP ts F nt) (D * D) a) c) k) R.toNat).1).a), .int .i64 (((dnR (upS (cr (cnS (ocC I os no D) (ocP ts F nt) (D * D) a) c) k) R.toNat).1).b), .int .i64 (((dnR (upS (cr (cnS (ocC I os no D) (ocP ts F nt) (D * D) a) c) k) R.toNat).1).c), .int .i64 (((dnR (upS (cr (cnS (ocC I os no D) (ocP ts F nt) (D * D) a) c) k) R.toNat).1).d), .int .i64 ((((dnR (upS (cr (cnS (ocC I os no D) (ocP ts F nt) (D * D) a) c) k) R.toNat).2 : Nat) : Int))]) Tsl_27 (by decide) rfl rfl rfl rfl (fun w hs => hs.slOwn (.head _)) (by simp [Value.oneCell']) (by omega) (by simp only [maxLen]; omega) fun av2 hnav2 => ?_)
                      refine DW.weakS (H' := [.own (.slice (some ⟨b9, 0, none⟩) 1 1) 61 5 1 ([.int .i64 (((dnR (upS (cr (cnS (ocC I os no D) (ocP ts F nt) (D * D) a) c) k) R.toNat).1).a), .int .i64 (((dnR (upS (cr (cnS (ocC I os no D) (ocP ts F nt) (D * D) a) c) k) R.toNat).1).b), .int .i64 (((dnR (upS (cr (cnS (ocC I os no D) (ocP ts F nt) (D * D) a) c) k) R.toNat).1).c), .int .i64 (((dnR (upS (cr (cnS (ocC I os no D) (ocP ts F nt) (D * D) a) c) k) R.toNat).1).d), .int .i64 ((((dnR (upS (cr (cnS (ocC I os no D) (ocP ts F nt) (D * D) a) c) k) R.toNat).2 : Nat) : Int))]), .blk b7 56 [.int .i64 ((upS (cr (cnS (ocC I os no D) (ocP ts F nt) (D * D) a) c) k).a), .int .i64 ((upS (cr (cnS (ocC I os no D) (ocP ts F nt) (D * D) a) c) k).b), .int .i64 ((upS (cr (cnS (ocC I os no D) (ocP ts F nt) (D * D) a) c) k).c), .int .i64 ((upS (cr (cnS (ocC I os no D) (ocP ts F nt) (D * D) a) c) k).d)], .own av2 61 5 (c + 1) (ints (mxL (cnS (ocC I os no D) (ocP ts F nt) (D * D) a) R (c + 1))), .own (.slice (some ⟨b4, 0, none⟩) (D * D) (D * D)) 56 4 (D * D) (ints (smS (ocC I os no D) (ocP ts F nt) (D * D) a)), .blk b6 29 [.int .i64 (((D : Nat) : Int)), .int .i64 (((D : Nat) : Int)), vo], .blk b3 47 [.bool (!mxB (cnS (ocC I os no D) (ocP ts F nt) (D * D) a) R c || !upB (cr (cnS (ocC I os no D) (ocP ts F nt) (D * D) a) c) k)], .blk b2 29 [.int .i64 0, .int .i64 0, .slice none 0 0], .blk b1 35 [.int .i64 I, .int .i64 V, .int .i64 R, .int .i64 F, .slice At nt ct, .slice Ao no co]]) (Some'.weak (.take (.take (.takeEq (by rw [mxL, ints_append, scl, scV, ← hk]; rfl) (.take (.take (.take (.take (.take (.nil _)))))))))) ?_
                      refine ⟨(Some'.weak (.skip (.take (.skip (.skip (.skip (.take (.take (.take (.nil _)))))))))), ?_⟩
                      refine DW.take (i := 9) (v := .pointer (some ⟨b6, 2, none⟩)) rfl (by kernel_rfl) (by kernel_rfl) (by kernel_rfl) (fun _ _ _ h => h) (Some'.weak (.skip (.take (.skip (.skip (.skip (.take (.take (.take (.nil _)))))))))) rfl (OpY.fieldAddr Tfo_29_2 rfl rfl) ?_
                      refine DW.formOwn (.tail _ (.tail _ (List.Mem.head _))) (fun A_av21 c_av21 hv hcapc_av21 hmaxc_av21 => ?_)
                      subst hv
                      refine DW.step (i := 10) (by kernel_rfl) rfl rfl (OpStep.store (us := [.slice A_av21 (c + 1) c_av21]) Tsize_27 rfl rfl rfl (.there _ (.there _ (.there _ (.there _ (.here _))))) (by simp only [List.length_cons, List.length_nil]; omega) ?_)
                      show Weak [.own (.slice (some ⟨b9, 0, none⟩) 1 1) 61 5 1 ([.int .i64 (((dnR (upS (cr (cnS (ocC I os no D) (ocP ts F nt) (D * D) a) c) k) R.toNat).1).a), .int .i64 (((dnR (upS (cr (cnS (ocC I os no D) (ocP ts F nt) (D * D) a) c) k) R.toNat).1).b), .int .i64 (((dnR (upS (cr (cnS (ocC I os no D) (ocP ts F nt) (D * D) a) c) k) R.toNat).1).c), .int .i64 (((dnR (upS (cr (cnS (ocC I os no D) (ocP ts F nt) (D * D) a) c) k) R.toNat).1).d), .int .i64 ((((dnR (upS (cr (cnS (ocC I os no D) (ocP ts F nt) (D * D) a) c) k) R.toNat).2 : Nat) : Int))]), .blk b7 56 [.int .i64 ((upS (cr (cnS (ocC I os no D) (ocP ts F nt) (D * D) a) c) k).a), .int .i64 ((upS (cr (cnS (ocC I os no D) (ocP ts F nt) (D * D) a) c) k).b), .int .i64 ((upS (cr (cnS (ocC I os no D) (ocP ts F nt) (D * D) a) c) k).c), .int .i64 ((upS (cr (cnS (ocC I os no D) (ocP ts F nt) (D * D) a) c) k).d)], .own (.slice A_av21 (c + 1) c_av21) 61 5 (c + 1) (ints (mxL (cnS (ocC I os no D) (ocP ts F nt) (D * D) a) R (c + 1))), .own (.slice (some ⟨b4, 0, none⟩) (D * D) (D * D)) 56 4 (D * D) (ints (smS (ocC I os no D) (ocP ts F nt) (D * D) a)), .blk b6 29 [.int .i64 (((D : Nat) : Int)), .int .i64 (((D : Nat) : Int)), .slice A_av21 (c + 1) c_av21], .blk b3 47 [.bool (!mxB (cnS (ocC I os no D) (ocP ts F nt) (D * D) a) R c || !upB (cr (cnS (ocC I os no D) (ocP ts F nt) (D * D) a) c) k)], .blk b2 29 [.int .i64 0, .int .i64 0, .slice none 0 0], .blk b1 35 [.int .i64 I, .int .i64 V, .int .i64 R, .int .i64 F, .slice At nt ct, .slice Ao no co]] _ ∧ DW _ _ _ _ _ _ _ [.own (.slice (some ⟨b9, 0, none⟩) 1 1) 61 5 1 ([.int .i64 (((dnR (upS (cr (cnS (ocC I os no D) (ocP ts F nt) (D * D) a) c) k) R.toNat).1).a), .int .i64 (((dnR (upS (cr (cnS (ocC I os no D) (ocP ts F nt) (D * D) a) c) k) R.toNat).1).b), .int .i64 (((dnR (upS (cr (cnS (ocC I os no D) (ocP ts F nt) (D * D) a) c) k) R.toNat).1).c), .int .i64 (((dnR (upS (cr (cnS (ocC I os no D) (ocP ts F nt) (D * D) a) c) k) R.toNat).1).d), .int .i64 ((((dnR (upS (cr (cnS (ocC I os no D) (ocP ts F nt) (D * D) a) c) k) R.toNat).2 : Nat) : Int))]), .blk b7 56 [.int .i64 ((upS (cr (cnS (ocC I os no D) (ocP ts F nt) (D * D) a) c) k).a), .int .i64 ((upS (cr (cnS (ocC I os no D) (ocP ts F nt) (D * D) a) c) k).b), .int .i64 ((upS (cr (cnS (ocC I os no D) (ocP ts F nt) (D * D) a) c) k).c), .int .i64 ((upS (cr (cnS (ocC I os no D) (ocP ts F nt) (D * D) a) c) k).d)], .own (.slice A_av21 (c + 1) c_av21) 61 5 (c + 1) (ints (mxL (cnS (ocC I os no D) (ocP ts F nt) (D * D) a) R (c + 1))), .own (.slice (some ⟨b4, 0, none⟩) (D * D) (D * D)) 56 4 (D * D) (ints (smS (ocC I os no D) (ocP ts F nt) (D * D) a)), .blk b6 29 [.int .i64 (((D : Nat) : Int)), .int .i64 (((D : Nat) : Int)), .slice A_av21 (c + 1) c_av21], .blk b3 47 [.bool (!mxB (cnS (ocC I os no D) (ocP ts F nt) (D * D) a) R c || !upB (cr (cnS (ocC I os no D) (ocP ts F nt) (D * D) a) c) k)], .blk b2 29 [.int .i64 0, .int .i64 0, .slice none 0 0], .blk b1 35 [.int .i64 I, .int .i64 V, .int .i64 R, .int .i64 F, .slice At nt ct, .slice Ao no co]]
                      refine ⟨(Some'.weak (.skip (.take (.skip (.skip (.skip (.take (.take (.take (.nil _)))))))))), ?_⟩
                      refine DW.done (by kernel_rfl) ?_
                      refine Run.blockEnd ?_
                      refine Run.region ?_
                      refine Run.q (v := .int .i64 ((((c : Nat) : Int)) + 1)) rfl (OpQ.y (OpY.add rfl rfl rfl (by omega) (by omega))) ?_
                      refine Run.q (v := .int .i64 ((((c : Nat) : Int)) + 1)) rfl (OpQ.y (OpY.pure rfl)) ?_
                      refine Run.done ?_
                      refine Run.goal ⟨(by repeat (first | exact Same.refl _ _ | refine Same.put rfl ?_ | refine Same.over rfl rfl ?_)), (c + 1, .slice A_av21 (c + 1) c_av21), ?_, ?_, ?_, ?_⟩
                      · exact hcD
                      · dsimp only; omega
                      · exact ⟨(by first | rfl | (congr 1; omega) | simp), trivial⟩
                      · exact (Some'.weak (.skip (.skip (.takeEq (by first | rfl | (simp [mxL, ints]; done) | (rw [hmx]; done)) (.takeEq (by first | rfl | (simp [mxL, ints]; done) | (rw [hmx]; done)) (.takeEq (by first | rfl | (simp [mxL, ints]; done) | (rw [hmx]; done)) (.takeEq (by first | rfl | (simp [mxL, ints]; done) | (rw [hmx]; done)) (.take (.take (.nil _))))))))))
                    · refine OpStep.q (v := .agg #[.int .i64 (((dnR (upS (cr (cnS (ocC I os no D) (ocP ts F nt) (D * D) a) c) k) R.toNat).1).a), .int .i64 (((dnR (upS (cr (cnS (ocC I os no D) (ocP ts F nt) (D * D) a) c) k) R.toNat).1).b), .int .i64 (((dnR (upS (cr (cnS (ocC I os no D) (ocP ts F nt) (D * D) a) c) k) R.toNat).1).c), .int .i64 (((dnR (upS (cr (cnS (ocC I os no D) (ocP ts F nt) (D * D) a) c) k) R.toNat).1).d), .int .i64 ((((dnR (upS (cr (cnS (ocC I os no D) (ocP ts F nt) (D * D) a) c) k) R.toNat).2 : Nat) : Int))]) (OpQ.call (vs := [.agg #[.int .i64 ((upS (cr (cnS (ocC I os no D) (ocP ts F nt) (D * D) a) c) k).a), .int .i64 ((upS (cr (cnS (ocC I os no D) (ocP ts F nt) (D * D) a) c) k).b), .int .i64 ((upS (cr (cnS (ocC I os no D) (ocP ts F nt) (D * D) a) c) k).c), .int .i64 ((upS (cr (cnS (ocC I os no D) (ocP ts F nt) (D * D) a) c) k).d)], .int .i64 (((R.toNat : Nat) : Int))]) (caps := []) Tcall_21 rfl rfl (fun w hs => l2Low_spec (x := upS (cr (cnS (ocC I os no D) (ocP ts F nt) (D * D) a) c) k) (e := R.toNat) (by omega) (upS_good hgx k))) ?_
                      refine ⟨(Some'.weak (.take (.skip (.skip (.skip (.take (.take (.take (.nil _))))))))), ?_⟩
                      refine DW.two (i := 1) (j := 7) (by kernel_rfl) rfl rfl rfl rfl ?_ ?_
                      · refine OpStep.q (v := vo) (OpQ.y (OpY.load1 Tone_27 rfl (Cells.blk (.tail _ (.tail _ (.tail _ (List.Mem.head _)))) ⟨rfl, trivial⟩))) ?_
                        refine ⟨(Some'.weak (.take (.skip (.skip (.skip (.take (.take (.take (.nil _))))))))), ?_⟩
                        refine DW.step (i := 7) (by kernel_rfl) rfl rfl (OpStep.buildSlice (us := [.int .i64 (((dnR (upS (cr (cnS (ocC I os no D) (ocP ts F nt) (D * D) a) c) k) R.toNat).1).a), .int .i64 (((dnR (upS (cr (cnS (ocC I os no D) (ocP ts F nt) (D * D) a) c) k) R.toNat).1).b), .int .i64 (((dnR (upS (cr (cnS (ocC I os no D) (ocP ts F nt) (D * D) a) c) k) R.toNat).1).c), .int .i64 (((dnR (upS (cr (cnS (ocC I os no D) (ocP ts F nt) (D * D) a) c) k) R.toNat).1).d), .int .i64 ((((dnR (upS (cr (cnS (ocC I os no D) (ocP ts F nt) (D * D) a) c) k) R.toNat).2 : Nat) : Int))]) Tsl_27 (by decide) (by decide) ⟨rfl, [.int .i64 (((dnR (upS (cr (cnS (ocC I os no D) (ocP ts F nt) (D * D) a) c) k) R.toNat).1).a), .int .i64 (((dnR (upS (cr (cnS (ocC I os no D) (ocP ts F nt) (D * D) a) c) k) R.toNat).1).b), .int .i64 (((dnR (upS (cr (cnS (ocC I os no D) (ocP ts F nt) (D * D) a) c) k) R.toNat).1).c), .int .i64 (((dnR (upS (cr (cnS (ocC I os no D) (ocP ts F nt) (D * D) a) c) k) R.toNat).1).d), .int .i64 ((((dnR (upS (cr (cnS (ocC I os no D) (ocP ts F nt) (D * D) a) c) k) R.toNat).2 : Nat) : Int))], _, rfl, rfl, rfl, rfl⟩ rfl fun b10 => ?_)
                        refine ⟨(Some'.weak (.skip (.take (.skip (.skip (.skip (.take (.take (.take (.nil _)))))))))), ?_⟩
                        refine DW.step (i := 8) (by kernel_rfl) rfl rfl (OpStep.append (H1 := [.own (.slice (some ⟨b10, 0, none⟩) 1 1) 61 5 1 ([.int .i64 (((dnR (upS (cr (cnS (ocC I os no D) (ocP ts F nt) (D * D) a) c) k) R.toNat).1).a), .int .i64 (((dnR (upS (cr (cnS (ocC I os no D) (ocP ts F nt) (D * D) a) c) k) R.toNat).1).b), .int .i64 (((dnR (upS (cr (cnS (ocC I os no D) (ocP ts F nt) (D * D) a) c) k) R.toNat).1).c), .int .i64 (((dnR (upS (cr (cnS (ocC I os no D) (ocP ts F nt) (D * D) a) c) k) R.toNat).1).d), .int .i64 ((((dnR (upS (cr (cnS (ocC I os no D) (ocP ts F nt) (D * D) a) c) k) R.toNat).2 : Nat) : Int))]), .blk b7 56 [.int .i64 ((upS (cr (cnS (ocC I os no D) (ocP ts F nt) (D * D) a) c) k).a), .int .i64 ((upS (cr (cnS (ocC I os no D) (ocP ts F nt) (D * D) a) c) k).b), .int .i64 ((upS (cr (cnS (ocC I os no D) (ocP ts F nt) (D * D) a) c) k).c), .int .i64 ((upS (cr (cnS (ocC I os no D) (ocP ts F nt) (D * D) a) c) k).d)]]) (H2 := [.own (.slice (some ⟨b4, 0, none⟩) (D * D) (D * D)) 56 4 (D * D) (ints (smS (ocC I os no D) (ocP ts F nt) (D * D) a)), .blk b6 29 [.int .i64 (((D : Nat) : Int)), .int .i64 (((D : Nat) : Int)), vo], .blk b3 47 [.bool (!mxB (cnS (ocC I os no D) (ocP ts F nt) (D * D) a) R c || !upB (cr (cnS (ocC I os no D) (ocP ts F nt) (D * D) a) c) k)], .blk b2 29 [.int .i64 0, .int .i64 0, .slice none 0 0], .blk b1 35 [.int .i64 I, .int .i64 V, .int .i64 R, .int .i64 F, .slice At nt ct, .slice Ao no co]]) (v := vo) (u := .slice (some ⟨b10, 0, none⟩) 1 1) (n := c) (m := 1) (xs := ints (mxL (cnS (ocC I os no D) (ocP ts F nt) (D * D) a) R c)) (ys := [.int .i64 (((dnR (upS (cr (cnS (ocC I os no D) (ocP ts F nt) (D * D) a) c) k) R.toNat).1).a), .int .i64 (((dnR (upS (cr (cnS (ocC I os no D) (ocP ts F nt) (D * D) a) c) k) R.toNat).1).b), .int .i64 (((dnR (upS (cr (cnS (ocC I os no D) (ocP ts F nt) (D * D) a) c) k) R.toNat).1).c), .int .i64 (((dnR (upS (cr (cnS (ocC I os no D) (ocP ts F nt) (D * D) a) c) k) R.toNat).1).d), .int .i64 ((((dnR (upS (cr (cnS (ocC I os no D) (ocP ts F nt) (D * D) a) c) k) R.toNat).2 : Nat) : Int))]) Tsl_27 (by decide) rfl rfl rfl rfl (fun w hs => hs.slOwn (.head _)) (by simp [Value.oneCell']) (by omega) (by simp only [maxLen]; omega) fun av3 hnav3 => ?_)
                        refine DW.weakS (H' := [.own (.slice (some ⟨b10, 0, none⟩) 1 1) 61 5 1 ([.int .i64 (((dnR (upS (cr (cnS (ocC I os no D) (ocP ts F nt) (D * D) a) c) k) R.toNat).1).a), .int .i64 (((dnR (upS (cr (cnS (ocC I os no D) (ocP ts F nt) (D * D) a) c) k) R.toNat).1).b), .int .i64 (((dnR (upS (cr (cnS (ocC I os no D) (ocP ts F nt) (D * D) a) c) k) R.toNat).1).c), .int .i64 (((dnR (upS (cr (cnS (ocC I os no D) (ocP ts F nt) (D * D) a) c) k) R.toNat).1).d), .int .i64 ((((dnR (upS (cr (cnS (ocC I os no D) (ocP ts F nt) (D * D) a) c) k) R.toNat).2 : Nat) : Int))]), .blk b7 56 [.int .i64 ((upS (cr (cnS (ocC I os no D) (ocP ts F nt) (D * D) a) c) k).a), .int .i64 ((upS (cr (cnS (ocC I os no D) (ocP ts F nt) (D * D) a) c) k).b), .int .i64 ((upS (cr (cnS (ocC I os no D) (ocP ts F nt) (D * D) a) c) k).c), .int .i64 ((upS (cr (cnS (ocC I os no D) (ocP ts F nt) (D * D) a) c) k).d)], .own av3 61 5 (c + 1) (ints (mxL (cnS (ocC I os no D) (ocP ts F nt) (D * D) a) R (c + 1))), .own (.slice (some ⟨b4, 0, none⟩) (D * D) (D * D)) 56 4 (D * D) (ints (smS (ocC I os no D) (ocP ts F nt) (D * D) a)), .blk b6 29 [.int .i64 (((D : Nat) : Int)), .int .i64 (((D : Nat) : Int)), vo], .blk b3 47 [.bool (!mxB (cnS (ocC I os no D) (ocP ts F nt) (D * D) a) R c || !upB (cr (cnS (ocC I os no D) (ocP ts F nt) (D * D) a) c) k)], .blk b2 29 [.int .i64 0, .int .i64 0, .slice none 0 0], .blk b1 35 [.int .i64 I, .int .i64 V, .int .i64 R, .int .i64 F, .slice At nt ct, .slice Ao no co]]) (Some'.weak (.take (.take (.takeEq (by rw [mxL, ints_append, scl, scV, ← hk]; rfl) (.take (.take (.take (.take (.take (.nil _)))))))))) ?_
                        refine ⟨(Some'.weak (.skip (.take (.skip (.skip (.skip (.take (.take (.take (.nil _)))))))))), ?_⟩
                        refine DW.take (i := 9) (v := .pointer (some ⟨b6, 2, none⟩)) rfl (by kernel_rfl) (by kernel_rfl) (by kernel_rfl) (fun _ _ _ h => h) (Some'.weak (.skip (.take (.skip (.skip (.skip (.take (.take (.take (.nil _)))))))))) rfl (OpY.fieldAddr Tfo_29_2 rfl rfl) ?_
                        refine DW.formOwn (.tail _ (.tail _ (List.Mem.head _))) (fun A_av31 c_av31 hv hcapc_av31 hmaxc_av31 => ?_)
                        subst hv
                        refine DW.step (i := 10) (by kernel_rfl) rfl rfl (OpStep.store (us := [.slice A_av31 (c + 1) c_av31]) Tsize_27 rfl rfl rfl (.there _ (.there _ (.there _ (.there _ (.here _))))) (by simp only [List.length_cons, List.length_nil]; omega) ?_)
                        show Weak [.own (.slice (some ⟨b10, 0, none⟩) 1 1) 61 5 1 ([.int .i64 (((dnR (upS (cr (cnS (ocC I os no D) (ocP ts F nt) (D * D) a) c) k) R.toNat).1).a), .int .i64 (((dnR (upS (cr (cnS (ocC I os no D) (ocP ts F nt) (D * D) a) c) k) R.toNat).1).b), .int .i64 (((dnR (upS (cr (cnS (ocC I os no D) (ocP ts F nt) (D * D) a) c) k) R.toNat).1).c), .int .i64 (((dnR (upS (cr (cnS (ocC I os no D) (ocP ts F nt) (D * D) a) c) k) R.toNat).1).d), .int .i64 ((((dnR (upS (cr (cnS (ocC I os no D) (ocP ts F nt) (D * D) a) c) k) R.toNat).2 : Nat) : Int))]), .blk b7 56 [.int .i64 ((upS (cr (cnS (ocC I os no D) (ocP ts F nt) (D * D) a) c) k).a), .int .i64 ((upS (cr (cnS (ocC I os no D) (ocP ts F nt) (D * D) a) c) k).b), .int .i64 ((upS (cr (cnS (ocC I os no D) (ocP ts F nt) (D * D) a) c) k).c), .int .i64 ((upS (cr (cnS (ocC I os no D) (ocP ts F nt) (D * D) a) c) k).d)], .own (.slice A_av31 (c + 1) c_av31) 61 5 (c + 1) (ints (mxL (cnS (ocC I os no D) (ocP ts F nt) (D * D) a) R (c + 1))), .own (.slice (some ⟨b4, 0, none⟩) (D * D) (D * D)) 56 4 (D * D) (ints (smS (ocC I os no D) (ocP ts F nt) (D * D) a)), .blk b6 29 [.int .i64 (((D : Nat) : Int)), .int .i64 (((D : Nat) : Int)), .slice A_av31 (c + 1) c_av31], .blk b3 47 [.bool (!mxB (cnS (ocC I os no D) (ocP ts F nt) (D * D) a) R c || !upB (cr (cnS (ocC I os no D) (ocP ts F nt) (D * D) a) c) k)], .blk b2 29 [.int .i64 0, .int .i64 0, .slice none 0 0], .blk b1 35 [.int .i64 I, .int .i64 V, .int .i64 R, .int .i64 F, .slice At nt ct, .slice Ao no co]] _ ∧ DW _ _ _ _ _ _ _ [.own (.slice (some ⟨b10, 0, none⟩) 1 1) 61 5 1 ([.int .i64 (((dnR (upS (cr (cnS (ocC I os no D) (ocP ts F nt) (D * D) a) c) k) R.toNat).1).a), .int .i64 (((dnR (upS (cr (cnS (ocC I os no D) (ocP ts F nt) (D * D) a) c) k) R.toNat).1).b), .int .i64 (((dnR (upS (cr (cnS (ocC I os no D) (ocP ts F nt) (D * D) a) c) k) R.toNat).1).c), .int .i64 (((dnR (upS (cr (cnS (ocC I os no D) (ocP ts F nt) (D * D) a) c) k) R.toNat).1).d), .int .i64 ((((dnR (upS (cr (cnS (ocC I os no D) (ocP ts F nt) (D * D) a) c) k) R.toNat).2 : Nat) : Int))]), .blk b7 56 [.int .i64 ((upS (cr (cnS (ocC I os no D) (ocP ts F nt) (D * D) a) c) k).a), .int .i64 ((upS (cr (cnS (ocC I os no D) (ocP ts F nt) (D * D) a) c) k).b), .int .i64 ((upS (cr (cnS (ocC I os no D) (ocP ts F nt) (D * D) a) c) k).c), .int .i64 ((upS (cr (cnS (ocC I os no D) (ocP ts F nt) (D * D) a) c) k).d)], .own (.slice A_av31 (c + 1) c_av31) 61 5 (c + 1) (ints (mxL (cnS (ocC I os no D) (ocP ts F nt) (D * D) a) R (c + 1))), .own (.slice (some ⟨b4, 0, none⟩) (D * D) (D * D)) 56 4 (D * D) (ints (smS (ocC I os no D) (ocP ts F nt) (D * D) a)), .blk b6 29 [.int .i64 (((D : Nat) : Int)), .int .i64 (((D : Nat) : Int)), .slice A_av31 (c + 1) c_av31], .blk b3 47 [.bool (!mxB (cnS (ocC I os no D) (ocP ts F nt) (D * D) a) R c || !upB (cr (cnS (ocC I os no D) (ocP ts F nt) (D * D) a) c) k)], .blk b2 29 [.int .i64 0, .int .i64 0, .slice none 0 0], .blk b1 35 [.int .i64 I, .int .i64 V, .int .i64 R, .int .i64 F, .slice At nt ct, .slice Ao no co]]
                        refine ⟨(Some'.weak (.skip (.take (.skip (.skip (.skip (.take (.take (.take (.nil _)))))))))), ?_⟩
                        refine DW.done (by kernel_rfl) ?_
                        refine Run.blockEnd ?_
                        refine Run.region ?_
                        refine Run.q (v := .int .i64 ((((c : Nat) : Int)) + 1)) rfl (OpQ.y (OpY.add rfl rfl rfl (by omega) (by omega))) ?_
                        refine Run.q (v := .int .i64 ((((c : Nat) : Int)) + 1)) rfl (OpQ.y (OpY.pure rfl)) ?_
                        refine Run.done ?_
                        refine Run.goal ⟨(by repeat (first | exact Same.refl _ _ | refine Same.put rfl ?_ | refine Same.over rfl rfl ?_)), (c + 1, .slice A_av31 (c + 1) c_av31), ?_, ?_, ?_, ?_⟩
                        · exact hcD
                        · dsimp only; omega
                        · exact ⟨(by first | rfl | (congr 1; omega) | simp), trivial⟩
                        · exact (Some'.weak (.skip (.skip (.takeEq (by first | rfl | (simp [mxL, ints]; done) | (rw [hmx]; done)) (.takeEq (by first | rfl | (simp [mxL, ints]; done) | (rw [hmx]; done)) (.takeEq (by first | rfl | (simp [mxL, ints]; done) | (rw [hmx]; done)) (.takeEq (by first | rfl | (simp [mxL, ints]; done) | (rw [hmx]; done)) (.take (.take (.nil _))))))))))
                      · refine OpStep.buildSlice (us := [.int .i64 (((dnR (upS (cr (cnS (ocC I os no D) (ocP ts F nt) (D * D) a) c) k) R.toNat).1).a), .int .i64 (((dnR (upS (cr (cnS (ocC I os no D) (ocP ts F nt) (D * D) a) c) k) R.toNat).1).b), .int .i64 (((dnR (upS (cr (cnS (ocC I os no D) (ocP ts F nt) (D * D) a) c) k) R.toNat).1).c), .int .i64 (((dnR (upS (cr (cnS (ocC I os no D) (ocP ts F nt) (D * D) a) c) k) R.toNat).1).d), .int .i64 ((((dnR (upS (cr (cnS (ocC I os no D) (ocP ts F nt) (D * D) a) c) k) R.toNat).2 : Nat) : Int))]) Tsl_27 (by decide) (by decide) ⟨rfl, [.int .i64 (((dnR (upS (cr (cnS (ocC I os no D) (ocP ts F nt) (D * D) a) c) k) R.toNat).1).a), .int .i64 (((dnR (upS (cr (cnS (ocC I os no D) (ocP ts F nt) (D * D) a) c) k) R.toNat).1).b), .int .i64 (((dnR (upS (cr (cnS (ocC I os no D) (ocP ts F nt) (D * D) a) c) k) R.toNat).1).c), .int .i64 (((dnR (upS (cr (cnS (ocC I os no D) (ocP ts F nt) (D * D) a) c) k) R.toNat).1).d), .int .i64 ((((dnR (upS (cr (cnS (ocC I os no D) (ocP ts F nt) (D * D) a) c) k) R.toNat).2 : Nat) : Int))], _, rfl, rfl, rfl, rfl⟩ rfl fun b11 => ?_
                        refine ⟨(Some'.weak (.skip (.take (.skip (.skip (.skip (.take (.take (.take (.nil _)))))))))), ?_⟩
                        refine DW.step (i := 1) (by kernel_rfl) rfl rfl (OpStep.q (v := vo) (OpQ.y (OpY.load1 Tone_27 rfl (Cells.blk (.tail _ (.tail _ (.tail _ (.tail _ (List.Mem.head _))))) ⟨rfl, trivial⟩))) ?_)
                        refine ⟨(Some'.weak (.skip (.take (.skip (.skip (.skip (.take (.take (.take (.nil _)))))))))), ?_⟩
                        refine DW.step (i := 8) (by kernel_rfl) rfl rfl (OpStep.append (H1 := [.own (.slice (some ⟨b11, 0, none⟩) 1 1) 61 5 1 ([.int .i64 (((dnR (upS (cr (cnS (ocC I os no D) (ocP ts F nt) (D * D) a) c) k) R.toNat).1).a), .int .i64 (((dnR (upS (cr (cnS (ocC I os no D) (ocP ts F nt) (D * D) a) c) k) R.toNat).1).b), .int .i64 (((dnR (upS (cr (cnS (ocC I os no D) (ocP ts F nt) (D * D) a) c) k) R.toNat).1).c), .int .i64 (((dnR (upS (cr (cnS (ocC I os no D) (ocP ts F nt) (D * D) a) c) k) R.toNat).1).d), .int .i64 ((((dnR (upS (cr (cnS (ocC I os no D) (ocP ts F nt) (D * D) a) c) k) R.toNat).2 : Nat) : Int))]), .blk b7 56 [.int .i64 ((upS (cr (cnS (ocC I os no D) (ocP ts F nt) (D * D) a) c) k).a), .int .i64 ((upS (cr (cnS (ocC I os no D) (ocP ts F nt) (D * D) a) c) k).b), .int .i64 ((upS (cr (cnS (ocC I os no D) (ocP ts F nt) (D * D) a) c) k).c), .int .i64 ((upS (cr (cnS (ocC I os no D) (ocP ts F nt) (D * D) a) c) k).d)]]) (H2 := [.own (.slice (some ⟨b4, 0, none⟩) (D * D) (D * D)) 56 4 (D * D) (ints (smS (ocC I os no D) (ocP ts F nt) (D * D) a)), .blk b6 29 [.int .i64 (((D : Nat) : Int)), .int .i64 (((D : Nat) : Int)), vo], .blk b3 47 [.bool (!mxB (cnS (ocC I os no D) (ocP ts F nt) (D * D) a) R c || !upB (cr (cnS (ocC I os no D) (ocP ts F nt) (D * D) a) c) k)], .blk b2 29 [.int .i64 0, .int .i64 0, .slice none 0 0], .blk b1 35 [.int .i64 I, .int .i64 V, .int .i64 R, .int .i64 F, .slice At nt ct, .slice Ao no co]]) (v := vo) (u := .slice (some ⟨b11, 0, none⟩) 1 1) (n := c) (m := 1) (xs := ints (mxL (cnS (ocC I os no D) (ocP ts F nt) (D * D) a) R c)) (ys := [.int .i64 (((dnR (upS (cr (cnS (ocC I os no D) (ocP ts F nt) (D * D) a) c) k) R.toNat).1).a), .int .i64 (((dnR (upS (cr (cnS (ocC I os no D) (ocP ts F nt) (D * D) a) c) k) R.toNat).1).b), .int .i64 (((dnR (upS (cr (cnS (ocC I os no D) (ocP ts F nt) (D * D) a) c) k) R.toNat).1).c), .int .i64 (((dnR (upS (cr (cnS (ocC I os no D) (ocP ts F nt) (D * D) a) c) k) R.toNat).1).d), .int .i64 ((((dnR (upS (cr (cnS (ocC I os no D) (ocP ts F nt) (D * D) a) c) k) R.toNat).2 : Nat) : Int))]) Tsl_27 (by decide) rfl rfl rfl rfl (fun w hs => hs.slOwn (.head _)) (by simp [Value.oneCell']) (by omega) (by simp only [maxLen]; omega) fun av4 hnav4 => ?_)
                        refine DW.weakS (H' := [.own (.slice (some ⟨b11, 0, none⟩) 1 1) 61 5 1 ([.int .i64 (((dnR (upS (cr (cnS (ocC I os no D) (ocP ts F nt) (D * D) a) c) k) R.toNat).1).a), .int .i64 (((dnR (upS (cr (cnS (ocC I os no D) (ocP ts F nt) (D * D) a) c) k) R.toNat).1).b), .int .i64 (((dnR (upS (cr (cnS (ocC I os no D) (ocP ts F nt) (D * D) a) c) k) R.toNat).1).c), .int .i64 (((dnR (upS (cr (cnS (ocC I os no D) (ocP ts F nt) (D * D) a) c) k) R.toNat).1).d), .int .i64 ((((dnR (upS (cr (cnS (ocC I os no D) (ocP ts F nt) (D * D) a) c) k) R.toNat).2 : Nat) : Int))]), .blk b7 56 [.int .i64 ((upS (cr (cnS (ocC I os no D) (ocP ts F nt) (D * D) a) c) k).a), .int .i64 ((upS (cr (cnS (ocC I os no D) (ocP ts F nt) (D * D) a) c) k).b), .int .i64 ((upS (cr (cnS (ocC I os no D) (ocP ts F nt) (D * D) a) c) k).c), .int .i64 ((upS (cr (cnS (ocC I os no D) (ocP ts F nt) (D * D) a) c) k).d)], .own av4 61 5 (c + 1) (ints (mxL (cnS (ocC I os no D) (ocP ts F nt) (D * D) a) R (c + 1))), .own (.slice (some ⟨b4, 0, none⟩) (D * D) (D * D)) 56 4 (D * D) (ints (smS (ocC I os no D) (ocP ts F nt) (D * D) a)), .blk b6 29 [.int .i64 (((D : Nat) : Int)), .int .i64 (((D : Nat) : Int)), vo], .blk b3 47 [.bool (!mxB (cnS (ocC I os no D) (ocP ts F nt) (D * D) a) R c || !upB (cr (cnS (ocC I os no D) (ocP ts F nt) (D * D) a) c) k)], .blk b2 29 [.int .i64 0, .int .i64 0, .slice none 0 0], .blk b1 35 [.int .i64 I, .int .i64 V, .int .i64 R, .int .i64 F, .slice At nt ct, .slice Ao no co]]) (Some'.weak (.take (.take (.takeEq (by rw [mxL, ints_append, scl, scV, ← hk]; rfl) (.take (.take (.take (.take (.take (.nil _)))))))))) ?_
                        refine ⟨(Some'.weak (.skip (.take (.skip (.skip (.skip (.take (.take (.take (.nil _)))))))))), ?_⟩
                        refine DW.take (i := 9) (v := .pointer (some ⟨b6, 2, none⟩)) rfl (by kernel_rfl) (by kernel_rfl) (by kernel_rfl) (fun _ _ _ h => h) (Some'.weak (.skip (.take (.skip (.skip (.skip (.take (.take (.take (.nil _)))))))))) rfl (OpY.fieldAddr Tfo_29_2 rfl rfl) ?_
                        refine DW.formOwn (.tail _ (.tail _ (List.Mem.head _))) (fun A_av41 c_av41 hv hcapc_av41 hmaxc_av41 => ?_)
                        subst hv
                        refine DW.step (i := 10) (by kernel_rfl) rfl rfl (OpStep.store (us := [.slice A_av41 (c + 1) c_av41]) Tsize_27 rfl rfl rfl (.there _ (.there _ (.there _ (.there _ (.here _))))) (by simp only [List.length_cons, List.length_nil]; omega) ?_)
                        show Weak [.own (.slice (some ⟨b11, 0, none⟩) 1 1) 61 5 1 ([.int .i64 (((dnR (upS (cr (cnS (ocC I os no D) (ocP ts F nt) (D * D) a) c) k) R.toNat).1).a), .int .i64 (((dnR (upS (cr (cnS (ocC I os no D) (ocP ts F nt) (D * D) a) c) k) R.toNat).1).b), .int .i64 (((dnR (upS (cr (cnS (ocC I os no D) (ocP ts F nt) (D * D) a) c) k) R.toNat).1).c), .int .i64 (((dnR (upS (cr (cnS (ocC I os no D) (ocP ts F nt) (D * D) a) c) k) R.toNat).1).d), .int .i64 ((((dnR (upS (cr (cnS (ocC I os no D) (ocP ts F nt) (D * D) a) c) k) R.toNat).2 : Nat) : Int))]), .blk b7 56 [.int .i64 ((upS (cr (cnS (ocC I os no D) (ocP ts F nt) (D * D) a) c) k).a), .int .i64 ((upS (cr (cnS (ocC I os no D) (ocP ts F nt) (D * D) a) c) k).b), .int .i64 ((upS (cr (cnS (ocC I os no D) (ocP ts F nt) (D * D) a) c) k).c), .int .i64 ((upS (cr (cnS (ocC I os no D) (ocP ts F nt) (D * D) a) c) k).d)], .own (.slice A_av41 (c + 1) c_av41) 61 5 (c + 1) (ints (mxL (cnS (ocC I os no D) (ocP ts F nt) (D * D) a) R (c + 1))), .own (.slice (some ⟨b4, 0, none⟩) (D * D) (D * D)) 56 4 (D * D) (ints (smS (ocC I os no D) (ocP ts F nt) (D * D) a)), .blk b6 29 [.int .i64 (((D : Nat) : Int)), .int .i64 (((D : Nat) : Int)), .slice A_av41 (c + 1) c_av41], .blk b3 47 [.bool (!mxB (cnS (ocC I os no D) (ocP ts F nt) (D * D) a) R c || !upB (cr (cnS (ocC I os no D) (ocP ts F nt) (D * D) a) c) k)], .blk b2 29 [.int .i64 0, .int .i64 0, .slice none 0 0], .blk b1 35 [.int .i64 I, .int .i64 V, .int .i64 R, .int .i64 F, .slice At nt ct, .slice Ao no co]] _ ∧ DW _ _ _ _ _ _ _ [.own (.slice (some ⟨b11, 0, none⟩) 1 1) 61 5 1 ([.int .i64 (((dnR (upS (cr (cnS (ocC I os no D) (ocP ts F nt) (D * D) a) c) k) R.toNat).1).a), .int .i64 (((dnR (upS (cr (cnS (ocC I os no D) (ocP ts F nt) (D * D) a) c) k) R.toNat).1).b), .int .i64 (((dnR (upS (cr (cnS (ocC I os no D) (ocP ts F nt) (D * D) a) c) k) R.toNat).1).c), .int .i64 (((dnR (upS (cr (cnS (ocC I os no D) (ocP ts F nt) (D * D) a) c) k) R.toNat).1).d), .int .i64 ((((dnR (upS (cr (cnS (ocC I os no D) (ocP ts F nt) (D * D) a) c) k) R.toNat).2 : Nat) : Int))]), .blk b7 56 [.int .i64 ((upS (cr (cnS (ocC I os no D) (ocP ts F nt) (D * D) a) c) k).a), .int .i64 ((upS (cr (cnS (ocC I os no D) (ocP ts F nt) (D * D) a) c) k).b), .int .i64 ((upS (cr (cnS (ocC I os no D) (ocP ts F nt) (D * D) a) c) k).c), .int .i64 ((upS (cr (cnS (ocC I os no D) (ocP ts F nt) (D * D) a) c) k).d)], .own (.slice A_av41 (c + 1) c_av41) 61 5 (c + 1) (ints (mxL (cnS (ocC I os no D) (ocP ts F nt) (D * D) a) R (c + 1))), .own (.slice (some ⟨b4, 0, none⟩) (D * D) (D * D)) 56 4 (D * D) (ints (smS (ocC I os no D) (ocP ts F nt) (D * D) a)), .blk b6 29 [.int .i64 (((D : Nat) : Int)), .int .i64 (((D : Nat) : Int)), .slice A_av41 (c + 1) c_av41], .blk b3 47 [.bool (!mxB (cnS (ocC I os no D) (ocP ts F nt) (D * D) a) R c || !upB (cr (cnS (ocC I os no D) (ocP ts F nt) (D * D) a) c) k)], .blk b2 29 [.int .i64 0, .int .i64 0, .slice none 0 0], .blk b1 35 [.int .i64 I, .int .i64 V, .int .i64 R, .int .i64 F, .slice At nt ct, .slice Ao no co]]
                        refine ⟨(Some'.weak (.skip (.take (.skip (.skip (.skip (.take (.take (.take (.nil _)))))))))), ?_⟩
                        refine DW.done (by kernel_rfl) ?_
                        refine Run.blockEnd ?_
                        refine Run.region ?_
                        refine Run.q (v := .int .i64 ((((c : Nat) : Int)) + 1)) rfl (OpQ.y (OpY.add rfl rfl rfl (by omega) (by omega))) ?_
                        refine Run.q (v := .int .i64 ((((c : Nat) : Int)) + 1)) rfl (OpQ.y (OpY.pure rfl)) ?_
                        refine Run.done ?_
                        refine Run.goal ⟨(by repeat (first | exact Same.refl _ _ | refine Same.put rfl ?_ | refine Same.over rfl rfl ?_)), (c + 1, .slice A_av41 (c + 1) c_av41), ?_, ?_, ?_, ?_⟩
                        · exact hcD
                        · dsimp only; omega
                        · exact ⟨(by first | rfl | (congr 1; omega) | simp), trivial⟩
                        · exact (Some'.weak (.skip (.skip (.takeEq (by first | rfl | (simp [mxL, ints]; done) | (rw [hmx]; done)) (.takeEq (by first | rfl | (simp [mxL, ints]; done) | (rw [hmx]; done)) (.takeEq (by first | rfl | (simp [mxL, ints]; done) | (rw [hmx]; done)) (.takeEq (by first | rfl | (simp [mxL, ints]; done) | (rw [hmx]; done)) (.take (.take (.nil _))))))))))
            · have p122 := h122; try simp only [bs] at p122
              have hcn : c = D * D := by omega
              refine Run.exit rfl ?_
              refine Run.seq ?_
              refine Run.region ?_
              refine Run.q (v := .pointer (some ⟨b3, 0, none⟩)) rfl (OpQ.y (OpY.pure rfl)) ?_
              refine Run.q (v := .agg #[.int .i64 (((D : Nat) : Int)), .int .i64 (((D : Nat) : Int)), vo]) rfl (OpQ.y (OpY.loadN (cs := [.int .i64 (((D : Nat) : Int)), .int .i64 (((D : Nat) : Int)), vo]) Tagg_29 rfl (Cells.blk (.tail _ (.tail _ (List.Mem.head _))) ⟨rfl, rfl, rfl, trivial⟩))) ?_
              refine Run.step rfl (OpStep.callM (H1 := [.blk b3 47 [.bool (!mxB (cnS (ocC I os no D) (ocP ts F nt) (D * D) a) R c)], .own vo 61 5 c (ints (mxL (cnS (ocC I os no D) (ocP ts F nt) (D * D) a) R c))]) (H2 := [.own (.slice (some ⟨b4, 0, none⟩) (D * D) (D * D)) 56 4 (D * D) (ints (smS (ocC I os no D) (ocP ts F nt) (D * D) a)), .blk b6 29 [.int .i64 (((D : Nat) : Int)), .int .i64 (((D : Nat) : Int)), vo], .blk b2 29 [.int .i64 0, .int .i64 0, .slice none 0 0], .blk b1 35 [.int .i64 I, .int .i64 V, .int .i64 R, .int .i64 F, .slice At nt ct, .slice Ao no co]]) (vs := [.pointer (some ⟨b3, 0, none⟩), .agg #[.int .i64 (((D : Nat) : Int)), .int .i64 (((D : Nat) : Int)), vo]]) (caps := []) Tcall_23 rfl rfl (Weak.front [.own vo 61 5 c (ints (mxL (cnS (ocC I os no D) (ocP ts F nt) (D * D) a) R c)), .own (.slice (some ⟨b4, 0, none⟩) (D * D) (D * D)) 56 4 (D * D) (ints (smS (ocC I os no D) (ocP ts F nt) (D * D) a)), .blk b6 29 [.int .i64 (((D : Nat) : Int)), .int .i64 (((D : Nat) : Int)), vo]] (.blk b3 47 [.bool (!mxB (cnS (ocC I os no D) (ocP ts F nt) (D * D) a) R c)]) [.blk b2 29 [.int .i64 0, .int .i64 0, .slice none 0 0], .blk b1 35 [.int .i64 I, .int .i64 V, .int .i64 R, .int .i64 F, .slice At nt ct, .slice Ao no co]]) (fun w hs => l2Cmatrix_spec (hs.sub (List.sublist_append_left _ _)).self) ?_)
              rintro _ _ ⟨u, rfl, rfl⟩
              show Run _ _ (putF _ _ _ (.tuple #[.agg #[.int .i64 (if (!mxB (cnS (ocC I os no D) (ocP ts F nt) (D * D) a) R c) = true then 0 else ((D : Nat) : Int)), .int .i64 (if (!mxB (cnS (ocC I os no D) (ocP ts F nt) (D * D) a) R c) = true then 0 else ((D : Nat) : Int)), u], .bool (!(!mxB (cnS (ocC I os no D) (ocP ts F nt) (D * D) a) R c))])) [.blk b3 47 [.bool (!mxB (cnS (ocC I os no D) (ocP ts F nt) (D * D) a) R c)], .own u 61 5 ((if (!mxB (cnS (ocC I os no D) (ocP ts F nt) (D * D) a) R c) = true then 0 else c)) ((if (!mxB (cnS (ocC I os no D) (ocP ts F nt) (D * D) a) R c) = true then [] else ints (mxL (cnS (ocC I os no D) (ocP ts F nt) (D * D) a) R c))), .own (.slice (some ⟨b4, 0, none⟩) (D * D) (D * D)) 56 4 (D * D) (ints (smS (ocC I os no D) (ocP ts F nt) (D * D) a)), .blk b6 29 [.int .i64 (((D : Nat) : Int)), .int .i64 (((D : Nat) : Int)), vo], .blk b2 29 [.int .i64 0, .int .i64 0, .slice none 0 0], .blk b1 35 [.int .i64 I, .int .i64 V, .int .i64 R, .int .i64 F, .slice At nt ct, .slice Ao no co]]
              refine Run.q (v := .agg #[.int .i64 (if (!mxB (cnS (ocC I os no D) (ocP ts F nt) (D * D) a) R c) = true then 0 else ((D : Nat) : Int)), .int .i64 (if (!mxB (cnS (ocC I os no D) (ocP ts F nt) (D * D) a) R c) = true then 0 else ((D : Nat) : Int)), u]) rfl (OpQ.y (OpY.pure rfl)) ?_
              refine Run.q (v := .bool (!(!mxB (cnS (ocC I os no D) (ocP ts F nt) (D * D) a) R c))) rfl (OpQ.y (OpY.pure rfl)) ?_
              refine Run.formOwn (.tail _ (List.Mem.head _)) (fun A_u1 c_u1 hv hcapc_u1 hmaxc_u1 => ?_) (fun _ _ _ => ⟨nofun, nofun, nofun⟩)
              subst hv
              refine Run.step rfl (OpStep.storeAll (us := [.int .i64 (if (!mxB (cnS (ocC I os no D) (ocP ts F nt) (D * D) a) R c) = true then 0 else ((D : Nat) : Int)), .int .i64 (if (!mxB (cnS (ocC I os no D) (ocP ts F nt) (D * D) a) R c) = true then 0 else ((D : Nat) : Int)), .slice A_u1 ((if (!mxB (cnS (ocC I os no D) (ocP ts F nt) (D * D) a) R c) = true then 0 else c)) c_u1]) Tsize_29 rfl rfl rfl (.there _ (.there _ (.there _ (.there _ (.here _))))) rfl ?_)
              refine Run.q (v := .bool (!(!mxB (cnS (ocC I os no D) (ocP ts F nt) (D * D) a) R c))) rfl (OpQ.y (OpY.pure rfl)) ?_
              refine Run.done ?_
              refine Run.ret ?_
              refine ⟨.tuple #[.agg #[.int .i64 (if (!mxB (cnS (ocC I os no D) (ocP ts F nt) (D * D) a) R c) = true then 0 else ((D : Nat) : Int)), .int .i64 (if (!mxB (cnS (ocC I os no D) (ocP ts F nt) (D * D) a) R c) = true then 0 else ((D : Nat) : Int)), .slice A_u1 ((if (!mxB (cnS (ocC I os no D) (ocP ts F nt) (D * D) a) R c) = true then 0 else c)) c_u1], .bool (!(!mxB (cnS (ocC I os no D) (ocP ts F nt) (D * D) a) R c))], [.own (.slice A_u1 ((if (!mxB (cnS (ocC I os no D) (ocP ts F nt) (D * D) a) R c) = true then 0 else c)) c_u1) 61 5 (opN (osB I V R F ts nt os no) (osD I)) (ints (osL I V R F ts nt os no))], Out.cell2 (cs := [.int .i64 (if (!mxB (cnS (ocC I os no D) (ocP ts F nt) (D * D) a) R c) = true then 0 else ((D : Nat) : Int)), .int .i64 (if (!mxB (cnS (ocC I os no D) (ocP ts F nt) (D * D) a) R c) = true then 0 else ((D : Nat) : Int)), .slice A_u1 ((if (!mxB (cnS (ocC I os no D) (ocP ts F nt) (D * D) a) R c) = true then 0 else c)) c_u1]) rfl Tagg_29 rfl (Cells.blk (.tail _ (.tail _ (.tail _ (.tail _ (List.Mem.head _))))) ⟨rfl, rfl, rfl, trivial⟩) rfl, (Some'.weak (.skip (.takeEq (by first | (rw [hnb]; rfl) | (rw [osL, hnb]; rfl) | (rw [osL, hbe, osC, ← hDe, ← hAe, hcn]; cases mxB (cnS (ocC I os no D) (ocP ts F nt) (D * D) a) R (D * D) <;> rfl) | (rw [hbe, ← hDe, hcn]; cases mxB (cnS (ocC I os no D) (ocP ts F nt) (D * D) a) R (D * D) <;> rfl)) (.nil _)))), ?_⟩
              first | exact ⟨_, by rw [hnb]; rfl, rfl⟩ | exact ⟨_, by rw [hbe, ← hDe, hcn]; cases mxB (cnS (ocC I os no D) (ocP ts F nt) (D * D) a) R (D * D) <;> rfl, rfl⟩

end Go.Proofs.Ytadobifnhcafpaa
