/- Walks: stable sorting of numbers by a function of two of them. -/
import Derived.Test.YtbepibalnnbmgaaStc
import Derived.Test.YtbepibalnnbmgaaInts
import Derived.Test.YtbepibalnnbmgaaProg
set_option linter.unusedSimpArgs false
set_option linter.unusedVariables false
namespace Go.Proofs.Ytbepibalnnbmgaa
open Go Go.RowKit
namespace StwT
theorem Tcall_40 : callable Try.prog 40 = true := by kernel_rfl
theorem Tcall_49 : callable Try.prog 49 = true := by kernel_rfl
theorem Tcall_51 : callable Try.prog 51 = true := by kernel_rfl
theorem Tcall_52 : callable Try.prog 52 = true := by kernel_rfl
theorem Tint_3 : Try.prog.underlying 3 = some (.int .i64) := by kernel_rfl
theorem Tint_69 : Try.prog.underlying 69 = some (.int .u64) := by kernel_rfl
theorem Tone_3 : oneOf Try.prog 3 = true := by kernel_rfl
theorem Tsize_3 : (Try.prog.info? 3).map (·.size) = some 1 := by kernel_rfl
theorem Tsl_43 : sliceOf Try.prog 43 = some (3, 1, 8, [.int .i64 0]) := by kernel_rfl
theorem Tsome_3 : (Try.prog.underlying 3).isSome = true := by kernel_rfl
theorem Tsome_69 : (Try.prog.underlying 69).isSome = true := by kernel_rfl
end StwT
open StwT

/-- The function that compares: what it gives at two numbers, and that it is there as long as the block g alone turns. -/
structure CmpOk (g n : Nat) (cf : Int → Int → Int) (key : Int → Int) (cp : Value) (w : World) : Prop where
  lt : ∀ x y : Int, 0 ≤ x → x < n → 0 ≤ y → y < n → (cf x y < 0 ↔ key x < key y)
  call : ∀ w' : World, St (fun k => k = g) w w' [] → ∀ x y : Int, 0 ≤ x → x < n → 0 ≤ y → y < n → Calls Try.prog 40 #[.int .i64 x, .int .i64 y, cp] w' (Post No w' fun v _ => v = .int .i64 (cf x y))
theorem St.link {M : Nat → Prop} {w0 w w' : World} (h : St M w0 w []) (h' : St M w w' []) : St M w0 w' [] :=
  ⟨h'.os.trans h.os, h'.tape.trans h.tape, h'.output.trans h.output, Nat.le_trans h.size h'.size, fun k hk hm => (h'.keep k (Nat.lt_of_lt_of_le hk h.size) hm).trans (h.keep k hk hm), (fun _ h => nomatch h), (fun _ h => nomatch h), List.Pairwise.nil⟩
theorem St.toB {g n c : Nat} {e : TypeId} {xs : List Value} {w0 w : World} {H : List Res} (h : St (Of [.own (.slice (some ⟨g, 0, none⟩) n c) e 1 n xs]) w0 w H) : St (fun k => k = g) w0 w [] := by
  refine (h.sub (List.nil_sublist H)).mono fun k _ hk => ?_
  obtain ⟨r, hr, hrk⟩ := hk
  simp only [List.mem_singleton] at hr; subst hr
  simp only [Res.has, Value.ownBlock, Option.some.injEq] at hrk
  exact hrk.symm
theorem CmpOk.next {g n : Nat} {cf : Int → Int → Int} {key : Int → Int} {cp : Value} {w w' : World} (h : CmpOk g n cf key cp w) (hs : St (fun k => k = g) w w' []) : CmpOk g n cf key cp w' :=
  ⟨h.lt, fun w'' hs' => h.call w'' (hs.link hs')⟩
theorem CmpOk.at {g n c p q : Nat} {cf : Int → Int → Int} {key : Int → Int} {cp : Value} {e : TypeId} {xs : List Value} {zs : List Int} {w w' : World} {H : List Res} (h : CmpOk g n cf key cp w) (hs : St (Of [.own (.slice (some ⟨g, 0, none⟩) n c) e 1 n xs]) w w' H) (hr : InR zs n) (hp : p < n) (hq : q < n) :
    Calls Try.prog 40 #[.int .i64 (ix zs p), .int .i64 (ix zs q), cp] w' (Post No w' fun v _ => v = .int .i64 (cf (ix zs p) (ix zs q))) :=
  h.call w' hs.toB _ _ (hr.2 p hp).1 (hr.2 p hp).2 (hr.2 q hq).1 (hr.2 q hq).2
theorem CmpOk.ltI {g n p q : Nat} {cf : Int → Int → Int} {key : Int → Int} {cp : Value} {zs : List Int} {w : World} (h : CmpOk g n cf key cp w) (hr : InR zs n) (hp : p < n) (hq : q < n) : cf (ix zs p) (ix zs q) < 0 ↔ key (ix zs p) < key (ix zs q) :=
  h.lt _ _ (hr.2 p hp).1 (hr.2 p hp).2 (hr.2 q hq).1 (hr.2 q hq).2

set_option maxHeartbeats 1000000 in
set_option maxRecDepth 20000 in
theorem swr_spec {g n c a b l : Nat} {cp : Value} {zs : List Int} {w : World} (hn : n ≤ 1000000000) (hz : zs.length = n) (hab : a + l ≤ b) (hb : b + l ≤ n) (h : (Res.own (.slice (some ⟨g, 0, none⟩) n c) 3 1 n (ints zs)).holds w) : Calls Try.prog 52 #[.slice (some ⟨g, 0, none⟩) n c, .int .i64 (a : Nat), .int .i64 (b : Nat), .int .i64 (l : Nat), .func (.func 40) #[] #[cp]] w (Post (Of [.own (.slice (some ⟨g, 0, none⟩) n c) 3 1 n (ints zs)]) w fun v H => v = .tuple #[] ∧ H = [.own (.slice (some ⟨g, 0, none⟩) n c) 3 1 n (ints (swr zs a b l))]) := by
  refine enter (n := 38) (args := [.slice (some ⟨g, 0, none⟩) n c, .int .i64 (((a : Nat) : Int)), .int .i64 (((b : Nat) : Int)), .int .i64 (((l : Nat) : Int)), .func (.func 40) #[] #[cp]]) Try.func52 rfl rfl (St.start1 h) ?_
  refine Run.seq ?_
  refine Run.region ?_
  refine Run.q (v := .int .i64 0) rfl (OpQ.y (OpY.pure rfl)) ?_
  refine Run.done ?_
  refine Run.block ?_
  refine Run.loop (ι := Nat) [10, 11, 12, 13, 14, 15, 16, 17, 18, 19, 20, 21, 22, 23, 24, 25, 26, 27, 28, 29, 30, 31, 32, 33, 34, 35, 36, 37] (fun k => [(10, .int .i64 (((k : Nat) : Int)))]) (fun k => [.own (.slice (some ⟨g, 0, none⟩) n c) 3 1 n (ints (swr zs a b k))]) (fun k => k ≤ l) (fun k => l - k) 0 ?_ ?_ ?_ ?_
  · exact Nat.zero_le _
  · exact ⟨rfl, trivial⟩
  · exact (Some'.weak (.takeEq (by first | rfl | simp) (.nil _)))
  · rintro k fr hinv
    show Run _ _ (over _ _ [(10, .int .i64 (((k : Nat) : Int)))] fr) [.own (.slice (some ⟨g, 0, none⟩) n c) 3 1 n (ints (swr zs a b k))]
    try dsimp only at hinv
    refine Run.seq ?_
    refine Run.seq ?_
    refine Run.region ?_
    refine Run.q (v := .int .i64 (((k : Nat) : Int))) rfl (OpQ.y (OpY.pure rfl)) ?_
    refine Run.q (v := .int .i64 (((l : Nat) : Int))) rfl (OpQ.y (OpY.pure rfl)) ?_
    refine Run.q (v := .bool (decide ((((k : Nat) : Int)) < (((l : Nat) : Int))))) rfl (OpQ.y (OpY.pure rfl)) ?_
    refine Run.done ?_
    refine Run.cond (b := decide ((((k : Nat) : Int)) < (((l : Nat) : Int)))) rfl (fun h13 => ?_) (fun h13 => ?_)
    · have p13 := h13; try simp only [decide_eq_true_eq, decide_eq_false_iff_not, beq_iff_eq, bne_iff_ne, beq_eq_false_iff_ne, ne_eq, gt_iff_lt, ge_iff_le, Int.not_lt, Int.not_le, bne_eq_false_iff_eq, Bool.not_eq_true', Bool.not_eq_false', Bool.and_eq_true, Bool.and_eq_false_iff, Bool.or_eq_true, Bool.or_eq_false_iff, Decidable.not_not, List.cons.injEq, and_true] at p13
      have hkl : k < l := by omega
      have hyl : (swr zs a b k).length = n := by rw [swr_length, hz]
      refine Run.skip ?_
      refine Run.seq ?_
      refine Run.block ?_
      refine Run.lastly [21, 23] (by kernel_rfl) ?_
      refine DL.takeP (i := 0) (v := .slice (some ⟨g, 0, none⟩) n c) rfl (by kernel_rfl) (by kernel_rfl) (by kernel_rfl) (fun _ _ _ h => h) rfl (fun _ => OpY.pure rfl) ?_
      refine DL.takeP (i := 1) (v := .int .i64 (((a : Nat) : Int))) rfl (by kernel_rfl) (by kernel_rfl) (by kernel_rfl) (fun _ _ _ h => h) rfl (fun _ => OpY.pure rfl) ?_
      refine DL.takeP (i := 2) (v := .int .i64 (((k : Nat) : Int))) rfl (by kernel_rfl) (by kernel_rfl) (by kernel_rfl) (fun _ _ _ h => h) rfl (fun _ => OpY.pure rfl) ?_
      refine DL.takeP (i := 3) (v := .int .i64 (((a + k : Nat) : Int))) rfl (by kernel_rfl) (by kernel_rfl) (by kernel_rfl) (fun _ _ _ h => h) rfl (fun _ => OpY.add rfl rfl (by omega) (by omega) (by omega)) ?_
      refine DL.takeP (i := 4) (v := .slice (some ⟨g, 0, none⟩) n c) rfl (by kernel_rfl) (by kernel_rfl) (by kernel_rfl) (fun _ _ _ h => h) rfl (fun _ => OpY.pure rfl) ?_
      refine DL.takeP (i := 5) (v := .int .i64 (((b : Nat) : Int))) rfl (by kernel_rfl) (by kernel_rfl) (by kernel_rfl) (fun _ _ _ h => h) rfl (fun _ => OpY.pure rfl) ?_
      refine DL.takeP (i := 6) (v := .int .i64 (((k : Nat) : Int))) rfl (by kernel_rfl) (by kernel_rfl) (by kernel_rfl) (fun _ _ _ h => h) rfl (fun _ => OpY.pure rfl) ?_
      refine DL.takeP (i := 7) (v := .int .i64 (((b + k : Nat) : Int))) rfl (by kernel_rfl) (by kernel_rfl) (by kernel_rfl) (fun _ _ _ h => h) rfl (fun _ => OpY.add rfl rfl (by omega) (by omega) (by omega)) ?_
      refine DL.takeP (i := 8) (v := .slice (some ⟨g, 0, none⟩) n c) rfl (by kernel_rfl) (by kernel_rfl) (by kernel_rfl) (fun _ _ _ h => h) rfl (fun _ => OpY.pure rfl) ?_
      refine DL.takeP (i := 9) (v := .int .i64 (((b : Nat) : Int))) rfl (by kernel_rfl) (by kernel_rfl) (by kernel_rfl) (fun _ _ _ h => h) rfl (fun _ => OpY.pure rfl) ?_
      refine DL.takeP (i := 10) (v := .int .i64 (((k : Nat) : Int))) rfl (by kernel_rfl) (by kernel_rfl) (by kernel_rfl) (fun _ _ _ h => h) rfl (fun _ => OpY.pure rfl) ?_
      refine DL.takeP (i := 11) (v := .int .i64 (((b + k : Nat) : Int))) rfl (by kernel_rfl) (by kernel_rfl) (by kernel_rfl) (fun _ _ _ h => h) rfl (fun _ => OpY.add rfl rfl (by omega) (by omega) (by omega)) ?_
      refine DL.takeP (i := 12) (v := .pointer (some ⟨g, b + k, none⟩)) rfl (by kernel_rfl) (by kernel_rfl) (by kernel_rfl) (fun _ _ _ h => h) rfl (fun _ => OpY.index (kk := b + k) Tsl_43 rfl rfl (by omega) (by omega) (by first | rfl | omega)) ?_
      refine DL.take (i := 13) (v := .int .i64 (ix (swr zs a b k) (b + k))) rfl (by kernel_rfl) (by kernel_rfl) (by kernel_rfl) (by kernel_rfl) (fun _ _ _ h => h) (Some'.weak (.take (.nil _))) rfl (OpY.load1 Tone_3 rfl (Cells.own0 (.head _) (pre1 (by first | omega | (simp; omega))))) ?_
      refine DL.takeP (i := 14) (v := .slice (some ⟨g, 0, none⟩) n c) rfl (by kernel_rfl) (by kernel_rfl) (by kernel_rfl) (fun _ _ _ h => h) rfl (fun _ => OpY.pure rfl) ?_
      refine DL.takeP (i := 15) (v := .int .i64 (((a : Nat) : Int))) rfl (by kernel_rfl) (by kernel_rfl) (by kernel_rfl) (fun _ _ _ h => h) rfl (fun _ => OpY.pure rfl) ?_
      refine DL.takeP (i := 16) (v := .int .i64 (((k : Nat) : Int))) rfl (by kernel_rfl) (by kernel_rfl) (by kernel_rfl) (fun _ _ _ h => h) rfl (fun _ => OpY.pure rfl) ?_
      refine DL.takeP (i := 17) (v := .int .i64 (((a + k : Nat) : Int))) rfl (by kernel_rfl) (by kernel_rfl) (by kernel_rfl) (fun _ _ _ h => h) rfl (fun _ => OpY.add rfl rfl (by omega) (by omega) (by omega)) ?_
      refine DL.takeP (i := 18) (v := .pointer (some ⟨g, a + k, none⟩)) rfl (by kernel_rfl) (by kernel_rfl) (by kernel_rfl) (fun _ _ _ h => h) rfl (fun _ => OpY.index (kk := a + k) Tsl_43 rfl rfl (by omega) (by omega) (by first | rfl | omega)) ?_
      refine DL.take (i := 19) (v := .int .i64 (ix (swr zs a b k) (a + k))) rfl (by kernel_rfl) (by kernel_rfl) (by kernel_rfl) (by kernel_rfl) (fun _ _ _ h => h) (Some'.weak (.take (.nil _))) rfl (OpY.load1 Tone_3 rfl (Cells.own0 (.head _) (pre1 (by first | omega | (simp; omega))))) ?_
      refine DL.takeP (i := 20) (v := .pointer (some ⟨g, a + k, none⟩)) rfl (by kernel_rfl) (by kernel_rfl) (by kernel_rfl) (fun _ _ _ h => h) rfl (fun _ => OpY.index (kk := a + k) Tsl_43 rfl rfl (by omega) (by omega) (by first | rfl | omega)) ?_
      refine DL.step (i := 21) (by kernel_rfl) (by kernel_rfl) rfl rfl (OpStep.storeOwnInt (o := a + k) (a := ix (swr zs a b k) (b + k)) Tsize_3 rfl rfl (.here _) (by first | omega | (simp; omega)) ?_)
      refine DL.takeP (i := 22) (v := .pointer (some ⟨g, b + k, none⟩)) rfl (by kernel_rfl) (by kernel_rfl) (by kernel_rfl) (fun _ _ _ h => h) rfl (fun _ => OpY.index (kk := b + k) Tsl_43 rfl rfl (by omega) (by omega) (by first | rfl | omega)) ?_
      refine DL.step (i := 23) (by kernel_rfl) (by kernel_rfl) rfl rfl (OpStep.storeOwnInt (o := b + k) (a := ix (swr zs a b k) (a + k)) Tsize_3 rfl rfl (.here _) (by first | omega | (simp; omega)) ?_)
      refine DL.done (by kernel_rfl) ?_
      refine Run.blockEnd ?_
      refine Run.region ?_
      refine Run.q (v := .int .i64 (((k : Nat) : Int))) rfl (OpQ.y (OpY.pure rfl)) ?_
      refine Run.q (v := .int .i64 ((((k : Nat) : Int)) + 1)) rfl (OpQ.y (OpY.add rfl rfl rfl (by omega) (by omega))) ?_
      refine Run.q (v := .int .i64 ((((k : Nat) : Int)) + 1)) rfl (OpQ.y (OpY.pure rfl)) ?_
      refine Run.done ?_
      refine Run.goal ⟨(by repeat (first | exact Same.refl _ _ | refine Same.put rfl ?_ | refine Same.over rfl rfl ?_)), k + 1, ?_, ?_, ?_, ?_⟩
      · exact hkl
      · omega
      · exact ⟨(by first | rfl | (congr 1; omega) | simp), trivial⟩
      · exact (Some'.weak (.takeEq (by first | rfl | simp) (.nil _)))
    · have p13 := h13; try simp only [decide_eq_true_eq, decide_eq_false_iff_not, beq_iff_eq, bne_iff_ne, beq_eq_false_iff_ne, ne_eq, gt_iff_lt, ge_iff_le, Int.not_lt, Int.not_le, bne_eq_false_iff_eq, Bool.not_eq_true', Bool.not_eq_false', Bool.and_eq_true, Bool.and_eq_false_iff, Bool.or_eq_true, Bool.or_eq_false_iff, Decidable.not_not, List.cons.injEq, and_true] at p13
      have hkl : k = l := by omega
      refine Run.exit rfl ?_
      refine Run.fin ?_
      refine ⟨.tuple #[], [.own (.slice (some ⟨g, 0, none⟩) n c) 3 1 n (ints (swr zs a b l))], Out.none rfl, (Some'.weak (.takeEq (by rw [hkl]) (.nil _))), ?_⟩
      exact ⟨rfl, rfl⟩

set_option maxHeartbeats 1000000 in
set_option maxRecDepth 20000 in
theorem rot_spec {g n c a m b : Nat} {cp : Value} {zs : List Int} {w : World} (hn : n ≤ 1000000000) (hz : zs.length = n) (ham : a < m) (hmb : m < b) (hb : b ≤ n) (h : (Res.own (.slice (some ⟨g, 0, none⟩) n c) 3 1 n (ints zs)).holds w) : Calls Try.prog 51 #[.slice (some ⟨g, 0, none⟩) n c, .int .i64 (a : Nat), .int .i64 (m : Nat), .int .i64 (b : Nat), .func (.func 40) #[] #[cp]] w (Post (Of [.own (.slice (some ⟨g, 0, none⟩) n c) 3 1 n (ints zs)]) w fun v H => v = .tuple #[] ∧ H = [.own (.slice (some ⟨g, 0, none⟩) n c) 3 1 n (ints (rot zs a m b))]) := by
  refine enter (n := 58) (args := [.slice (some ⟨g, 0, none⟩) n c, .int .i64 (((a : Nat) : Int)), .int .i64 (((m : Nat) : Int)), .int .i64 (((b : Nat) : Int)), .func (.func 40) #[] #[cp]]) Try.func51 rfl rfl (St.start1 h) ?_
  refine Run.seq ?_
  refine Run.region ?_
  refine Run.q (v := .int .i64 (((m : Nat) : Int))) rfl (OpQ.y (OpY.pure rfl)) ?_
  refine Run.q (v := .int .i64 (((a : Nat) : Int))) rfl (OpQ.y (OpY.pure rfl)) ?_
  refine Run.q (v := .int .i64 (((m - a : Nat) : Int))) rfl (OpQ.y (OpY.sub rfl rfl (by omega) (by omega) (by omega))) ?_
  refine Run.q (v := .int .i64 (((m - a : Nat) : Int))) rfl (OpQ.y (OpY.pure rfl)) ?_
  refine Run.done ?_
  refine Run.seq ?_
  refine Run.region ?_
  refine Run.q (v := .int .i64 (((b : Nat) : Int))) rfl (OpQ.y (OpY.pure rfl)) ?_
  refine Run.q (v := .int .i64 (((m : Nat) : Int))) rfl (OpQ.y (OpY.pure rfl)) ?_
  refine Run.q (v := .int .i64 (((b - m : Nat) : Int))) rfl (OpQ.y (OpY.sub rfl rfl (by omega) (by omega) (by omega))) ?_
  refine Run.q (v := .int .i64 (((b - m : Nat) : Int))) rfl (OpQ.y (OpY.pure rfl)) ?_
  refine Run.done ?_
  refine Run.seq ?_
  refine Run.block ?_
  refine Run.loop (ι := Nat × Nat × List Int) [10, 11, 18, 19, 20, 21, 22, 23, 24, 25, 26, 27, 28, 29, 30, 31, 32, 33, 34, 35, 36, 37, 38, 39, 40, 41, 42, 43, 44, 45, 46, 47, 48, 49] (fun ⟨i, j, ys⟩ => [(10, .int .i64 (((i : Nat) : Int))), (11, .int .i64 (((j : Nat) : Int)))]) (fun ⟨i, j, ys⟩ => [.own (.slice (some ⟨g, 0, none⟩) n c) 3 1 n (ints ys)]) (fun ⟨i, j, ys⟩ => 0 < i ∧ 0 < j ∧ a + i ≤ m ∧ m + j ≤ b ∧ ys.length = n ∧ rot ys (m - i) m (m + j) = rot zs a m b) (fun ⟨i, j, ys⟩ => i + j) (m - a, b - m, zs) ?_ ?_ ?_ ?_
  · exact ⟨by omega, by omega, by omega, by omega, hz, by rw [show m - (m - a) = a by omega, show m + (b - m) = b by omega]⟩
  · exact ⟨rfl, rfl, trivial⟩
  · exact (Some'.weak (.takeEq (by first | rfl | simp) (.nil _)))
  · rintro ⟨i, j, ys⟩ fr hinv
    show Run _ _ (over _ _ [(10, .int .i64 (((i : Nat) : Int))), (11, .int .i64 (((j : Nat) : Int)))] fr) [.own (.slice (some ⟨g, 0, none⟩) n c) 3 1 n (ints ys)]
    try dsimp only at hinv
    refine Run.seq ?_
    refine Run.seq ?_
    refine Run.region ?_
    refine Run.q (v := .int .i64 (((i : Nat) : Int))) rfl (OpQ.y (OpY.pure rfl)) ?_
    refine Run.q (v := .int .i64 (((j : Nat) : Int))) rfl (OpQ.y (OpY.pure rfl)) ?_
    refine Run.q (v := .bool ((((i : Nat) : Int)) != (((j : Nat) : Int)))) rfl (OpQ.y (OpY.pure rfl)) ?_
    refine Run.done ?_
    refine Run.cond (b := (((i : Nat) : Int)) != (((j : Nat) : Int))) rfl (fun h20 => ?_) (fun h20 => ?_)
    · have p20 := h20; try simp only [decide_eq_true_eq, decide_eq_false_iff_not, beq_iff_eq, bne_iff_ne, beq_eq_false_iff_ne, ne_eq, gt_iff_lt, ge_iff_le, Int.not_lt, Int.not_le, bne_eq_false_iff_eq, Bool.not_eq_true', Bool.not_eq_false', Bool.and_eq_true, Bool.and_eq_false_iff, Bool.or_eq_true, Bool.or_eq_false_iff, Decidable.not_not, List.cons.injEq, and_true] at p20
      refine Run.skip ?_
      refine Run.block ?_
      refine Run.seq ?_
      refine Run.region ?_
      refine Run.q (v := .int .i64 (((i : Nat) : Int))) rfl (OpQ.y (OpY.pure rfl)) ?_
      refine Run.q (v := .int .i64 (((j : Nat) : Int))) rfl (OpQ.y (OpY.pure rfl)) ?_
      refine Run.q (v := .bool (decide ((((i : Nat) : Int)) > (((j : Nat) : Int))))) rfl (OpQ.y (OpY.pure rfl)) ?_
      refine Run.done ?_
      refine Run.cond (b := decide ((((i : Nat) : Int)) > (((j : Nat) : Int)))) rfl (fun h23 => ?_) (fun h23 => ?_)
      · have p23 := h23; try simp only [decide_eq_true_eq, decide_eq_false_iff_not, beq_iff_eq, bne_iff_ne, beq_eq_false_iff_ne, ne_eq, gt_iff_lt, ge_iff_le, Int.not_lt, Int.not_le, bne_eq_false_iff_eq, Bool.not_eq_true', Bool.not_eq_false', Bool.and_eq_true, Bool.and_eq_false_iff, Bool.or_eq_true, Bool.or_eq_false_iff, Decidable.not_not, List.cons.injEq, and_true] at p23
        have hgt : j < i := by omega
        have hq := rot_gt (ys := ys) hgt (show i ≤ m by omega) (show m + j ≤ ys.length by omega)
        refine Run.seq ?_
        refine Run.region ?_
        refine Run.q (v := .slice (some ⟨g, 0, none⟩) n c) rfl (OpQ.y (OpY.pure rfl)) ?_
        refine Run.q (v := .int .i64 (((m : Nat) : Int))) rfl (OpQ.y (OpY.pure rfl)) ?_
        refine Run.q (v := .int .i64 (((i : Nat) : Int))) rfl (OpQ.y (OpY.pure rfl)) ?_
        refine Run.q (v := .int .i64 (((m - i : Nat) : Int))) rfl (OpQ.y (OpY.sub rfl rfl (by omega) (by omega) (by omega))) ?_
        refine Run.q (v := .int .i64 (((m : Nat) : Int))) rfl (OpQ.y (OpY.pure rfl)) ?_
        refine Run.q (v := .int .i64 (((j : Nat) : Int))) rfl (OpQ.y (OpY.pure rfl)) ?_
        refine Run.q (v := .func (.func 40) #[] #[cp]) rfl (OpQ.y (OpY.pure rfl)) ?_
        refine Run.step rfl (OpStep.callM (H1 := [.own (.slice (some ⟨g, 0, none⟩) n c) 3 1 n (ints ys)]) (H2 := []) (vs := [.slice (some ⟨g, 0, none⟩) n c, .int .i64 (((m - i : Nat) : Int)), .int .i64 (((m : Nat) : Int)), .int .i64 (((j : Nat) : Int)), .func (.func 40) #[] #[cp]]) (caps := []) Tcall_52 rfl rfl (Weak.refl _) (fun w hs => swr_spec hn hinv.2.2.2.2.1 (by omega) (by omega) (hs.holds _ (.head _))) ?_)
        rintro _ _ ⟨rfl, rfl⟩
        show Run _ _ (putF _ _ _ (.tuple #[])) [.own (.slice (some ⟨g, 0, none⟩) n c) 3 1 n (ints (swr ys (m - i) m j))]
        refine Run.done ?_
        refine Run.region ?_
        refine Run.q (v := .int .i64 (((i : Nat) : Int))) rfl (OpQ.y (OpY.pure rfl)) ?_
        refine Run.q (v := .int .i64 (((j : Nat) : Int))) rfl (OpQ.y (OpY.pure rfl)) ?_
        refine Run.q (v := .int .i64 (((i - j : Nat) : Int))) rfl (OpQ.y (OpY.sub rfl rfl (by omega) (by omega) (by omega))) ?_
        refine Run.q (v := .int .i64 (((i - j : Nat) : Int))) rfl (OpQ.y (OpY.pure rfl)) ?_
        refine Run.done ?_
        refine Run.blockEnd ?_
        refine Run.goal ⟨(by repeat (first | exact Same.refl _ _ | refine Same.put rfl ?_ | refine Same.over rfl rfl ?_)), (i - j, j, swr ys (m - i) m j), ?_, ?_, ?_, ?_⟩
        · exact ⟨by omega, by omega, by omega, by omega, by rw [swr_length]; exact hinv.2.2.2.2.1, by first | (rw [show m - (i - j) = m - i + j by omega, hq]; exact hinv.2.2.2.2.2) | (rw [hq]; exact hinv.2.2.2.2.2)⟩
        · dsimp only; omega
        · exact ⟨(by first | rfl | (congr 1; omega) | simp), (by first | rfl | (congr 1; omega) | simp), trivial⟩
        · exact (Some'.weak (.takeEq (by first | rfl | simp) (.nil _)))
      · have p23 := h23; try simp only [decide_eq_true_eq, decide_eq_false_iff_not, beq_iff_eq, bne_iff_ne, beq_eq_false_iff_ne, ne_eq, gt_iff_lt, ge_iff_le, Int.not_lt, Int.not_le, bne_eq_false_iff_eq, Bool.not_eq_true', Bool.not_eq_false', Bool.and_eq_true, Bool.and_eq_false_iff, Bool.or_eq_true, Bool.or_eq_false_iff, Decidable.not_not, List.cons.injEq, and_true] at p23
        have hlt : i < j := by omega
        have hq := rot_lt (ys := ys) hlt (show i ≤ m by omega) (show m + j ≤ ys.length by omega)
        refine Run.seq ?_
        refine Run.region ?_
        refine Run.q (v := .slice (some ⟨g, 0, none⟩) n c) rfl (OpQ.y (OpY.pure rfl)) ?_
        refine Run.q (v := .int .i64 (((m : Nat) : Int))) rfl (OpQ.y (OpY.pure rfl)) ?_
        refine Run.q (v := .int .i64 (((i : Nat) : Int))) rfl (OpQ.y (OpY.pure rfl)) ?_
        refine Run.q (v := .int .i64 (((m - i : Nat) : Int))) rfl (OpQ.y (OpY.sub rfl rfl (by omega) (by omega) (by omega))) ?_
        refine Run.q (v := .int .i64 (((m : Nat) : Int))) rfl (OpQ.y (OpY.pure rfl)) ?_
        refine Run.q (v := .int .i64 (((j : Nat) : Int))) rfl (OpQ.y (OpY.pure rfl)) ?_
        refine Run.q (v := .int .i64 (((m + j : Nat) : Int))) rfl (OpQ.y (OpY.add rfl rfl (by omega) (by omega) (by omega))) ?_
        refine Run.q (v := .int .i64 (((i : Nat) : Int))) rfl (OpQ.y (OpY.pure rfl)) ?_
        refine Run.q (v := .int .i64 (((m + j - i : Nat) : Int))) rfl (OpQ.y (OpY.sub rfl rfl (by omega) (by omega) (by omega))) ?_
        refine Run.q (v := .int .i64 (((i : Nat) : Int))) rfl (OpQ.y (OpY.pure rfl)) ?_
        refine Run.q (v := .func (.func 40) #[] #[cp]) rfl (OpQ.y (OpY.pure rfl)) ?_
        refine Run.step rfl (OpStep.callM (H1 := [.own (.slice (some ⟨g, 0, none⟩) n c) 3 1 n (ints ys)]) (H2 := []) (vs := [.slice (some ⟨g, 0, none⟩) n c, .int .i64 (((m - i : Nat) : Int)), .int .i64 (((m + j - i : Nat) : Int)), .int .i64 (((i : Nat) : Int)), .func (.func 40) #[] #[cp]]) (caps := []) Tcall_52 rfl rfl (Weak.refl _) (fun w hs => swr_spec hn hinv.2.2.2.2.1 (by omega) (by omega) (hs.holds _ (.head _))) ?_)
        rintro _ _ ⟨rfl, rfl⟩
        show Run _ _ (putF _ _ _ (.tuple #[])) [.own (.slice (some ⟨g, 0, none⟩) n c) 3 1 n (ints (swr ys (m - i) (m + j - i) i))]
        refine Run.done ?_
        refine Run.region ?_
        refine Run.q (v := .int .i64 (((j : Nat) : Int))) rfl (OpQ.y (OpY.pure rfl)) ?_
        refine Run.q (v := .int .i64 (((i : Nat) : Int))) rfl (OpQ.y (OpY.pure rfl)) ?_
        refine Run.q (v := .int .i64 (((j - i : Nat) : Int))) rfl (OpQ.y (OpY.sub rfl rfl (by omega) (by omega) (by omega))) ?_
        refine Run.q (v := .int .i64 (((j - i : Nat) : Int))) rfl (OpQ.y (OpY.pure rfl)) ?_
        refine Run.done ?_
        refine Run.blockEnd ?_
        refine Run.goal ⟨(by repeat (first | exact Same.refl _ _ | refine Same.put rfl ?_ | refine Same.over rfl rfl ?_)), (i, j - i, swr ys (m - i) (m + j - i) i), ?_, ?_, ?_, ?_⟩
        · exact ⟨by omega, by omega, by omega, by omega, by rw [swr_length]; exact hinv.2.2.2.2.1, by first | (rw [show m - (i - j) = m - i + j by omega, hq]; exact hinv.2.2.2.2.2) | (rw [hq]; exact hinv.2.2.2.2.2)⟩
        · dsimp only; omega
        · exact ⟨(by first | rfl | (congr 1; omega) | simp), (by first | rfl | (congr 1; omega) | simp), trivial⟩
        · exact (Some'.weak (.takeEq (by first | rfl | simp) (.nil _)))
    · have p20 := h20; try simp only [decide_eq_true_eq, decide_eq_false_iff_not, beq_iff_eq, bne_iff_ne, beq_eq_false_iff_ne, ne_eq, gt_iff_lt, ge_iff_le, Int.not_lt, Int.not_le, bne_eq_false_iff_eq, Bool.not_eq_true', Bool.not_eq_false', Bool.and_eq_true, Bool.and_eq_false_iff, Bool.or_eq_true, Bool.or_eq_false_iff, Decidable.not_not, List.cons.injEq, and_true] at p20
      have hij : i = j := by omega
      have hq := rot_eq (ys := ys) (m := m) (i := i) (by omega) (by omega)
      have hq2 := hinv.2.2.2.2.2
      rw [← hij, ← hq] at hq2
      refine Run.exit rfl ?_
      refine Run.region ?_
      refine Run.q (v := .slice (some ⟨g, 0, none⟩) n c) rfl (OpQ.y (OpY.pure rfl)) ?_
      refine Run.q (v := .int .i64 (((m : Nat) : Int))) rfl (OpQ.y (OpY.pure rfl)) ?_
      refine Run.q (v := .int .i64 (((i : Nat) : Int))) rfl (OpQ.y (OpY.pure rfl)) ?_
      refine Run.q (v := .int .i64 (((m - i : Nat) : Int))) rfl (OpQ.y (OpY.sub rfl rfl (by omega) (by omega) (by omega))) ?_
      refine Run.q (v := .int .i64 (((m : Nat) : Int))) rfl (OpQ.y (OpY.pure rfl)) ?_
      refine Run.q (v := .int .i64 (((i : Nat) : Int))) rfl (OpQ.y (OpY.pure rfl)) ?_
      refine Run.q (v := .func (.func 40) #[] #[cp]) rfl (OpQ.y (OpY.pure rfl)) ?_
      refine Run.step rfl (OpStep.callM (H1 := [.own (.slice (some ⟨g, 0, none⟩) n c) 3 1 n (ints ys)]) (H2 := []) (vs := [.slice (some ⟨g, 0, none⟩) n c, .int .i64 (((m - i : Nat) : Int)), .int .i64 (((m : Nat) : Int)), .int .i64 (((i : Nat) : Int)), .func (.func 40) #[] #[cp]]) (caps := []) Tcall_52 rfl rfl (Weak.refl _) (fun w hs => swr_spec hn hinv.2.2.2.2.1 (by omega) (by omega) (hs.holds _ (.head _))) ?_)
      rintro _ _ ⟨rfl, rfl⟩
      show Run _ _ (putF _ _ _ (.tuple #[])) [.own (.slice (some ⟨g, 0, none⟩) n c) 3 1 n (ints (swr ys (m - i) m i))]
      refine Run.done ?_
      refine Run.fin ?_
      refine ⟨.tuple #[], [.own (.slice (some ⟨g, 0, none⟩) n c) 3 1 n (ints (rot zs a m b))], Out.none rfl, (Some'.weak (.takeEq (by exact congrArg (fun z => Res.own _ _ _ _ (ints z)) hq2) (.nil _))), ?_⟩
      exact ⟨rfl, rfl⟩

set_option maxHeartbeats 1000000 in
set_option maxRecDepth 20000 in
theorem insT_some {g n c : Nat} {cf : Int → Int → Int} {key : Int → Int} {cp : Value} {zs : List Int} {w : World} {a b : Nat} (hn : n ≤ 1000000000) (hz : zs.length = n) (hab : a < b) (hb : b ≤ n) (hc : CmpOk g n cf key cp w) (hr : InR zs n) (hbig : ∀ p q, a ≤ p → p < q → q < b → ix zs p < ix zs q) (h : (Res.own (.slice (some ⟨g, 0, none⟩) n c) 3 1 n (ints zs)).holds w) : Calls Try.prog 48 #[.slice (some ⟨g, 0, none⟩) n c, .int .i64 (a : Nat), .int .i64 (b : Nat), .func (.func 40) #[] #[cp]] w (Post (Of [.own (.slice (some ⟨g, 0, none⟩) n c) 3 1 n (ints zs)]) w fun v H => ∃ ys, (Within zs ys a b ∧ SrtT key ys a b) ∧ v = .tuple #[] ∧ H = [.own (.slice (some ⟨g, 0, none⟩) n c) 3 1 n (ints ys)]) := by
  refine enter (n := 53) (args := [.slice (some ⟨g, 0, none⟩) n c, .int .i64 (((a : Nat) : Int)), .int .i64 (((b : Nat) : Int)), .func (.func 40) #[] #[cp]]) Try.func48 rfl rfl (St.start1 h) ?_
  refine Run.seq ?_
  refine Run.region ?_
  refine Run.q (v := .int .i64 (((a : Nat) : Int))) rfl (OpQ.y (OpY.pure rfl)) ?_
  refine Run.q (v := .int .i64 (((a + 1 : Nat) : Int))) rfl (OpQ.y (OpY.add rfl rfl (by omega) (by omega) (by omega))) ?_
  refine Run.q (v := .int .i64 (((a + 1 : Nat) : Int))) rfl (OpQ.y (OpY.pure rfl)) ?_
  refine Run.done ?_
  refine Run.block ?_
  refine Run.loop (ι := Nat × List Int) [8, 9, 12, 13, 14, 15, 16, 17, 18, 19, 20, 21, 22, 23, 24, 25, 26, 27, 28, 29, 30, 31, 32, 33, 34, 35, 36, 37, 38, 39, 40, 41, 42, 43, 44, 45, 46, 47, 48, 49, 50, 51, 52] (fun ⟨i, ys⟩ => [(8, .int .i64 (((i : Nat) : Int)))]) (fun ⟨i, ys⟩ => [.own (.slice (some ⟨g, 0, none⟩) n c) 3 1 n (ints ys)]) (fun ⟨i, ys⟩ => a + 1 ≤ i ∧ i ≤ b ∧ Within zs ys a i ∧ SrtT key ys a i) (fun ⟨i, ys⟩ => b - i) (a + 1, zs) ?_ ?_ ?_ ?_
  · exact ⟨Nat.le_refl _, by omega, Within.refl _ _ _, SrtT.nil (by omega)⟩
  · exact ⟨rfl, trivial⟩
  · exact (Some'.weak (.takeEq (by first | rfl | simp) (.nil _)))
  · rintro ⟨i, ys⟩ fr hinv
    show Run _ _ (over _ _ [(8, .int .i64 (((i : Nat) : Int)))] fr) [.own (.slice (some ⟨g, 0, none⟩) n c) 3 1 n (ints ys)]
    try dsimp only at hinv
    refine Run.seq ?_
    refine Run.seq ?_
    refine Run.region ?_
    refine Run.q (v := .int .i64 (((i : Nat) : Int))) rfl (OpQ.y (OpY.pure rfl)) ?_
    refine Run.q (v := .int .i64 (((b : Nat) : Int))) rfl (OpQ.y (OpY.pure rfl)) ?_
    refine Run.q (v := .bool (decide ((((i : Nat) : Int)) < (((b : Nat) : Int))))) rfl (OpQ.y (OpY.pure rfl)) ?_
    refine Run.done ?_
    refine Run.cond (b := decide ((((i : Nat) : Int)) < (((b : Nat) : Int)))) rfl (fun h14 => ?_) (fun h14 => ?_)
    · have p14 := h14; try simp only [decide_eq_true_eq, decide_eq_false_iff_not, beq_iff_eq, bne_iff_ne, beq_eq_false_iff_ne, ne_eq, gt_iff_lt, ge_iff_le, Int.not_lt, Int.not_le, bne_eq_false_iff_eq, Bool.not_eq_true', Bool.not_eq_false', Bool.and_eq_true, Bool.and_eq_false_iff, Bool.or_eq_true, Bool.or_eq_false_iff, Decidable.not_not, List.cons.injEq, and_true] at p14
      have hib : i < b := by omega
      have hyl : ys.length = n := hinv.2.2.1.1.trans hz
      refine Run.skip ?_
      refine Run.seq ?_
      refine Run.block ?_
      refine Run.seq ?_
      refine Run.region ?_
      refine Run.q (v := .int .i64 (((i : Nat) : Int))) rfl (OpQ.y (OpY.pure rfl)) ?_
      refine Run.q (v := .int .i64 (((i : Nat) : Int))) rfl (OpQ.y (OpY.pure rfl)) ?_
      refine Run.done ?_
      refine Run.block ?_
      have hinv1 := hinv
      refine Run.loop (ι := Nat × List Int) [9, 18, 19, 20, 21, 22, 23, 24, 25, 26, 27, 28, 29, 30, 31, 32, 33, 34, 35, 36, 37, 38, 39, 40, 41, 42, 43, 44, 45, 46, 47, 48, 49, 50, 51, 52] (fun ⟨j, ys2⟩ => [(9, .int .i64 (((j : Nat) : Int)))]) (fun ⟨j, ys2⟩ => [.own (.slice (some ⟨g, 0, none⟩) n c) 3 1 n (ints ys2)]) (fun ⟨j, ys2⟩ => (a ≤ j ∧ j ≤ i) ∧ Within ys ys2 a (i + 1) ∧ InsT key ys2 a i j) (fun ⟨j, ys2⟩ => j) (i, ys) ?_ ?_ ?_ ?_
      · refine ⟨⟨by omega, Nat.le_refl _⟩, Within.refl _ _ _, InsT.start hinv.2.2.2 fun q h0 h1 => ?_⟩
        obtain ⟨p, h2, h3, h4⟩ := hinv.2.2.1.2.2.1 q h0 h1
        rw [h4, hinv.2.2.1.2.1 i (by omega) (.inr (Nat.le_refl _))]
        exact hbig p i h2 h3 hib
      · exact ⟨rfl, trivial⟩
      · exact (Some'.weak (.takeEq (by first | rfl | simp) (.nil _)))
      · rintro ⟨j, ys2⟩ fr hinv
        show Run _ _ (over _ _ [(9, .int .i64 (((j : Nat) : Int)))] fr) [.own (.slice (some ⟨g, 0, none⟩) n c) 3 1 n (ints ys2)]
        try dsimp only at hinv
        refine Run.seq ?_
        refine Run.seq ?_
        refine Run.draws (by kernel_rfl) (by kernel_rfl) ?_
        refine Lex.q (v := .int .i64 (((j : Nat) : Int))) rfl (OpQ.y (OpY.pure rfl)) ?_
        refine Lex.q (v := .int .i64 (((a : Nat) : Int))) rfl (OpQ.y (OpY.pure rfl)) ?_
        refine Lex.q (v := .bool (decide ((((j : Nat) : Int)) > (((a : Nat) : Int))))) rfl (OpQ.y (OpY.pure rfl)) ?_
        rcases Bool.eq_false_or_eq_true (decide ((((j : Nat) : Int)) > (((a : Nat) : Int)))) with h21 | h21
        · refine Lex.q (v := .bool true) rfl (OpQ.y (OpY.moveB rfl h21)) ?_
          have p21 := h21; try simp only [decide_eq_true_eq, decide_eq_false_iff_not, beq_iff_eq, bne_iff_ne, beq_eq_false_iff_ne, ne_eq, gt_iff_lt, ge_iff_le, Int.not_lt, Int.not_le, bne_eq_false_iff_eq, Bool.not_eq_true', Bool.not_eq_false', Bool.and_eq_true, Bool.and_eq_false_iff, Bool.or_eq_true, Bool.or_eq_false_iff, Decidable.not_not, List.cons.injEq, and_true] at p21
          have hja : a < j := by omega
          have hri : InR ys2 n := (hr.within hinv1.2.2.1 (by omega)).within hinv.2.1 (by omega)
          have hzl := hri.1
          have hcl := hc.ltI hri (p := j) (q := j - 1) (by omega) (by omega)
          refine Lex.q (v := .func (.func 40) #[] #[cp]) rfl (OpQ.y (OpY.pure rfl)) ?_
          refine Lex.q (v := .slice (some ⟨g, 0, none⟩) n c) rfl (OpQ.y (OpY.pure rfl)) ?_
          refine Lex.q (v := .int .i64 (((j : Nat) : Int))) rfl (OpQ.y (OpY.pure rfl)) ?_
          refine Lex.q (v := .pointer (some ⟨g, j, none⟩)) rfl (OpQ.y (OpY.index (kk := j) Tsl_43 rfl rfl (by omega) (by omega) (by first | rfl | omega))) ?_
          refine Lex.q (v := .int .i64 (ix ys2 (j))) rfl (OpQ.y (OpY.load1 Tone_3 rfl (Cells.own0 (.head _) (pre1 (by first | omega | (simp; omega)))))) ?_
          refine Lex.q (v := .slice (some ⟨g, 0, none⟩) n c) rfl (OpQ.y (OpY.pure rfl)) ?_
          refine Lex.q (v := .int .i64 (((j : Nat) : Int))) rfl (OpQ.y (OpY.pure rfl)) ?_
          refine Lex.q (v := .int .i64 (((j - 1 : Nat) : Int))) rfl (OpQ.y (OpY.sub rfl rfl (by omega) (by omega) (by omega))) ?_
          refine Lex.q (v := .pointer (some ⟨g, j - 1, none⟩)) rfl (OpQ.y (OpY.index (kk := j - 1) Tsl_43 rfl rfl (by omega) (by omega) (by first | rfl | omega))) ?_
          refine Lex.q (v := .int .i64 (ix ys2 (j - 1))) rfl (OpQ.y (OpY.load1 Tone_3 rfl (Cells.own0 (.head _) (pre1 (by first | omega | (simp; omega)))))) ?_
          refine Lex.q (v := .int .i64 (cf (ix ys2 (j)) (ix ys2 (j - 1)))) rfl (OpQ.call (vs := [.int .i64 (ix ys2 (j)), .int .i64 (ix ys2 (j - 1)), cp]) (caps := [cp]) Tcall_40 rfl rfl (fun w hs => (hc.at hs hri (p := j) (q := j - 1) (by omega) (by omega)))) ?_
          refine Lex.q (v := .bool (decide ((cf (ix ys2 (j)) (ix ys2 (j - 1))) < 0))) rfl (OpQ.y (OpY.pure rfl)) ?_
          refine Lex.q (v := .bool (decide ((cf (ix ys2 (j)) (ix ys2 (j - 1))) < 0))) rfl (OpQ.y (OpY.pure rfl)) ?_
          refine Lex.done ?_
          refine Run.cond (b := decide ((cf (ix ys2 (j)) (ix ys2 (j - 1))) < 0)) rfl (fun h34 => ?_) (fun h34 => ?_)
          · have p34 := h34; try simp only [decide_eq_true_eq, decide_eq_false_iff_not, beq_iff_eq, bne_iff_ne, beq_eq_false_iff_ne, ne_eq, gt_iff_lt, ge_iff_le, Int.not_lt, Int.not_le, bne_eq_false_iff_eq, Bool.not_eq_true', Bool.not_eq_false', Bool.and_eq_true, Bool.and_eq_false_iff, Bool.or_eq_true, Bool.or_eq_false_iff, Decidable.not_not, List.cons.injEq, and_true] at p34
            have hlt := hcl.1 p34
            refine Run.skip ?_
            refine Run.seq ?_
            refine Run.block ?_
            refine Run.lastly [15, 17] (by kernel_rfl) ?_
            refine DL.takeP (i := 0) (v := .slice (some ⟨g, 0, none⟩) n c) rfl (by kernel_rfl) (by kernel_rfl) (by kernel_rfl) (fun _ _ _ h => h) rfl (fun _ => OpY.pure rfl) ?_
            refine DL.takeP (i := 1) (v := .int .i64 (((j : Nat) : Int))) rfl (by kernel_rfl) (by kernel_rfl) (by kernel_rfl) (fun _ _ _ h => h) rfl (fun _ => OpY.pure rfl) ?_
            refine DL.takeP (i := 2) (v := .slice (some ⟨g, 0, none⟩) n c) rfl (by kernel_rfl) (by kernel_rfl) (by kernel_rfl) (fun _ _ _ h => h) rfl (fun _ => OpY.pure rfl) ?_
            refine DL.takeP (i := 3) (v := .int .i64 (((j : Nat) : Int))) rfl (by kernel_rfl) (by kernel_rfl) (by kernel_rfl) (fun _ _ _ h => h) rfl (fun _ => OpY.pure rfl) ?_
            refine DL.takeP (i := 4) (v := .int .i64 (((j - 1 : Nat) : Int))) rfl (by kernel_rfl) (by kernel_rfl) (by kernel_rfl) (fun _ _ _ h => h) rfl (fun _ => OpY.sub rfl rfl (by omega) (by omega) (by omega)) ?_
            refine DL.takeP (i := 5) (v := .slice (some ⟨g, 0, none⟩) n c) rfl (by kernel_rfl) (by kernel_rfl) (by kernel_rfl) (fun _ _ _ h => h) rfl (fun _ => OpY.pure rfl) ?_
            refine DL.takeP (i := 6) (v := .int .i64 (((j : Nat) : Int))) rfl (by kernel_rfl) (by kernel_rfl) (by kernel_rfl) (fun _ _ _ h => h) rfl (fun _ => OpY.pure rfl) ?_
            refine DL.takeP (i := 7) (v := .int .i64 (((j - 1 : Nat) : Int))) rfl (by kernel_rfl) (by kernel_rfl) (by kernel_rfl) (fun _ _ _ h => h) rfl (fun _ => OpY.sub rfl rfl (by omega) (by omega) (by omega)) ?_
            refine DL.takeP (i := 8) (v := .pointer (some ⟨g, j - 1, none⟩)) rfl (by kernel_rfl) (by kernel_rfl) (by kernel_rfl) (fun _ _ _ h => h) rfl (fun _ => OpY.index (kk := j - 1) Tsl_43 rfl rfl (by omega) (by omega) (by first | rfl | omega)) ?_
            refine DL.take (i := 9) (v := .int .i64 (ix ys2 (j - 1))) rfl (by kernel_rfl) (by kernel_rfl) (by kernel_rfl) (by kernel_rfl) (fun _ _ _ h => h) (Some'.weak (.take (.nil _))) rfl (OpY.load1 Tone_3 rfl (Cells.own0 (.head _) (pre1 (by first | omega | (simp; omega))))) ?_
            refine DL.takeP (i := 10) (v := .slice (some ⟨g, 0, none⟩) n c) rfl (by kernel_rfl) (by kernel_rfl) (by kernel_rfl) (fun _ _ _ h => h) rfl (fun _ => OpY.pure rfl) ?_
            refine DL.takeP (i := 11) (v := .int .i64 (((j : Nat) : Int))) rfl (by kernel_rfl) (by kernel_rfl) (by kernel_rfl) (fun _ _ _ h => h) rfl (fun _ => OpY.pure rfl) ?_
            refine DL.takeP (i := 12) (v := .pointer (some ⟨g, j, none⟩)) rfl (by kernel_rfl) (by kernel_rfl) (by kernel_rfl) (fun _ _ _ h => h) rfl (fun _ => OpY.index (kk := j) Tsl_43 rfl rfl (by omega) (by omega) (by first | rfl | omega)) ?_
            refine DL.take (i := 13) (v := .int .i64 (ix ys2 (j))) rfl (by kernel_rfl) (by kernel_rfl) (by kernel_rfl) (by kernel_rfl) (fun _ _ _ h => h) (Some'.weak (.take (.nil _))) rfl (OpY.load1 Tone_3 rfl (Cells.own0 (.head _) (pre1 (by first | omega | (simp; omega))))) ?_
            refine DL.takeP (i := 14) (v := .pointer (some ⟨g, j, none⟩)) rfl (by kernel_rfl) (by kernel_rfl) (by kernel_rfl) (fun _ _ _ h => h) rfl (fun _ => OpY.index (kk := j) Tsl_43 rfl rfl (by omega) (by omega) (by first | rfl | omega)) ?_
            refine DL.step (i := 15) (by kernel_rfl) (by kernel_rfl) rfl rfl (OpStep.storeOwnInt (o := j) (a := ix ys2 (j - 1)) Tsize_3 rfl rfl (.here _) (by first | omega | (simp; omega)) ?_)
            refine DL.takeP (i := 16) (v := .pointer (some ⟨g, j - 1, none⟩)) rfl (by kernel_rfl) (by kernel_rfl) (by kernel_rfl) (fun _ _ _ h => h) rfl (fun _ => OpY.index (kk := j - 1) Tsl_43 rfl rfl (by omega) (by omega) (by first | rfl | omega)) ?_
            refine DL.step (i := 17) (by kernel_rfl) (by kernel_rfl) rfl rfl (OpStep.storeOwnInt (o := j - 1) (a := ix ys2 (j)) Tsize_3 rfl rfl (.here _) (by first | omega | (simp; omega)) ?_)
            refine DL.done (by kernel_rfl) ?_
            refine Run.blockEnd ?_
            refine Run.region ?_
            refine Run.q (v := .int .i64 (((j : Nat) : Int))) rfl (OpQ.y (OpY.pure rfl)) ?_
            refine Run.q (v := .int .i64 (((j - 1 : Nat) : Int))) rfl (OpQ.y (OpY.sub rfl rfl (by omega) (by omega) (by omega))) ?_
            refine Run.q (v := .int .i64 (((j - 1 : Nat) : Int))) rfl (OpQ.y (OpY.pure rfl)) ?_
            refine Run.done ?_
            refine Run.goal ⟨(by repeat (first | exact Same.refl _ _ | refine Same.put rfl ?_ | refine Same.over rfl rfl ?_)), (j - 1, swp ys2 j (j - 1)), ?_, ?_, ?_, ?_⟩
            · exact ⟨⟨by omega, by omega⟩, hinv.2.1.trans (within_swp (by omega) (by omega) (by omega) (by omega) (by omega)), hinv.2.2.swap hja hinv.1.2 (by omega) hlt⟩
            · dsimp only; omega
            · exact ⟨(by first | rfl | (congr 1; omega) | simp), trivial⟩
            · exact (Some'.weak (.takeEq (by first | rfl | simp) (.nil _)))
          · have p34 := h34; try simp only [decide_eq_true_eq, decide_eq_false_iff_not, beq_iff_eq, bne_iff_ne, beq_eq_false_iff_ne, ne_eq, gt_iff_lt, ge_iff_le, Int.not_lt, Int.not_le, bne_eq_false_iff_eq, Bool.not_eq_true', Bool.not_eq_false', Bool.and_eq_true, Bool.and_eq_false_iff, Bool.or_eq_true, Bool.or_eq_false_iff, Decidable.not_not, List.cons.injEq, and_true] at p34
            have hdn2 : j = a ∨ ¬ key (ix ys2 j) < key (ix ys2 (j - 1)) := .inr fun h => by have := hcl.2 h; omega
            refine Run.exit rfl ?_
            refine Run.blockEnd ?_
            refine Run.region ?_
            refine Run.q (v := .int .i64 (((i : Nat) : Int))) rfl (OpQ.y (OpY.pure rfl)) ?_
            refine Run.q (v := .int .i64 (((i + 1 : Nat) : Int))) rfl (OpQ.y (OpY.add rfl rfl (by omega) (by omega) (by omega))) ?_
            refine Run.q (v := .int .i64 (((i + 1 : Nat) : Int))) rfl (OpQ.y (OpY.pure rfl)) ?_
            refine Run.done ?_
            refine Run.goal ⟨(by repeat (first | exact Same.refl _ _ | refine Same.put rfl ?_ | refine Same.over rfl rfl ?_)), (i + 1, ys2), ?_, ?_, ?_, ?_⟩
            · refine ⟨by omega, by omega, (hinv1.2.2.1.mono (Nat.le_refl _) (Nat.le_succ _) (by omega)).trans hinv.2.1, hinv.2.2.done hinv.1.1 hinv.1.2 hdn2⟩
            · dsimp only; omega
            · exact ⟨(by first | rfl | (congr 1; omega) | simp), trivial⟩
            · exact (Some'.weak (.takeEq (by first | rfl | simp) (.nil _)))
        · refine Lex.q (v := .bool false) rfl (OpQ.y (OpY.moveB rfl h21)) ?_
          have p21 := h21; try simp only [decide_eq_true_eq, decide_eq_false_iff_not, beq_iff_eq, bne_iff_ne, beq_eq_false_iff_ne, ne_eq, gt_iff_lt, ge_iff_le, Int.not_lt, Int.not_le, bne_eq_false_iff_eq, Bool.not_eq_true', Bool.not_eq_false', Bool.and_eq_true, Bool.and_eq_false_iff, Bool.or_eq_true, Bool.or_eq_false_iff, Decidable.not_not, List.cons.injEq, and_true] at p21
          have hdn2 : j = a ∨ ¬ key (ix ys2 j) < key (ix ys2 (j - 1)) := .inl (by omega)
          refine Lex.pass rfl ?_
          refine Lex.pass rfl ?_
          refine Lex.pass rfl ?_
          refine Lex.pass rfl ?_
          refine Lex.pass rfl ?_
          refine Lex.pass rfl ?_
          refine Lex.pass rfl ?_
          refine Lex.pass rfl ?_
          refine Lex.pass rfl ?_
          refine Lex.pass rfl ?_
          refine Lex.pass rfl ?_
          refine Lex.pass rfl ?_
          refine Lex.q (v := .bool false) rfl (OpQ.y (OpY.pure rfl)) ?_
          refine Lex.done ?_
          refine Run.cond (b := false) rfl (fun h => nomatch h) (fun _ => ?_)
          refine Run.exit rfl ?_
          refine Run.blockEnd ?_
          refine Run.region ?_
          refine Run.q (v := .int .i64 (((i : Nat) : Int))) rfl (OpQ.y (OpY.pure rfl)) ?_
          refine Run.q (v := .int .i64 (((i + 1 : Nat) : Int))) rfl (OpQ.y (OpY.add rfl rfl (by omega) (by omega) (by omega))) ?_
          refine Run.q (v := .int .i64 (((i + 1 : Nat) : Int))) rfl (OpQ.y (OpY.pure rfl)) ?_
          refine Run.done ?_
          refine Run.goal ⟨(by repeat (first | exact Same.refl _ _ | refine Same.put rfl ?_ | refine Same.over rfl rfl ?_)), (i + 1, ys2), ?_, ?_, ?_, ?_⟩
          · refine ⟨by omega, by omega, (hinv1.2.2.1.mono (Nat.le_refl _) (Nat.le_succ _) (by omega)).trans hinv.2.1, hinv.2.2.done hinv.1.1 hinv.1.2 hdn2⟩
          · dsimp only; omega
          · exact ⟨(by first | rfl | (congr 1; omega) | simp), trivial⟩
          · exact (Some'.weak (.takeEq (by first | rfl | simp) (.nil _)))
    · have p14 := h14; try simp only [decide_eq_true_eq, decide_eq_false_iff_not, beq_iff_eq, bne_iff_ne, beq_eq_false_iff_ne, ne_eq, gt_iff_lt, ge_iff_le, Int.not_lt, Int.not_le, bne_eq_false_iff_eq, Bool.not_eq_true', Bool.not_eq_false', Bool.and_eq_true, Bool.and_eq_false_iff, Bool.or_eq_true, Bool.or_eq_false_iff, Decidable.not_not, List.cons.injEq, and_true] at p14
      have hie : i = b := by omega
      refine Run.exit rfl ?_
      refine Run.fin ?_
      refine ⟨.tuple #[], [.own (.slice (some ⟨g, 0, none⟩) n c) 3 1 n (ints ys)], Out.none rfl, (Some'.weak (.take (.nil _))), ?_⟩
      exact ⟨ys, ⟨by rw [← hie]; exact hinv.2.2.1, by rw [← hie]; exact hinv.2.2.2⟩, rfl, rfl⟩

set_option maxHeartbeats 1000000 in
set_option maxRecDepth 20000 in
theorem insT_none {g n c : Nat} {cf : Int → Int → Int} {key : Int → Int} {cp : Value} {zs : List Int} {w : World} {a b : Nat} (hn : n ≤ 1000000000) (hz : zs.length = n) (hab : a = b) (hb : b ≤ n) (hc : CmpOk g n cf key cp w) (hr : InR zs n) (hbig : ∀ p q, a ≤ p → p < q → q < b → ix zs p < ix zs q) (h : (Res.own (.slice (some ⟨g, 0, none⟩) n c) 3 1 n (ints zs)).holds w) : Calls Try.prog 48 #[.slice (some ⟨g, 0, none⟩) n c, .int .i64 (a : Nat), .int .i64 (b : Nat), .func (.func 40) #[] #[cp]] w (Post (Of [.own (.slice (some ⟨g, 0, none⟩) n c) 3 1 n (ints zs)]) w fun v H => ∃ ys, (Within zs ys a b ∧ SrtT key ys a b) ∧ v = .tuple #[] ∧ H = [.own (.slice (some ⟨g, 0, none⟩) n c) 3 1 n (ints ys)]) := by
  refine enter (n := 53) (args := [.slice (some ⟨g, 0, none⟩) n c, .int .i64 (((a : Nat) : Int)), .int .i64 (((b : Nat) : Int)), .func (.func 40) #[] #[cp]]) Try.func48 rfl rfl (St.start1 h) ?_
  refine Run.seq ?_
  refine Run.region ?_
  refine Run.q (v := .int .i64 (((a : Nat) : Int))) rfl (OpQ.y (OpY.pure rfl)) ?_
  refine Run.q (v := .int .i64 (((a + 1 : Nat) : Int))) rfl (OpQ.y (OpY.add rfl rfl (by omega) (by omega) (by omega))) ?_
  refine Run.q (v := .int .i64 (((a + 1 : Nat) : Int))) rfl (OpQ.y (OpY.pure rfl)) ?_
  refine Run.done ?_
  refine Run.block ?_
  refine Run.unroll 1 ?_
  refine Run.again ?_
  refine Run.seq ?_
  refine Run.seq ?_
  refine Run.region ?_
  refine Run.q (v := .int .i64 (((a + 1 : Nat) : Int))) rfl (OpQ.y (OpY.pure rfl)) ?_
  refine Run.q (v := .int .i64 (((b : Nat) : Int))) rfl (OpQ.y (OpY.pure rfl)) ?_
  refine Run.q (v := .bool (decide ((((a + 1 : Nat) : Int)) < (((b : Nat) : Int))))) rfl (OpQ.y (OpY.pure rfl)) ?_
  refine Run.done ?_
  refine Run.cond (b := decide ((((a + 1 : Nat) : Int)) < (((b : Nat) : Int)))) rfl (fun h14 => ?_) (fun h14 => ?_)
  · exact absurd h14 (by simp; omega) --DONE
  · have p14 := h14; try simp only [decide_eq_true_eq, decide_eq_false_iff_not, beq_iff_eq, bne_iff_ne, beq_eq_false_iff_ne, ne_eq, gt_iff_lt, ge_iff_le, Int.not_lt, Int.not_le, bne_eq_false_iff_eq, Bool.not_eq_true', Bool.not_eq_false', Bool.and_eq_true, Bool.and_eq_false_iff, Bool.or_eq_true, Bool.or_eq_false_iff, Decidable.not_not, List.cons.injEq, and_true] at p14
    refine Run.exit rfl ?_
    refine Run.fin ?_
    refine ⟨.tuple #[], [.own (.slice (some ⟨g, 0, none⟩) n c) 3 1 n (ints zs)], Out.none rfl, (Some'.weak (.take (.nil _))), ?_⟩
    exact ⟨_, ⟨Within.refl _ _ _, SrtT.nil (by omega)⟩, rfl, rfl⟩

def SymStmt (d : Nat) : Prop := ∀ {g n c a m b : Nat} {cf : Int → Int → Int} {key : Int → Int} {cp : Value} {zs : List Int} {w : World} (hd : b - a = d) (hn : n ≤ 1000000000) (hz : zs.length = n) (ham : a < m) (hmb : m < b) (hb : b ≤ n) (hc : CmpOk g n cf key cp w) (hr : InR zs n) (h1 : SrtT key zs a m) (h2 : SrtT key zs m b) (hp : Par2 zs a m b) (h : (Res.own (.slice (some ⟨g, 0, none⟩) n c) 3 1 n (ints zs)).holds w), Calls Try.prog 49 #[.slice (some ⟨g, 0, none⟩) n c, .int .i64 (a : Nat), .int .i64 (m : Nat), .int .i64 (b : Nat), .func (.func 40) #[] #[cp]] w (Post (Of [.own (.slice (some ⟨g, 0, none⟩) n c) 3 1 n (ints zs)]) w fun v H => ∃ ys, (Within zs ys a b ∧ SrtT key ys a b) ∧ v = .tuple #[] ∧ H = [.own (.slice (some ⟨g, 0, none⟩) n c) 3 1 n (ints ys)])

set_option maxHeartbeats 4000000 in
set_option maxRecDepth 20000 in
theorem sym_step (d : Nat) (ih : ∀ d', d' < d → SymStmt d') {g n c a m b : Nat} {cf : Int → Int → Int} {key : Int → Int} {cp : Value} {zs : List Int} {w : World} (hd : b - a = d) (hn : n ≤ 1000000000) (hz : zs.length = n) (ham : a < m) (hmb : m < b) (hb : b ≤ n) (hc : CmpOk g n cf key cp w) (hr : InR zs n) (h1 : SrtT key zs a m) (h2 : SrtT key zs m b) (hp : Par2 zs a m b) (h : (Res.own (.slice (some ⟨g, 0, none⟩) n c) 3 1 n (ints zs)).holds w) : Calls Try.prog 49 #[.slice (some ⟨g, 0, none⟩) n c, .int .i64 (a : Nat), .int .i64 (m : Nat), .int .i64 (b : Nat), .func (.func 40) #[] #[cp]] w (Post (Of [.own (.slice (some ⟨g, 0, none⟩) n c) 3 1 n (ints zs)]) w fun v H => ∃ ys, (Within zs ys a b ∧ SrtT key ys a b) ∧ v = .tuple #[] ∧ H = [.own (.slice (some ⟨g, 0, none⟩) n c) 3 1 n (ints ys)]) := by
  obtain ⟨mid, hmid⟩ : ∃ mid, (a + b) / 2 = mid := ⟨_, rfl⟩
  refine enter (n := 220) (args := [.slice (some ⟨g, 0, none⟩) n c, .int .i64 (((a : Nat) : Int)), .int .i64 (((m : Nat) : Int)), .int .i64 (((b : Nat) : Int)), .func (.func 40) #[] #[cp]]) Try.func49 rfl rfl (St.start1 h) ?_
  refine Run.seq ?_
  refine Run.seq ?_
  refine Run.region ?_
  refine Run.q (v := .int .i64 (((m : Nat) : Int))) rfl (OpQ.y (OpY.pure rfl)) ?_
  refine Run.q (v := .int .i64 (((a : Nat) : Int))) rfl (OpQ.y (OpY.pure rfl)) ?_
  refine Run.q (v := .int .i64 (((m - a : Nat) : Int))) rfl (OpQ.y (OpY.sub rfl rfl (by omega) (by omega) (by omega))) ?_
  refine Run.q (v := .bool ((((m - a : Nat) : Int)) == 1)) rfl (OpQ.y (OpY.pure rfl)) ?_
  refine Run.done ?_
  refine Run.cond (b := (((m - a : Nat) : Int)) == 1) rfl (fun h28 => ?_) (fun h28 => ?_)
  · have p28 := h28; try simp only [decide_eq_true_eq, decide_eq_false_iff_not, beq_iff_eq, bne_iff_ne, beq_eq_false_iff_ne, ne_eq, gt_iff_lt, ge_iff_le, Int.not_lt, Int.not_le, bne_eq_false_iff_eq, Bool.not_eq_true', Bool.not_eq_false', Bool.and_eq_true, Bool.and_eq_false_iff, Bool.or_eq_true, Bool.or_eq_false_iff, Decidable.not_not, List.cons.injEq, and_true] at p28
    have hm1 : m = a + 1 := by omega
    have hri := hr
    refine Run.seq ?_
    refine Run.region ?_
    refine Run.q (v := .int .i64 (((m : Nat) : Int))) rfl (OpQ.y (OpY.pure rfl)) ?_
    refine Run.q (v := .int .i64 (((m : Nat) : Int))) rfl (OpQ.y (OpY.pure rfl)) ?_
    refine Run.done ?_
    refine Run.seq ?_
    refine Run.region ?_
    refine Run.q (v := .int .i64 (((b : Nat) : Int))) rfl (OpQ.y (OpY.pure rfl)) ?_
    refine Run.q (v := .int .i64 (((b : Nat) : Int))) rfl (OpQ.y (OpY.pure rfl)) ?_
    refine Run.done ?_
    refine Run.seq ?_
    refine Run.block ?_
    refine Run.loop (ι := Nat × Nat) [10, 11, 12, 31, 32, 33, 34, 35, 36, 37, 38, 39, 40, 41, 42, 43, 44, 45, 46, 47, 48, 49, 50, 51, 52, 53] (fun ⟨i, j⟩ => [(10, .int .i64 (((i : Nat) : Int))), (11, .int .i64 (((j : Nat) : Int)))]) (fun ⟨i, j⟩ => [.own (.slice (some ⟨g, 0, none⟩) n c) 3 1 n (ints zs)]) (fun ⟨i, j⟩ => m ≤ i ∧ i ≤ j ∧ j ≤ b ∧ (∀ h, m ≤ h → h < i → key (ix zs h) < key (ix zs a)) ∧ ∀ h, j ≤ h → h < b → ¬ key (ix zs h) < key (ix zs a)) (fun ⟨i, j⟩ => j - i) (m, b) ?_ ?_ ?_ ?_
    · exact ⟨Nat.le_refl _, by omega, Nat.le_refl _, fun h _ _ => by omega, fun h _ _ => by omega⟩
    · exact ⟨rfl, rfl, trivial⟩
    · exact (Some'.weak (.take (.nil _)))
    · rintro ⟨i, j⟩ fr hinv
      show Run _ _ (over _ _ [(10, .int .i64 (((i : Nat) : Int))), (11, .int .i64 (((j : Nat) : Int)))] fr) [.own (.slice (some ⟨g, 0, none⟩) n c) 3 1 n (ints zs)]
      try dsimp only at hinv
      refine Run.seq ?_
      refine Run.seq ?_
      refine Run.region ?_
      refine Run.q (v := .int .i64 (((i : Nat) : Int))) rfl (OpQ.y (OpY.pure rfl)) ?_
      refine Run.q (v := .int .i64 (((j : Nat) : Int))) rfl (OpQ.y (OpY.pure rfl)) ?_
      refine Run.q (v := .bool (decide ((((i : Nat) : Int)) < (((j : Nat) : Int))))) rfl (OpQ.y (OpY.pure rfl)) ?_
      refine Run.done ?_
      refine Run.cond (b := decide ((((i : Nat) : Int)) < (((j : Nat) : Int)))) rfl (fun h33 => ?_) (fun h33 => ?_)
      · have p33 := h33; try simp only [decide_eq_true_eq, decide_eq_false_iff_not, beq_iff_eq, bne_iff_ne, beq_eq_false_iff_ne, ne_eq, gt_iff_lt, ge_iff_le, Int.not_lt, Int.not_le, bne_eq_false_iff_eq, Bool.not_eq_true', Bool.not_eq_false', Bool.and_eq_true, Bool.and_eq_false_iff, Bool.or_eq_true, Bool.or_eq_false_iff, Decidable.not_not, List.cons.injEq, and_true] at p33
        have hij : i < j := by omega
        have hcl := hc.ltI hr (p := (i + j) / 2) (q := a) (by omega) (by omega)
        refine Run.skip ?_
        refine Run.block ?_
        refine Run.seq ?_
        refine Run.region ?_
        refine Run.q (v := .int .i64 (((i : Nat) : Int))) rfl (OpQ.y (OpY.pure rfl)) ?_
        refine Run.q (v := .int .i64 (((j : Nat) : Int))) rfl (OpQ.y (OpY.pure rfl)) ?_
        refine Run.q (v := .int .i64 ((((i : Nat) : Int)) + (((j : Nat) : Int)))) rfl (OpQ.y (OpY.add rfl rfl rfl (by omega) (by omega))) ?_
        refine Run.q (v := .int .u64 (((i : Nat) : Int) + ((j : Nat) : Int))) rfl (OpQ.y (OpY.convIntEq Tsome_3 Tint_69 rfl (by first | (rw [IntKind.wrap_u64]; omega) | (rw [half_u _ _ (by omega)]; done) | (rw [half_u _ _ (by omega), hmid])))) ?_
        refine Run.q (v := .int .u64 ((((i : Nat) : Int) + ((j : Nat) : Int)) >>> (1 : Nat))) rfl (OpQ.y (OpY.shrU rfl rfl rfl (by decide))) ?_
        refine Run.q (v := .int .i64 ((((i + j) / 2 : Nat) : Int))) rfl (OpQ.y (OpY.convIntEq Tsome_69 Tint_3 rfl (by first | (rw [IntKind.wrap_u64]; omega) | (rw [half_u _ _ (by omega)]; done) | (rw [half_u _ _ (by omega), hmid])))) ?_
        refine Run.q (v := .int .i64 ((((i + j) / 2 : Nat) : Int))) rfl (OpQ.y (OpY.pure rfl)) ?_
        refine Run.done ?_
        refine Run.seq ?_
        refine Run.draws (by kernel_rfl) (by kernel_rfl) ?_
        refine Lex.q (v := .func (.func 40) #[] #[cp]) rfl (OpQ.y (OpY.pure rfl)) ?_
        refine Lex.q (v := .slice (some ⟨g, 0, none⟩) n c) rfl (OpQ.y (OpY.pure rfl)) ?_
        refine Lex.q (v := .int .i64 ((((i + j) / 2 : Nat) : Int))) rfl (OpQ.y (OpY.pure rfl)) ?_
        refine Lex.q (v := .pointer (some ⟨g, (i + j) / 2, none⟩)) rfl (OpQ.y (OpY.index (kk := (i + j) / 2) Tsl_43 rfl rfl (by omega) (by omega) (by first | rfl | omega))) ?_
        refine Lex.q (v := .int .i64 (ix zs ((i + j) / 2))) rfl (OpQ.y (OpY.load1 Tone_3 rfl (Cells.own0 (.head _) (pre1 (by first | omega | (simp; omega)))))) ?_
        refine Lex.q (v := .slice (some ⟨g, 0, none⟩) n c) rfl (OpQ.y (OpY.pure rfl)) ?_
        refine Lex.q (v := .int .i64 (((a : Nat) : Int))) rfl (OpQ.y (OpY.pure rfl)) ?_
        refine Lex.q (v := .pointer (some ⟨g, a, none⟩)) rfl (OpQ.y (OpY.index (kk := a) Tsl_43 rfl rfl (by omega) (by omega) (by first | rfl | omega))) ?_
        refine Lex.q (v := .int .i64 (ix zs (a))) rfl (OpQ.y (OpY.load1 Tone_3 rfl (Cells.own0 (.head _) (pre1 (by first | omega | (simp; omega)))))) ?_
        refine Lex.q (v := .int .i64 (cf (ix zs ((i + j) / 2)) (ix zs (a)))) rfl (OpQ.call (vs := [.int .i64 (ix zs ((i + j) / 2)), .int .i64 (ix zs (a)), cp]) (caps := [cp]) Tcall_40 rfl rfl (fun w hs => (hc.at hs hri (p := (i + j) / 2) (q := a) (by omega) (by omega)))) ?_
        refine Lex.q (v := .bool (decide ((cf (ix zs ((i + j) / 2)) (ix zs (a))) < 0))) rfl (OpQ.y (OpY.pure rfl)) ?_
        refine Lex.done ?_
        refine Run.cond (b := decide ((cf (ix zs ((i + j) / 2)) (ix zs (a))) < 0)) rfl (fun h50 => ?_) (fun h50 => ?_)
        · have p50 := h50; try simp only [decide_eq_true_eq, decide_eq_false_iff_not, beq_iff_eq, bne_iff_ne, beq_eq_false_iff_ne, ne_eq, gt_iff_lt, ge_iff_le, Int.not_lt, Int.not_le, bne_eq_false_iff_eq, Bool.not_eq_true', Bool.not_eq_false', Bool.and_eq_true, Bool.and_eq_false_iff, Bool.or_eq_true, Bool.or_eq_false_iff, Decidable.not_not, List.cons.injEq, and_true] at p50
          have hlt := hcl.1 p50
          refine Run.region ?_
          refine Run.q (v := .int .i64 ((((i + j) / 2 : Nat) : Int))) rfl (OpQ.y (OpY.pure rfl)) ?_
          refine Run.q (v := .int .i64 ((((i + j) / 2 + 1 : Nat) : Int))) rfl (OpQ.y (OpY.add rfl rfl (by omega) (by omega) (by omega))) ?_
          refine Run.q (v := .int .i64 ((((i + j) / 2 + 1 : Nat) : Int))) rfl (OpQ.y (OpY.pure rfl)) ?_
          refine Run.done ?_
          refine Run.blockEnd ?_
          refine Run.goal ⟨(by repeat (first | exact Same.refl _ _ | refine Same.put rfl ?_ | refine Same.over rfl rfl ?_)), ((i + j) / 2 + 1, j), ?_, ?_, ?_, ?_⟩
          · first | exact ⟨by omega, by omega, by omega, fun h e1 e2 => by have := h2.le (p := h) (q := (i + j) / 2) e1 (by omega) (by omega); omega, hinv.2.2.2.2⟩ | exact ⟨by omega, by omega, by omega, hinv.2.2.2.1, fun h e1 e2 => by have := h2.le (p := (i + j) / 2) (q := h) (by omega) e1 e2; omega⟩
          · dsimp only; omega
          · exact ⟨(by first | rfl | (congr 1; omega) | simp), (by first | rfl | (congr 1; omega) | simp), trivial⟩
          · exact (Some'.weak (.takeEq (by first | rfl | simp) (.nil _)))
        · have p50 := h50; try simp only [decide_eq_true_eq, decide_eq_false_iff_not, beq_iff_eq, bne_iff_ne, beq_eq_false_iff_ne, ne_eq, gt_iff_lt, ge_iff_le, Int.not_lt, Int.not_le, bne_eq_false_iff_eq, Bool.not_eq_true', Bool.not_eq_false', Bool.and_eq_true, Bool.and_eq_false_iff, Bool.or_eq_true, Bool.or_eq_false_iff, Decidable.not_not, List.cons.injEq, and_true] at p50
          have hge : ¬ key (ix zs ((i + j) / 2)) < key (ix zs a) := fun h => by have := hcl.2 h; omega
          refine Run.region ?_
          refine Run.q (v := .int .i64 ((((i + j) / 2 : Nat) : Int))) rfl (OpQ.y (OpY.pure rfl)) ?_
          refine Run.q (v := .int .i64 ((((i + j) / 2 : Nat) : Int))) rfl (OpQ.y (OpY.pure rfl)) ?_
          refine Run.done ?_
          refine Run.blockEnd ?_
          refine Run.goal ⟨(by repeat (first | exact Same.refl _ _ | refine Same.put rfl ?_ | refine Same.over rfl rfl ?_)), (i, (i + j) / 2), ?_, ?_, ?_, ?_⟩
          · first | exact ⟨by omega, by omega, by omega, fun h e1 e2 => by have := h2.le (p := h) (q := (i + j) / 2) e1 (by omega) (by omega); omega, hinv.2.2.2.2⟩ | exact ⟨by omega, by omega, by omega, hinv.2.2.2.1, fun h e1 e2 => by have := h2.le (p := (i + j) / 2) (q := h) (by omega) e1 e2; omega⟩
          · dsimp only; omega
          · exact ⟨(by first | rfl | (congr 1; omega) | simp), (by first | rfl | (congr 1; omega) | simp), trivial⟩
          · exact (Some'.weak (.takeEq (by first | rfl | simp) (.nil _)))
      · have p33 := h33; try simp only [decide_eq_true_eq, decide_eq_false_iff_not, beq_iff_eq, bne_iff_ne, beq_eq_false_iff_ne, ne_eq, gt_iff_lt, ge_iff_le, Int.not_lt, Int.not_le, bne_eq_false_iff_eq, Bool.not_eq_true', Bool.not_eq_false', Bool.and_eq_true, Bool.and_eq_false_iff, Bool.or_eq_true, Bool.or_eq_false_iff, Decidable.not_not, List.cons.injEq, and_true] at p33
        have hij : i = j := by omega
        have hR0 : rot zs a m (a + 1) = zs := rot_nil (by omega) (by omega) (by omega) (.inr hm1)
        have hfin := ins_left hm1 hinv.1 (show i ≤ b by omega) (by omega) h2 hp hinv.2.2.2.1 (by rw [hij]; exact hinv.2.2.2.2)
        refine Run.exit rfl ?_
        refine Run.seq ?_
        refine Run.seq ?_
        refine Run.region ?_
        refine Run.q (v := .int .i64 (((a : Nat) : Int))) rfl (OpQ.y (OpY.pure rfl)) ?_
        refine Run.q (v := .int .i64 (((a : Nat) : Int))) rfl (OpQ.y (OpY.pure rfl)) ?_
        refine Run.done ?_
        refine Run.block ?_
        refine Run.loop (ι := Nat) [13, 55, 56, 57, 58, 59, 60, 61, 62, 63, 64, 65, 66, 67, 68, 69, 70, 71, 72, 73, 74, 75, 76] (fun k => [(13, .int .i64 (((k : Nat) : Int)))]) (fun k => [.own (.slice (some ⟨g, 0, none⟩) n c) 3 1 n (ints (rot zs a m (k + 1)))]) (fun k => a ≤ k ∧ k + 1 ≤ i) (fun k => i - k) a ?_ ?_ ?_ ?_
        · exact ⟨Nat.le_refl _, by omega⟩
        · exact ⟨rfl, trivial⟩
        · exact (Some'.weak (.takeEq (by first | (exact congrArg (fun z => Res.own _ _ _ _ (ints z))  hRk) | (exact congrArg (fun z => Res.own _ _ _ _ (ints z))  hR0.symm) | rfl) (.nil _)))
        · rintro k fr hinv
          show Run _ _ (over _ _ [(13, .int .i64 (((k : Nat) : Int)))] fr) [.own (.slice (some ⟨g, 0, none⟩) n c) 3 1 n (ints (rot zs a m (k + 1)))]
          try dsimp only at hinv
          refine Run.seq ?_
          refine Run.seq ?_
          refine Run.region ?_
          refine Run.q (v := .int .i64 (((k : Nat) : Int))) rfl (OpQ.y (OpY.pure rfl)) ?_
          refine Run.q (v := .int .i64 (((i : Nat) : Int))) rfl (OpQ.y (OpY.pure rfl)) ?_
          refine Run.q (v := .int .i64 (((i - 1 : Nat) : Int))) rfl (OpQ.y (OpY.sub rfl rfl (by omega) (by omega) (by omega))) ?_
          refine Run.q (v := .bool (decide ((((k : Nat) : Int)) < (((i - 1 : Nat) : Int))))) rfl (OpQ.y (OpY.pure rfl)) ?_
          refine Run.done ?_
          refine Run.cond (b := decide ((((k : Nat) : Int)) < (((i - 1 : Nat) : Int)))) rfl (fun h58 => ?_) (fun h58 => ?_)
          · have p58 := h58; try simp only [decide_eq_true_eq, decide_eq_false_iff_not, beq_iff_eq, bne_iff_ne, beq_eq_false_iff_ne, ne_eq, gt_iff_lt, ge_iff_le, Int.not_lt, Int.not_le, bne_eq_false_iff_eq, Bool.not_eq_true', Bool.not_eq_false', Bool.and_eq_true, Bool.and_eq_false_iff, Bool.or_eq_true, Bool.or_eq_false_iff, Decidable.not_not, List.cons.injEq, and_true] at p58
            have hki : k + 1 < i := by omega
            have hRl : (rot zs a m (k + 1)).length = n := by rw [rot_length (by omega) (by omega) (by omega)]; exact hz
            have hRk := rot_step (zs := zs) hm1 hinv.1 (by omega)
            refine Run.skip ?_
            refine Run.seq ?_
            refine Run.block ?_
            refine Run.lastly [15, 17] (by kernel_rfl) ?_
            refine DL.takeP (i := 0) (v := .slice (some ⟨g, 0, none⟩) n c) rfl (by kernel_rfl) (by kernel_rfl) (by kernel_rfl) (fun _ _ _ h => h) rfl (fun _ => OpY.pure rfl) ?_
            refine DL.takeP (i := 1) (v := .int .i64 (((k : Nat) : Int))) rfl (by kernel_rfl) (by kernel_rfl) (by kernel_rfl) (fun _ _ _ h => h) rfl (fun _ => OpY.pure rfl) ?_
            refine DL.takeP (i := 2) (v := .slice (some ⟨g, 0, none⟩) n c) rfl (by kernel_rfl) (by kernel_rfl) (by kernel_rfl) (fun _ _ _ h => h) rfl (fun _ => OpY.pure rfl) ?_
            refine DL.takeP (i := 3) (v := .int .i64 (((k : Nat) : Int))) rfl (by kernel_rfl) (by kernel_rfl) (by kernel_rfl) (fun _ _ _ h => h) rfl (fun _ => OpY.pure rfl) ?_
            refine DL.takeP (i := 4) (v := .int .i64 (((k + 1 : Nat) : Int))) rfl (by kernel_rfl) (by kernel_rfl) (by kernel_rfl) (fun _ _ _ h => h) rfl (fun _ => OpY.add rfl rfl (by omega) (by omega) (by omega)) ?_
            refine DL.takeP (i := 5) (v := .slice (some ⟨g, 0, none⟩) n c) rfl (by kernel_rfl) (by kernel_rfl) (by kernel_rfl) (fun _ _ _ h => h) rfl (fun _ => OpY.pure rfl) ?_
            refine DL.takeP (i := 6) (v := .int .i64 (((k : Nat) : Int))) rfl (by kernel_rfl) (by kernel_rfl) (by kernel_rfl) (fun _ _ _ h => h) rfl (fun _ => OpY.pure rfl) ?_
            refine DL.takeP (i := 7) (v := .int .i64 (((k + 1 : Nat) : Int))) rfl (by kernel_rfl) (by kernel_rfl) (by kernel_rfl) (fun _ _ _ h => h) rfl (fun _ => OpY.add rfl rfl (by omega) (by omega) (by omega)) ?_
            refine DL.takeP (i := 8) (v := .pointer (some ⟨g, k + 1, none⟩)) rfl (by kernel_rfl) (by kernel_rfl) (by kernel_rfl) (fun _ _ _ h => h) rfl (fun _ => OpY.index (kk := k + 1) Tsl_43 rfl rfl (by omega) (by omega) (by first | rfl | omega)) ?_
            refine DL.take (i := 9) (v := .int .i64 (ix (rot zs a m (k + 1)) (k + 1))) rfl (by kernel_rfl) (by kernel_rfl) (by kernel_rfl) (by kernel_rfl) (fun _ _ _ h => h) (Some'.weak (.take (.nil _))) rfl (OpY.load1 Tone_3 rfl (Cells.own0 (.head _) (pre1 (by first | omega | (simp; omega))))) ?_
            refine DL.takeP (i := 10) (v := .slice (some ⟨g, 0, none⟩) n c) rfl (by kernel_rfl) (by kernel_rfl) (by kernel_rfl) (fun _ _ _ h => h) rfl (fun _ => OpY.pure rfl) ?_
            refine DL.takeP (i := 11) (v := .int .i64 (((k : Nat) : Int))) rfl (by kernel_rfl) (by kernel_rfl) (by kernel_rfl) (fun _ _ _ h => h) rfl (fun _ => OpY.pure rfl) ?_
            refine DL.takeP (i := 12) (v := .pointer (some ⟨g, k, none⟩)) rfl (by kernel_rfl) (by kernel_rfl) (by kernel_rfl) (fun _ _ _ h => h) rfl (fun _ => OpY.index (kk := k) Tsl_43 rfl rfl (by omega) (by omega) (by first | rfl | omega)) ?_
            refine DL.take (i := 13) (v := .int .i64 (ix (rot zs a m (k + 1)) (k))) rfl (by kernel_rfl) (by kernel_rfl) (by kernel_rfl) (by kernel_rfl) (fun _ _ _ h => h) (Some'.weak (.take (.nil _))) rfl (OpY.load1 Tone_3 rfl (Cells.own0 (.head _) (pre1 (by first | omega | (simp; omega))))) ?_
            refine DL.takeP (i := 14) (v := .pointer (some ⟨g, k, none⟩)) rfl (by kernel_rfl) (by kernel_rfl) (by kernel_rfl) (fun _ _ _ h => h) rfl (fun _ => OpY.index (kk := k) Tsl_43 rfl rfl (by omega) (by omega) (by first | rfl | omega)) ?_
            refine DL.step (i := 15) (by kernel_rfl) (by kernel_rfl) rfl rfl (OpStep.storeOwnInt (o := k) (a := ix (rot zs a m (k + 1)) (k + 1)) Tsize_3 rfl rfl (.here _) (by first | omega | (simp; omega)) ?_)
            refine DL.takeP (i := 16) (v := .pointer (some ⟨g, k + 1, none⟩)) rfl (by kernel_rfl) (by kernel_rfl) (by kernel_rfl) (fun _ _ _ h => h) rfl (fun _ => OpY.index (kk := k + 1) Tsl_43 rfl rfl (by omega) (by omega) (by first | rfl | omega)) ?_
            refine DL.step (i := 17) (by kernel_rfl) (by kernel_rfl) rfl rfl (OpStep.storeOwnInt (o := k + 1) (a := ix (rot zs a m (k + 1)) (k)) Tsize_3 rfl rfl (.here _) (by first | omega | (simp; omega)) ?_)
            refine DL.done (by kernel_rfl) ?_
            refine Run.blockEnd ?_
            refine Run.region ?_
            refine Run.q (v := .int .i64 (((k : Nat) : Int))) rfl (OpQ.y (OpY.pure rfl)) ?_
            refine Run.q (v := .int .i64 (((k + 1 : Nat) : Int))) rfl (OpQ.y (OpY.add rfl rfl (by omega) (by omega) (by omega))) ?_
            refine Run.q (v := .int .i64 (((k + 1 : Nat) : Int))) rfl (OpQ.y (OpY.pure rfl)) ?_
            refine Run.done ?_
            refine Run.goal ⟨(by repeat (first | exact Same.refl _ _ | refine Same.put rfl ?_ | refine Same.over rfl rfl ?_)), k + 1, ?_, ?_, ?_, ?_⟩
            · exact ⟨by omega, by omega⟩
            · omega
            · exact ⟨(by first | rfl | (congr 1; omega) | simp), trivial⟩
            · exact (Some'.weak (.takeEq (by first | (exact congrArg (fun z => Res.own _ _ _ _ (ints z))  hRk) | (exact congrArg (fun z => Res.own _ _ _ _ (ints z))  hR0.symm) | rfl) (.nil _)))
          · have p58 := h58; try simp only [decide_eq_true_eq, decide_eq_false_iff_not, beq_iff_eq, bne_iff_ne, beq_eq_false_iff_ne, ne_eq, gt_iff_lt, ge_iff_le, Int.not_lt, Int.not_le, bne_eq_false_iff_eq, Bool.not_eq_true', Bool.not_eq_false', Bool.and_eq_true, Bool.and_eq_false_iff, Bool.or_eq_true, Bool.or_eq_false_iff, Decidable.not_not, List.cons.injEq, and_true] at p58
            have hki : k + 1 = i := by omega
            refine Run.exit rfl ?_
            refine Run.ret ?_
            refine ⟨.tuple #[], [.own (.slice (some ⟨g, 0, none⟩) n c) 3 1 n (ints ((rot zs a m (k + 1))))], Out.none rfl, (Some'.weak (.takeEq (by first | rfl | simp) (.nil _))), ?_⟩
            refine ⟨_, ⟨?_, ?_⟩, rfl, rfl⟩
            · first | exact (by rw [hki]; exact (within_rot (zs := zs) (by omega) (by omega) (by omega)).mono (by omega) (by omega) (by omega))
            · first | (rw [hki]; exact hfin)
  · have p28 := h28; try simp only [decide_eq_true_eq, decide_eq_false_iff_not, beq_iff_eq, bne_iff_ne, beq_eq_false_iff_ne, ne_eq, gt_iff_lt, ge_iff_le, Int.not_lt, Int.not_le, bne_eq_false_iff_eq, Bool.not_eq_true', Bool.not_eq_false', Bool.and_eq_true, Bool.and_eq_false_iff, Bool.or_eq_true, Bool.or_eq_false_iff, Decidable.not_not, List.cons.injEq, and_true] at p28
    have hm2 : a + 2 ≤ m := by omega
    refine Run.skip ?_
    refine Run.seq ?_
    refine Run.seq ?_
    refine Run.region ?_
    refine Run.q (v := .int .i64 (((b : Nat) : Int))) rfl (OpQ.y (OpY.pure rfl)) ?_
    refine Run.q (v := .int .i64 (((m : Nat) : Int))) rfl (OpQ.y (OpY.pure rfl)) ?_
    refine Run.q (v := .int .i64 (((b - m : Nat) : Int))) rfl (OpQ.y (OpY.sub rfl rfl (by omega) (by omega) (by omega))) ?_
    refine Run.q (v := .bool ((((b - m : Nat) : Int)) == 1)) rfl (OpQ.y (OpY.pure rfl)) ?_
    refine Run.done ?_
    refine Run.cond (b := (((b - m : Nat) : Int)) == 1) rfl (fun h80 => ?_) (fun h80 => ?_)
    · have p80 := h80; try simp only [decide_eq_true_eq, decide_eq_false_iff_not, beq_iff_eq, bne_iff_ne, beq_eq_false_iff_ne, ne_eq, gt_iff_lt, ge_iff_le, Int.not_lt, Int.not_le, bne_eq_false_iff_eq, Bool.not_eq_true', Bool.not_eq_false', Bool.and_eq_true, Bool.and_eq_false_iff, Bool.or_eq_true, Bool.or_eq_false_iff, Decidable.not_not, List.cons.injEq, and_true] at p80
      have hb1 : b = m + 1 := by omega
      have hri := hr
      refine Run.seq ?_
      refine Run.region ?_
      refine Run.q (v := .int .i64 (((a : Nat) : Int))) rfl (OpQ.y (OpY.pure rfl)) ?_
      refine Run.q (v := .int .i64 (((a : Nat) : Int))) rfl (OpQ.y (OpY.pure rfl)) ?_
      refine Run.done ?_
      refine Run.seq ?_
      refine Run.region ?_
      refine Run.q (v := .int .i64 (((m : Nat) : Int))) rfl (OpQ.y (OpY.pure rfl)) ?_
      refine Run.q (v := .int .i64 (((m : Nat) : Int))) rfl (OpQ.y (OpY.pure rfl)) ?_
      refine Run.done ?_
      refine Run.seq ?_
      refine Run.block ?_
      refine Run.loop (ι := Nat × Nat) [14, 15, 16, 83, 84, 85, 86, 87, 88, 89, 90, 91, 92, 93, 94, 95, 96, 97, 98, 99, 100, 101, 102, 103, 104, 105, 106] (fun ⟨i, j⟩ => [(14, .int .i64 (((i : Nat) : Int))), (15, .int .i64 (((j : Nat) : Int)))]) (fun ⟨i, j⟩ => [.own (.slice (some ⟨g, 0, none⟩) n c) 3 1 n (ints zs)]) (fun ⟨i, j⟩ => a ≤ i ∧ i ≤ j ∧ j ≤ m ∧ (∀ h, a ≤ h → h < i → ¬ key (ix zs m) < key (ix zs h)) ∧ ∀ h, j ≤ h → h < m → key (ix zs m) < key (ix zs h)) (fun ⟨i, j⟩ => j - i) (a, m) ?_ ?_ ?_ ?_
      · exact ⟨Nat.le_refl _, by omega, Nat.le_refl _, fun h _ _ => by omega, fun h _ _ => by omega⟩
      · exact ⟨rfl, rfl, trivial⟩
      · exact (Some'.weak (.take (.nil _)))
      · rintro ⟨i, j⟩ fr hinv
        show Run _ _ (over _ _ [(14, .int .i64 (((i : Nat) : Int))), (15, .int .i64 (((j : Nat) : Int)))] fr) [.own (.slice (some ⟨g, 0, none⟩) n c) 3 1 n (ints zs)]
        try dsimp only at hinv
        refine Run.seq ?_
        refine Run.seq ?_
        refine Run.region ?_
        refine Run.q (v := .int .i64 (((i : Nat) : Int))) rfl (OpQ.y (OpY.pure rfl)) ?_
        refine Run.q (v := .int .i64 (((j : Nat) : Int))) rfl (OpQ.y (OpY.pure rfl)) ?_
        refine Run.q (v := .bool (decide ((((i : Nat) : Int)) < (((j : Nat) : Int))))) rfl (OpQ.y (OpY.pure rfl)) ?_
        refine Run.done ?_
        refine Run.cond (b := decide ((((i : Nat) : Int)) < (((j : Nat) : Int)))) rfl (fun h85 => ?_) (fun h85 => ?_)
        · have p85 := h85; try simp only [decide_eq_true_eq, decide_eq_false_iff_not, beq_iff_eq, bne_iff_ne, beq_eq_false_iff_ne, ne_eq, gt_iff_lt, ge_iff_le, Int.not_lt, Int.not_le, bne_eq_false_iff_eq, Bool.not_eq_true', Bool.not_eq_false', Bool.and_eq_true, Bool.and_eq_false_iff, Bool.or_eq_true, Bool.or_eq_false_iff, Decidable.not_not, List.cons.injEq, and_true] at p85
          have hij : i < j := by omega
          have hcl := hc.ltI hr (p := m) (q := (i + j) / 2) (by omega) (by omega)
          refine Run.skip ?_
          refine Run.block ?_
          refine Run.seq ?_
          refine Run.region ?_
          refine Run.q (v := .int .i64 (((i : Nat) : Int))) rfl (OpQ.y (OpY.pure rfl)) ?_
          refine Run.q (v := .int .i64 (((j : Nat) : Int))) rfl (OpQ.y (OpY.pure rfl)) ?_
          refine Run.q (v := .int .i64 ((((i : Nat) : Int)) + (((j : Nat) : Int)))) rfl (OpQ.y (OpY.add rfl rfl rfl (by omega) (by omega))) ?_
          refine Run.q (v := .int .u64 (((i : Nat) : Int) + ((j : Nat) : Int))) rfl (OpQ.y (OpY.convIntEq Tsome_3 Tint_69 rfl (by first | (rw [IntKind.wrap_u64]; omega) | (rw [half_u _ _ (by omega)]; done) | (rw [half_u _ _ (by omega), hmid])))) ?_
          refine Run.q (v := .int .u64 ((((i : Nat) : Int) + ((j : Nat) : Int)) >>> (1 : Nat))) rfl (OpQ.y (OpY.shrU rfl rfl rfl (by decide))) ?_
          refine Run.q (v := .int .i64 ((((i + j) / 2 : Nat) : Int))) rfl (OpQ.y (OpY.convIntEq Tsome_69 Tint_3 rfl (by first | (rw [IntKind.wrap_u64]; omega) | (rw [half_u _ _ (by omega)]; done) | (rw [half_u _ _ (by omega), hmid])))) ?_
          refine Run.q (v := .int .i64 ((((i + j) / 2 : Nat) : Int))) rfl (OpQ.y (OpY.pure rfl)) ?_
          refine Run.done ?_
          refine Run.seq ?_
          refine Run.draws (by kernel_rfl) (by kernel_rfl) ?_
          refine Lex.q (v := .func (.func 40) #[] #[cp]) rfl (OpQ.y (OpY.pure rfl)) ?_
          refine Lex.q (v := .slice (some ⟨g, 0, none⟩) n c) rfl (OpQ.y (OpY.pure rfl)) ?_
          refine Lex.q (v := .int .i64 (((m : Nat) : Int))) rfl (OpQ.y (OpY.pure rfl)) ?_
          refine Lex.q (v := .pointer (some ⟨g, m, none⟩)) rfl (OpQ.y (OpY.index (kk := m) Tsl_43 rfl rfl (by omega) (by omega) (by first | rfl | omega))) ?_
          refine Lex.q (v := .int .i64 (ix zs (m))) rfl (OpQ.y (OpY.load1 Tone_3 rfl (Cells.own0 (.head _) (pre1 (by first | omega | (simp; omega)))))) ?_
          refine Lex.q (v := .slice (some ⟨g, 0, none⟩) n c) rfl (OpQ.y (OpY.pure rfl)) ?_
          refine Lex.q (v := .int .i64 ((((i + j) / 2 : Nat) : Int))) rfl (OpQ.y (OpY.pure rfl)) ?_
          refine Lex.q (v := .pointer (some ⟨g, (i + j) / 2, none⟩)) rfl (OpQ.y (OpY.index (kk := (i + j) / 2) Tsl_43 rfl rfl (by omega) (by omega) (by first | rfl | omega))) ?_
          refine Lex.q (v := .int .i64 (ix zs ((i + j) / 2))) rfl (OpQ.y (OpY.load1 Tone_3 rfl (Cells.own0 (.head _) (pre1 (by first | omega | (simp; omega)))))) ?_
          refine Lex.q (v := .int .i64 (cf (ix zs (m)) (ix zs ((i + j) / 2)))) rfl (OpQ.call (vs := [.int .i64 (ix zs (m)), .int .i64 (ix zs ((i + j) / 2)), cp]) (caps := [cp]) Tcall_40 rfl rfl (fun w hs => (hc.at hs hri (p := m) (q := (i + j) / 2) (by omega) (by omega)))) ?_
          refine Lex.q (v := .bool (decide ((cf (ix zs (m)) (ix zs ((i + j) / 2))) < 0))) rfl (OpQ.y (OpY.pure rfl)) ?_
          refine Lex.q (v := .bool (!(decide ((cf (ix zs (m)) (ix zs ((i + j) / 2))) < 0)))) rfl (OpQ.y (OpY.pure rfl)) ?_
          refine Lex.done ?_
          refine Run.cond (b := !(decide ((cf (ix zs (m)) (ix zs ((i + j) / 2))) < 0))) rfl (fun h103 => ?_) (fun h103 => ?_)
          · have p103 := h103; try simp only [decide_eq_true_eq, decide_eq_false_iff_not, beq_iff_eq, bne_iff_ne, beq_eq_false_iff_ne, ne_eq, gt_iff_lt, ge_iff_le, Int.not_lt, Int.not_le, bne_eq_false_iff_eq, Bool.not_eq_true', Bool.not_eq_false', Bool.and_eq_true, Bool.and_eq_false_iff, Bool.or_eq_true, Bool.or_eq_false_iff, Decidable.not_not, List.cons.injEq, and_true] at p103
            have hge : ¬ key (ix zs m) < key (ix zs ((i + j) / 2)) := fun h => by have := hcl.2 h; omega
            refine Run.region ?_
            refine Run.q (v := .int .i64 ((((i + j) / 2 : Nat) : Int))) rfl (OpQ.y (OpY.pure rfl)) ?_
            refine Run.q (v := .int .i64 ((((i + j) / 2 + 1 : Nat) : Int))) rfl (OpQ.y (OpY.add rfl rfl (by omega) (by omega) (by omega))) ?_
            refine Run.q (v := .int .i64 ((((i + j) / 2 + 1 : Nat) : Int))) rfl (OpQ.y (OpY.pure rfl)) ?_
            refine Run.done ?_
            refine Run.blockEnd ?_
            refine Run.goal ⟨(by repeat (first | exact Same.refl _ _ | refine Same.put rfl ?_ | refine Same.over rfl rfl ?_)), ((i + j) / 2 + 1, j), ?_, ?_, ?_, ?_⟩
            · first | exact ⟨by omega, by omega, by omega, fun h e1 e2 => by have := h1.le (p := h) (q := (i + j) / 2) e1 (by omega) (by omega); omega, hinv.2.2.2.2⟩ | exact ⟨by omega, by omega, by omega, hinv.2.2.2.1, fun h e1 e2 => by have := h1.le (p := (i + j) / 2) (q := h) (by omega) e1 e2; omega⟩
            · dsimp only; omega
            · exact ⟨(by first | rfl | (congr 1; omega) | simp), (by first | rfl | (congr 1; omega) | simp), trivial⟩
            · exact (Some'.weak (.takeEq (by first | rfl | simp) (.nil _)))
          · have p103 := h103; try simp only [decide_eq_true_eq, decide_eq_false_iff_not, beq_iff_eq, bne_iff_ne, beq_eq_false_iff_ne, ne_eq, gt_iff_lt, ge_iff_le, Int.not_lt, Int.not_le, bne_eq_false_iff_eq, Bool.not_eq_true', Bool.not_eq_false', Bool.and_eq_true, Bool.and_eq_false_iff, Bool.or_eq_true, Bool.or_eq_false_iff, Decidable.not_not, List.cons.injEq, and_true] at p103
            have hlt := hcl.1 (by omega)
            refine Run.region ?_
            refine Run.q (v := .int .i64 ((((i + j) / 2 : Nat) : Int))) rfl (OpQ.y (OpY.pure rfl)) ?_
            refine Run.q (v := .int .i64 ((((i + j) / 2 : Nat) : Int))) rfl (OpQ.y (OpY.pure rfl)) ?_
            refine Run.done ?_
            refine Run.blockEnd ?_
            refine Run.goal ⟨(by repeat (first | exact Same.refl _ _ | refine Same.put rfl ?_ | refine Same.over rfl rfl ?_)), (i, (i + j) / 2), ?_, ?_, ?_, ?_⟩
            · first | exact ⟨by omega, by omega, by omega, fun h e1 e2 => by have := h1.le (p := h) (q := (i + j) / 2) e1 (by omega) (by omega); omega, hinv.2.2.2.2⟩ | exact ⟨by omega, by omega, by omega, hinv.2.2.2.1, fun h e1 e2 => by have := h1.le (p := (i + j) / 2) (q := h) (by omega) e1 e2; omega⟩
            · dsimp only; omega
            · exact ⟨(by first | rfl | (congr 1; omega) | simp), (by first | rfl | (congr 1; omega) | simp), trivial⟩
            · exact (Some'.weak (.takeEq (by first | rfl | simp) (.nil _)))
        · have p85 := h85; try simp only [decide_eq_true_eq, decide_eq_false_iff_not, beq_iff_eq, bne_iff_ne, beq_eq_false_iff_ne, ne_eq, gt_iff_lt, ge_iff_le, Int.not_lt, Int.not_le, bne_eq_false_iff_eq, Bool.not_eq_true', Bool.not_eq_false', Bool.and_eq_true, Bool.and_eq_false_iff, Bool.or_eq_true, Bool.or_eq_false_iff, Decidable.not_not, List.cons.injEq, and_true] at p85
          have hij : i = j := by omega
          have hR0 : rot zs m m b = zs := rot_nil (by omega) (by omega) (by omega) (.inl rfl)
          have hfin := ins_right hb1 hinv.1 (show i ≤ m by omega) (by omega) h1 hp hinv.2.2.2.1 (by rw [hij]; exact hinv.2.2.2.2)
          refine Run.exit rfl ?_
          refine Run.seq ?_
          refine Run.seq ?_
          refine Run.region ?_
          refine Run.q (v := .int .i64 (((m : Nat) : Int))) rfl (OpQ.y (OpY.pure rfl)) ?_
          refine Run.q (v := .int .i64 (((m : Nat) : Int))) rfl (OpQ.y (OpY.pure rfl)) ?_
          refine Run.done ?_
          refine Run.block ?_
          refine Run.loop (ι := Nat) [17, 108, 109, 110, 111, 112, 113, 114, 115, 116, 117, 118, 119, 120, 121, 122, 123, 124, 125, 126, 127, 128] (fun k => [(17, .int .i64 (((k : Nat) : Int)))]) (fun k => [.own (.slice (some ⟨g, 0, none⟩) n c) 3 1 n (ints (rot zs k m b))]) (fun k => i ≤ k ∧ k ≤ m) (fun k => k) m ?_ ?_ ?_ ?_
          · exact ⟨by omega, Nat.le_refl _⟩
          · exact ⟨rfl, trivial⟩
          · exact (Some'.weak (.takeEq (by first | (exact congrArg (fun z => Res.own _ _ _ _ (ints z))  hRk) | (exact congrArg (fun z => Res.own _ _ _ _ (ints z))  hR0.symm) | rfl) (.nil _)))
          · rintro k fr hinv
            show Run _ _ (over _ _ [(17, .int .i64 (((k : Nat) : Int)))] fr) [.own (.slice (some ⟨g, 0, none⟩) n c) 3 1 n (ints (rot zs k m b))]
            try dsimp only at hinv
            refine Run.seq ?_
            refine Run.seq ?_
            refine Run.region ?_
            refine Run.q (v := .int .i64 (((k : Nat) : Int))) rfl (OpQ.y (OpY.pure rfl)) ?_
            refine Run.q (v := .int .i64 (((i : Nat) : Int))) rfl (OpQ.y (OpY.pure rfl)) ?_
            refine Run.q (v := .bool (decide ((((k : Nat) : Int)) > (((i : Nat) : Int))))) rfl (OpQ.y (OpY.pure rfl)) ?_
            refine Run.done ?_
            refine Run.cond (b := decide ((((k : Nat) : Int)) > (((i : Nat) : Int)))) rfl (fun h110 => ?_) (fun h110 => ?_)
            · have p110 := h110; try simp only [decide_eq_true_eq, decide_eq_false_iff_not, beq_iff_eq, bne_iff_ne, beq_eq_false_iff_ne, ne_eq, gt_iff_lt, ge_iff_le, Int.not_lt, Int.not_le, bne_eq_false_iff_eq, Bool.not_eq_true', Bool.not_eq_false', Bool.and_eq_true, Bool.and_eq_false_iff, Bool.or_eq_true, Bool.or_eq_false_iff, Decidable.not_not, List.cons.injEq, and_true] at p110
              have hki : i < k := by omega
              have hRl : (rot zs k m b).length = n := by rw [rot_length (by omega) (by omega) (by omega)]; exact hz
              have hRk := rot_step' (zs := zs) hb1 (show 0 < k by omega) hinv.2 (by omega)
              refine Run.skip ?_
              refine Run.seq ?_
              refine Run.block ?_
              refine Run.lastly [15, 17] (by kernel_rfl) ?_
              refine DL.takeP (i := 0) (v := .slice (some ⟨g, 0, none⟩) n c) rfl (by kernel_rfl) (by kernel_rfl) (by kernel_rfl) (fun _ _ _ h => h) rfl (fun _ => OpY.pure rfl) ?_
              refine DL.takeP (i := 1) (v := .int .i64 (((k : Nat) : Int))) rfl (by kernel_rfl) (by kernel_rfl) (by kernel_rfl) (fun _ _ _ h => h) rfl (fun _ => OpY.pure rfl) ?_
              refine DL.takeP (i := 2) (v := .slice (some ⟨g, 0, none⟩) n c) rfl (by kernel_rfl) (by kernel_rfl) (by kernel_rfl) (fun _ _ _ h => h) rfl (fun _ => OpY.pure rfl) ?_
              refine DL.takeP (i := 3) (v := .int .i64 (((k : Nat) : Int))) rfl (by kernel_rfl) (by kernel_rfl) (by kernel_rfl) (fun _ _ _ h => h) rfl (fun _ => OpY.pure rfl) ?_
              refine DL.takeP (i := 4) (v := .int .i64 (((k - 1 : Nat) : Int))) rfl (by kernel_rfl) (by kernel_rfl) (by kernel_rfl) (fun _ _ _ h => h) rfl (fun _ => OpY.sub rfl rfl (by omega) (by omega) (by omega)) ?_
              refine DL.takeP (i := 5) (v := .slice (some ⟨g, 0, none⟩) n c) rfl (by kernel_rfl) (by kernel_rfl) (by kernel_rfl) (fun _ _ _ h => h) rfl (fun _ => OpY.pure rfl) ?_
              refine DL.takeP (i := 6) (v := .int .i64 (((k : Nat) : Int))) rfl (by kernel_rfl) (by kernel_rfl) (by kernel_rfl) (fun _ _ _ h => h) rfl (fun _ => OpY.pure rfl) ?_
              refine DL.takeP (i := 7) (v := .int .i64 (((k - 1 : Nat) : Int))) rfl (by kernel_rfl) (by kernel_rfl) (by kernel_rfl) (fun _ _ _ h => h) rfl (fun _ => OpY.sub rfl rfl (by omega) (by omega) (by omega)) ?_
              refine DL.takeP (i := 8) (v := .pointer (some ⟨g, k - 1, none⟩)) rfl (by kernel_rfl) (by kernel_rfl) (by kernel_rfl) (fun _ _ _ h => h) rfl (fun _ => OpY.index (kk := k - 1) Tsl_43 rfl rfl (by omega) (by omega) (by first | rfl | omega)) ?_
              refine DL.take (i := 9) (v := .int .i64 (ix (rot zs k m b) (k - 1))) rfl (by kernel_rfl) (by kernel_rfl) (by kernel_rfl) (by kernel_rfl) (fun _ _ _ h => h) (Some'.weak (.take (.nil _))) rfl (OpY.load1 Tone_3 rfl (Cells.own0 (.head _) (pre1 (by first | omega | (simp; omega))))) ?_
              refine DL.takeP (i := 10) (v := .slice (some ⟨g, 0, none⟩) n c) rfl (by kernel_rfl) (by kernel_rfl) (by kernel_rfl) (fun _ _ _ h => h) rfl (fun _ => OpY.pure rfl) ?_
              refine DL.takeP (i := 11) (v := .int .i64 (((k : Nat) : Int))) rfl (by kernel_rfl) (by kernel_rfl) (by kernel_rfl) (fun _ _ _ h => h) rfl (fun _ => OpY.pure rfl) ?_
              refine DL.takeP (i := 12) (v := .pointer (some ⟨g, k, none⟩)) rfl (by kernel_rfl) (by kernel_rfl) (by kernel_rfl) (fun _ _ _ h => h) rfl (fun _ => OpY.index (kk := k) Tsl_43 rfl rfl (by omega) (by omega) (by first | rfl | omega)) ?_
              refine DL.take (i := 13) (v := .int .i64 (ix (rot zs k m b) (k))) rfl (by kernel_rfl) (by kernel_rfl) (by kernel_rfl) (by kernel_rfl) (fun _ _ _ h => h) (Some'.weak (.take (.nil _))) rfl (OpY.load1 Tone_3 rfl (Cells.own0 (.head _) (pre1 (by first | omega | (simp; omega))))) ?_
              refine DL.takeP (i := 14) (v := .pointer (some ⟨g, k, none⟩)) rfl (by kernel_rfl) (by kernel_rfl) (by kernel_rfl) (fun _ _ _ h => h) rfl (fun _ => OpY.index (kk := k) Tsl_43 rfl rfl (by omega) (by omega) (by first | rfl | omega)) ?_
              refine DL.step (i := 15) (by kernel_rfl) (by kernel_rfl) rfl rfl (OpStep.storeOwnInt (o := k) (a := ix (rot zs k m b) (k - 1)) Tsize_3 rfl rfl (.here _) (by first | omega | (simp; omega)) ?_)
              refine DL.takeP (i := 16) (v := .pointer (some ⟨g, k - 1, none⟩)) rfl (by kernel_rfl) (by kernel_rfl) (by kernel_rfl) (fun _ _ _ h => h) rfl (fun _ => OpY.index (kk := k - 1) Tsl_43 rfl rfl (by omega) (by omega) (by first | rfl | omega)) ?_
              refine DL.step (i := 17) (by kernel_rfl) (by kernel_rfl) rfl rfl (OpStep.storeOwnInt (o := k - 1) (a := ix (rot zs k m b) (k)) Tsize_3 rfl rfl (.here _) (by first | omega | (simp; omega)) ?_)
              refine DL.done (by kernel_rfl) ?_
              refine Run.blockEnd ?_
              refine Run.region ?_
              refine Run.q (v := .int .i64 (((k : Nat) : Int))) rfl (OpQ.y (OpY.pure rfl)) ?_
              refine Run.q (v := .int .i64 (((k - 1 : Nat) : Int))) rfl (OpQ.y (OpY.sub rfl rfl (by omega) (by omega) (by omega))) ?_
              refine Run.q (v := .int .i64 (((k - 1 : Nat) : Int))) rfl (OpQ.y (OpY.pure rfl)) ?_
              refine Run.done ?_
              refine Run.goal ⟨(by repeat (first | exact Same.refl _ _ | refine Same.put rfl ?_ | refine Same.over rfl rfl ?_)), k - 1, ?_, ?_, ?_, ?_⟩
              · exact ⟨by omega, by omega⟩
              · omega
              · exact ⟨(by first | rfl | (congr 1; omega) | simp), trivial⟩
              · exact (Some'.weak (.takeEq (by first | (exact congrArg (fun z => Res.own _ _ _ _ (ints z))  hRk) | (exact congrArg (fun z => Res.own _ _ _ _ (ints z))  hR0.symm) | rfl) (.nil _)))
            · have p110 := h110; try simp only [decide_eq_true_eq, decide_eq_false_iff_not, beq_iff_eq, bne_iff_ne, beq_eq_false_iff_ne, ne_eq, gt_iff_lt, ge_iff_le, Int.not_lt, Int.not_le, bne_eq_false_iff_eq, Bool.not_eq_true', Bool.not_eq_false', Bool.and_eq_true, Bool.and_eq_false_iff, Bool.or_eq_true, Bool.or_eq_false_iff, Decidable.not_not, List.cons.injEq, and_true] at p110
              have hki : k = i := by omega
              refine Run.exit rfl ?_
              refine Run.ret ?_
              refine ⟨.tuple #[], [.own (.slice (some ⟨g, 0, none⟩) n c) 3 1 n (ints ((rot zs k m b)))], Out.none rfl, (Some'.weak (.takeEq (by first | rfl | simp) (.nil _))), ?_⟩
              refine ⟨_, ⟨?_, ?_⟩, rfl, rfl⟩
              · first | exact (by rw [hki]; exact (within_rot (zs := zs) (by omega) (by omega) (by omega)).mono (by omega) (by omega) (by omega))
              · first | (rw [hki]; exact hfin)
    · have p80 := h80; try simp only [decide_eq_true_eq, decide_eq_false_iff_not, beq_iff_eq, bne_iff_ne, beq_eq_false_iff_ne, ne_eq, gt_iff_lt, ge_iff_le, Int.not_lt, Int.not_le, bne_eq_false_iff_eq, Bool.not_eq_true', Bool.not_eq_false', Bool.and_eq_true, Bool.and_eq_false_iff, Bool.or_eq_true, Bool.or_eq_false_iff, Decidable.not_not, List.cons.injEq, and_true] at p80
      have hb2 : m + 2 ≤ b := by omega
      have hri := hr
      refine Run.skip ?_
      refine Run.seq ?_
      refine Run.region ?_
      refine Run.q (v := .int .i64 (((a : Nat) : Int))) rfl (OpQ.y (OpY.pure rfl)) ?_
      refine Run.q (v := .int .i64 (((b : Nat) : Int))) rfl (OpQ.y (OpY.pure rfl)) ?_
      refine Run.q (v := .int .i64 ((((a : Nat) : Int)) + (((b : Nat) : Int)))) rfl (OpQ.y (OpY.add rfl rfl rfl (by omega) (by omega))) ?_
      refine Run.q (v := .int .u64 (((a : Nat) : Int) + ((b : Nat) : Int))) rfl (OpQ.y (OpY.convIntEq Tsome_3 Tint_69 rfl (by first | (rw [IntKind.wrap_u64]; omega) | (rw [half_u _ _ (by omega)]; done) | (rw [half_u _ _ (by omega), hmid])))) ?_
      refine Run.q (v := .int .u64 ((((a : Nat) : Int) + ((b : Nat) : Int)) >>> (1 : Nat))) rfl (OpQ.y (OpY.shrU rfl rfl rfl (by decide))) ?_
      refine Run.q (v := .int .i64 (((mid : Nat) : Int))) rfl (OpQ.y (OpY.convIntEq Tsome_69 Tint_3 rfl (by first | (rw [IntKind.wrap_u64]; omega) | (rw [half_u _ _ (by omega)]; done) | (rw [half_u _ _ (by omega), hmid])))) ?_
      refine Run.q (v := .int .i64 (((mid : Nat) : Int))) rfl (OpQ.y (OpY.pure rfl)) ?_
      refine Run.done ?_
      refine Run.seq ?_
      refine Run.region ?_
      refine Run.q (v := .int .i64 (((mid : Nat) : Int))) rfl (OpQ.y (OpY.pure rfl)) ?_
      refine Run.q (v := .int .i64 (((m : Nat) : Int))) rfl (OpQ.y (OpY.pure rfl)) ?_
      refine Run.q (v := .int .i64 (((mid + m : Nat) : Int))) rfl (OpQ.y (OpY.add rfl rfl (by omega) (by omega) (by omega))) ?_
      refine Run.q (v := .int .i64 (((mid + m : Nat) : Int))) rfl (OpQ.y (OpY.pure rfl)) ?_
      refine Run.done ?_
      refine Run.seq ?_
      refine Run.region ?_
      refine Run.q (v := .int .i64 0) rfl (OpQ.y (OpY.pure rfl)) ?_
      refine Run.q (v := .int .i64 0) rfl (OpQ.y (OpY.pure rfl)) ?_
      refine Run.done ?_
      refine Run.seq ?_
      refine Run.seq ?_
      refine Run.region ?_
      refine Run.q (v := .int .i64 (((m : Nat) : Int))) rfl (OpQ.y (OpY.pure rfl)) ?_
      refine Run.q (v := .int .i64 (((mid : Nat) : Int))) rfl (OpQ.y (OpY.pure rfl)) ?_
      refine Run.q (v := .bool (decide ((((m : Nat) : Int)) > (((mid : Nat) : Int))))) rfl (OpQ.y (OpY.pure rfl)) ?_
      refine Run.done ?_
      refine Run.cut (ι := Nat × Nat) [20, 21, 141, 142, 143, 144, 145, 146] (fun ⟨s0, r0⟩ => [(20, .int .i64 (((s0 : Nat) : Int))), (21, .int .i64 (((r0 : Nat) : Int)))]) (fun ⟨s0, r0⟩ => [.own (.slice (some ⟨g, 0, none⟩) n c) 3 1 n (ints zs)]) (fun ⟨s0, r0⟩ => (m ≤ mid ∧ s0 = a ∧ r0 = m) ∨ (mid < m ∧ s0 = mid + m - b ∧ r0 = mid)) ?_ ?_
      · refine Run.cond (b := decide ((((m : Nat) : Int)) > (((mid : Nat) : Int)))) rfl (fun h140 => ?_) (fun h140 => ?_)
        · have p140 := h140; try simp only [decide_eq_true_eq, decide_eq_false_iff_not, beq_iff_eq, bne_iff_ne, beq_eq_false_iff_ne, ne_eq, gt_iff_lt, ge_iff_le, Int.not_lt, Int.not_le, bne_eq_false_iff_eq, Bool.not_eq_true', Bool.not_eq_false', Bool.and_eq_true, Bool.and_eq_false_iff, Bool.or_eq_true, Bool.or_eq_false_iff, Decidable.not_not, List.cons.injEq, and_true] at p140
          have hmm : mid < m := by omega
          refine Run.seq ?_
          refine Run.region ?_
          refine Run.q (v := .int .i64 (((mid + m : Nat) : Int))) rfl (OpQ.y (OpY.pure rfl)) ?_
          refine Run.q (v := .int .i64 (((b : Nat) : Int))) rfl (OpQ.y (OpY.pure rfl)) ?_
          refine Run.q (v := .int .i64 (((mid + m - b : Nat) : Int))) rfl (OpQ.y (OpY.sub rfl rfl (by omega) (by omega) (by omega))) ?_
          refine Run.q (v := .int .i64 (((mid + m - b : Nat) : Int))) rfl (OpQ.y (OpY.pure rfl)) ?_
          refine Run.done ?_
          refine Run.region ?_
          refine Run.q (v := .int .i64 (((mid : Nat) : Int))) rfl (OpQ.y (OpY.pure rfl)) ?_
          refine Run.q (v := .int .i64 (((mid : Nat) : Int))) rfl (OpQ.y (OpY.pure rfl)) ?_
          refine Run.done ?_
          refine Run.goal ⟨(by repeat (first | exact Same.refl _ _ | refine Same.put rfl ?_ | refine Same.over rfl rfl ?_)), (mid + m - b, mid), ?_, ?_, ?_⟩
          · first | exact .inl ⟨by omega, rfl, rfl⟩ | exact .inr ⟨by omega, rfl, rfl⟩
          · exact ⟨(by first | rfl | (congr 1; omega) | simp [*]), (by first | rfl | (congr 1; omega) | simp [*]), trivial⟩
          · exact (Some'.weak (.takeEq (by first | rfl | simp) (.nil _)))
        · have p140 := h140; try simp only [decide_eq_true_eq, decide_eq_false_iff_not, beq_iff_eq, bne_iff_ne, beq_eq_false_iff_ne, ne_eq, gt_iff_lt, ge_iff_le, Int.not_lt, Int.not_le, bne_eq_false_iff_eq, Bool.not_eq_true', Bool.not_eq_false', Bool.and_eq_true, Bool.and_eq_false_iff, Bool.or_eq_true, Bool.or_eq_false_iff, Decidable.not_not, List.cons.injEq, and_true] at p140
          have hmm : m ≤ mid := by omega
          refine Run.seq ?_
          refine Run.region ?_
          refine Run.q (v := .int .i64 (((a : Nat) : Int))) rfl (OpQ.y (OpY.pure rfl)) ?_
          refine Run.q (v := .int .i64 (((a : Nat) : Int))) rfl (OpQ.y (OpY.pure rfl)) ?_
          refine Run.done ?_
          refine Run.region ?_
          refine Run.q (v := .int .i64 (((m : Nat) : Int))) rfl (OpQ.y (OpY.pure rfl)) ?_
          refine Run.q (v := .int .i64 (((m : Nat) : Int))) rfl (OpQ.y (OpY.pure rfl)) ?_
          refine Run.done ?_
          refine Run.goal ⟨(by repeat (first | exact Same.refl _ _ | refine Same.put rfl ?_ | refine Same.over rfl rfl ?_)), (a, m), ?_, ?_, ?_⟩
          · first | exact .inl ⟨by omega, rfl, rfl⟩ | exact .inr ⟨by omega, rfl, rfl⟩
          · exact ⟨(by first | rfl | (congr 1; omega) | simp [*]), (by first | rfl | (congr 1; omega) | simp [*]), trivial⟩
          · exact (Some'.weak (.takeEq (by first | rfl | simp) (.nil _)))
      · rintro ⟨s0, r0⟩ fr hcut
        show Run _ _ (over _ _ [(20, .int .i64 (((s0 : Nat) : Int))), (21, .int .i64 (((r0 : Nat) : Int)))] fr) [.own (.slice (some ⟨g, 0, none⟩) n c) 3 1 n (ints zs)]
        dsimp only at hcut
        have hsr := hcut
        refine Run.seq ?_
        refine Run.region ?_
        refine Run.q (v := .int .i64 (((mid + m : Nat) : Int))) rfl (OpQ.y (OpY.pure rfl)) ?_
        refine Run.q (v := .int .i64 (((mid + m - 1 : Nat) : Int))) rfl (OpQ.y (OpY.sub rfl rfl (by omega) (by omega) (by omega))) ?_
        refine Run.q (v := .int .i64 (((mid + m - 1 : Nat) : Int))) rfl (OpQ.y (OpY.pure rfl)) ?_
        refine Run.done ?_
        refine Run.seq ?_
        refine Run.block ?_
        refine Run.loop (ι := Nat × Nat) [20, 21, 23, 149, 150, 151, 152, 153, 154, 155, 156, 157, 158, 159, 160, 161, 162, 163, 164, 165, 166, 167, 168, 169, 170, 171, 172, 173, 174] (fun ⟨s, r⟩ => [(20, .int .i64 (((s : Nat) : Int))), (21, .int .i64 (((r : Nat) : Int)))]) (fun ⟨s, r⟩ => [.own (.slice (some ⟨g, 0, none⟩) n c) 3 1 n (ints zs)]) (fun ⟨s, r⟩ => s0 ≤ s ∧ s ≤ r ∧ r ≤ r0 ∧ (s = a ∨ mid + m - s = b ∨ ¬ key (ix zs (mid + m - s)) < key (ix zs (s - 1))) ∧ (r = m ∨ mid + m - r = m ∨ key (ix zs (mid + m - r - 1)) < key (ix zs r))) (fun ⟨s, r⟩ => r - s) (s0, r0) ?_ ?_ ?_ ?_
        · exact ⟨Nat.le_refl _, by omega, Nat.le_refl _, by omega, by omega⟩
        · exact ⟨rfl, rfl, trivial⟩
        · exact (Some'.weak (.take (.nil _)))
        · rintro ⟨s, r⟩ fr hinv
          show Run _ _ (over _ _ [(20, .int .i64 (((s : Nat) : Int))), (21, .int .i64 (((r : Nat) : Int)))] fr) [.own (.slice (some ⟨g, 0, none⟩) n c) 3 1 n (ints zs)]
          try dsimp only at hinv
          refine Run.seq ?_
          refine Run.seq ?_
          refine Run.region ?_
          refine Run.q (v := .int .i64 (((s : Nat) : Int))) rfl (OpQ.y (OpY.pure rfl)) ?_
          refine Run.q (v := .int .i64 (((r : Nat) : Int))) rfl (OpQ.y (OpY.pure rfl)) ?_
          refine Run.q (v := .bool (decide ((((s : Nat) : Int)) < (((r : Nat) : Int))))) rfl (OpQ.y (OpY.pure rfl)) ?_
          refine Run.done ?_
          refine Run.cond (b := decide ((((s : Nat) : Int)) < (((r : Nat) : Int)))) rfl (fun h151 => ?_) (fun h151 => ?_)
          · have p151 := h151; try simp only [decide_eq_true_eq, decide_eq_false_iff_not, beq_iff_eq, bne_iff_ne, beq_eq_false_iff_ne, ne_eq, gt_iff_lt, ge_iff_le, Int.not_lt, Int.not_le, bne_eq_false_iff_eq, Bool.not_eq_true', Bool.not_eq_false', Bool.and_eq_true, Bool.and_eq_false_iff, Bool.or_eq_true, Bool.or_eq_false_iff, Decidable.not_not, List.cons.injEq, and_true] at p151
            have hij : s < r := by omega
            have hcl := hc.ltI hr (p := mid + m - 1 - (s + r) / 2) (q := (s + r) / 2) (by omega) (by omega)
            refine Run.skip ?_
            refine Run.block ?_
            refine Run.seq ?_
            refine Run.region ?_
            refine Run.q (v := .int .i64 (((s : Nat) : Int))) rfl (OpQ.y (OpY.pure rfl)) ?_
            refine Run.q (v := .int .i64 (((r : Nat) : Int))) rfl (OpQ.y (OpY.pure rfl)) ?_
            refine Run.q (v := .int .i64 ((((s : Nat) : Int)) + (((r : Nat) : Int)))) rfl (OpQ.y (OpY.add rfl rfl rfl (by omega) (by omega))) ?_
            refine Run.q (v := .int .u64 (((s : Nat) : Int) + ((r : Nat) : Int))) rfl (OpQ.y (OpY.convIntEq Tsome_3 Tint_69 rfl (by first | (rw [IntKind.wrap_u64]; omega) | (rw [half_u _ _ (by omega)]; done) | (rw [half_u _ _ (by omega), hmid])))) ?_
            refine Run.q (v := .int .u64 ((((s : Nat) : Int) + ((r : Nat) : Int)) >>> (1 : Nat))) rfl (OpQ.y (OpY.shrU rfl rfl rfl (by decide))) ?_
            refine Run.q (v := .int .i64 ((((s + r) / 2 : Nat) : Int))) rfl (OpQ.y (OpY.convIntEq Tsome_69 Tint_3 rfl (by first | (rw [IntKind.wrap_u64]; omega) | (rw [half_u _ _ (by omega)]; done) | (rw [half_u _ _ (by omega), hmid])))) ?_
            refine Run.q (v := .int .i64 ((((s + r) / 2 : Nat) : Int))) rfl (OpQ.y (OpY.pure rfl)) ?_
            refine Run.done ?_
            refine Run.seq ?_
            refine Run.draws (by kernel_rfl) (by kernel_rfl) ?_
            refine Lex.q (v := .func (.func 40) #[] #[cp]) rfl (OpQ.y (OpY.pure rfl)) ?_
            refine Lex.q (v := .slice (some ⟨g, 0, none⟩) n c) rfl (OpQ.y (OpY.pure rfl)) ?_
            refine Lex.q (v := .int .i64 (((mid + m - 1 : Nat) : Int))) rfl (OpQ.y (OpY.pure rfl)) ?_
            refine Lex.q (v := .int .i64 ((((s + r) / 2 : Nat) : Int))) rfl (OpQ.y (OpY.pure rfl)) ?_
            refine Lex.q (v := .int .i64 (((mid + m - 1 - (s + r) / 2 : Nat) : Int))) rfl (OpQ.y (OpY.sub rfl rfl (by omega) (by omega) (by omega))) ?_
            refine Lex.q (v := .pointer (some ⟨g, mid + m - 1 - (s + r) / 2, none⟩)) rfl (OpQ.y (OpY.index (kk := mid + m - 1 - (s + r) / 2) Tsl_43 rfl rfl (by omega) (by omega) (by first | rfl | omega))) ?_
            refine Lex.q (v := .int .i64 (ix zs (mid + m - 1 - (s + r) / 2))) rfl (OpQ.y (OpY.load1 Tone_3 rfl (Cells.own0 (.head _) (pre1 (by first | omega | (simp; omega)))))) ?_
            refine Lex.q (v := .slice (some ⟨g, 0, none⟩) n c) rfl (OpQ.y (OpY.pure rfl)) ?_
            refine Lex.q (v := .int .i64 ((((s + r) / 2 : Nat) : Int))) rfl (OpQ.y (OpY.pure rfl)) ?_
            refine Lex.q (v := .pointer (some ⟨g, (s + r) / 2, none⟩)) rfl (OpQ.y (OpY.index (kk := (s + r) / 2) Tsl_43 rfl rfl (by omega) (by omega) (by first | rfl | omega))) ?_
            refine Lex.q (v := .int .i64 (ix zs ((s + r) / 2))) rfl (OpQ.y (OpY.load1 Tone_3 rfl (Cells.own0 (.head _) (pre1 (by first | omega | (simp; omega)))))) ?_
            refine Lex.q (v := .int .i64 (cf (ix zs (mid + m - 1 - (s + r) / 2)) (ix zs ((s + r) / 2)))) rfl (OpQ.call (vs := [.int .i64 (ix zs (mid + m - 1 - (s + r) / 2)), .int .i64 (ix zs ((s + r) / 2)), cp]) (caps := [cp]) Tcall_40 rfl rfl (fun w hs => (hc.at hs hri (p := mid + m - 1 - (s + r) / 2) (q := (s + r) / 2) (by omega) (by omega)))) ?_
            refine Lex.q (v := .bool (decide ((cf (ix zs (mid + m - 1 - (s + r) / 2)) (ix zs ((s + r) / 2))) < 0))) rfl (OpQ.y (OpY.pure rfl)) ?_
            refine Lex.q (v := .bool (!(decide ((cf (ix zs (mid + m - 1 - (s + r) / 2)) (ix zs ((s + r) / 2))) < 0)))) rfl (OpQ.y (OpY.pure rfl)) ?_
            refine Lex.done ?_
            refine Run.cond (b := !(decide ((cf (ix zs (mid + m - 1 - (s + r) / 2)) (ix zs ((s + r) / 2))) < 0))) rfl (fun h171 => ?_) (fun h171 => ?_)
            · have p171 := h171; try simp only [decide_eq_true_eq, decide_eq_false_iff_not, beq_iff_eq, bne_iff_ne, beq_eq_false_iff_ne, ne_eq, gt_iff_lt, ge_iff_le, Int.not_lt, Int.not_le, bne_eq_false_iff_eq, Bool.not_eq_true', Bool.not_eq_false', Bool.and_eq_true, Bool.and_eq_false_iff, Bool.or_eq_true, Bool.or_eq_false_iff, Decidable.not_not, List.cons.injEq, and_true] at p171
              have hge : ¬ key (ix zs (mid + m - 1 - (s + r) / 2)) < key (ix zs ((s + r) / 2)) := fun h => by have := hcl.2 h; omega
              refine Run.region ?_
              refine Run.q (v := .int .i64 ((((s + r) / 2 : Nat) : Int))) rfl (OpQ.y (OpY.pure rfl)) ?_
              refine Run.q (v := .int .i64 ((((s + r) / 2 + 1 : Nat) : Int))) rfl (OpQ.y (OpY.add rfl rfl (by omega) (by omega) (by omega))) ?_
              refine Run.q (v := .int .i64 ((((s + r) / 2 + 1 : Nat) : Int))) rfl (OpQ.y (OpY.pure rfl)) ?_
              refine Run.done ?_
              refine Run.blockEnd ?_
              refine Run.goal ⟨(by repeat (first | exact Same.refl _ _ | refine Same.put rfl ?_ | refine Same.over rfl rfl ?_)), ((s + r) / 2 + 1, r), ?_, ?_, ?_, ?_⟩
              · first | exact ⟨by omega, by omega, by omega, .inr (.inr (by rw [show mid + m - ((s + r) / 2 + 1) = mid + m - 1 - (s + r) / 2 by omega, show (s + r) / 2 + 1 - 1 = (s + r) / 2 by omega]; exact hge)), hinv.2.2.2.2⟩ | exact ⟨by omega, by omega, by omega, hinv.2.2.2.1, .inr (.inr (by rw [show mid + m - (s + r) / 2 - 1 = mid + m - 1 - (s + r) / 2 by omega]; exact hlt))⟩
              · dsimp only; omega
              · exact ⟨(by first | rfl | (congr 1; omega) | simp), (by first | rfl | (congr 1; omega) | simp), trivial⟩
              · exact (Some'.weak (.takeEq (by first | rfl | simp) (.nil _)))
            · have p171 := h171; try simp only [decide_eq_true_eq, decide_eq_false_iff_not, beq_iff_eq, bne_iff_ne, beq_eq_false_iff_ne, ne_eq, gt_iff_lt, ge_iff_le, Int.not_lt, Int.not_le, bne_eq_false_iff_eq, Bool.not_eq_true', Bool.not_eq_false', Bool.and_eq_true, Bool.and_eq_false_iff, Bool.or_eq_true, Bool.or_eq_false_iff, Decidable.not_not, List.cons.injEq, and_true] at p171
              have hlt := hcl.1 (by omega)
              refine Run.region ?_
              refine Run.q (v := .int .i64 ((((s + r) / 2 : Nat) : Int))) rfl (OpQ.y (OpY.pure rfl)) ?_
              refine Run.q (v := .int .i64 ((((s + r) / 2 : Nat) : Int))) rfl (OpQ.y (OpY.pure rfl)) ?_
              refine Run.done ?_
              refine Run.blockEnd ?_
              refine Run.goal ⟨(by repeat (first | exact Same.refl _ _ | refine Same.put rfl ?_ | refine Same.over rfl rfl ?_)), (s, (s + r) / 2), ?_, ?_, ?_, ?_⟩
              · first | exact ⟨by omega, by omega, by omega, .inr (.inr (by rw [show mid + m - ((s + r) / 2 + 1) = mid + m - 1 - (s + r) / 2 by omega, show (s + r) / 2 + 1 - 1 = (s + r) / 2 by omega]; exact hge)), hinv.2.2.2.2⟩ | exact ⟨by omega, by omega, by omega, hinv.2.2.2.1, .inr (.inr (by rw [show mid + m - (s + r) / 2 - 1 = mid + m - 1 - (s + r) / 2 by omega]; exact hlt))⟩
              · dsimp only; omega
              · exact ⟨(by first | rfl | (congr 1; omega) | simp), (by first | rfl | (congr 1; omega) | simp), trivial⟩
              · exact (Some'.weak (.takeEq (by first | rfl | simp) (.nil _)))
          · have p151 := h151; try simp only [decide_eq_true_eq, decide_eq_false_iff_not, beq_iff_eq, bne_iff_ne, beq_eq_false_iff_ne, ne_eq, gt_iff_lt, ge_iff_le, Int.not_lt, Int.not_le, bne_eq_false_iff_eq, Bool.not_eq_true', Bool.not_eq_false', Bool.and_eq_true, Bool.and_eq_false_iff, Bool.or_eq_true, Bool.or_eq_false_iff, Decidable.not_not, List.cons.injEq, and_true] at p151
            have hij : s = r := by omega
            have hsp := sym_parts (s := s) (mid := mid) (by omega) (by omega) (by omega) h1 h2 hp (by omega) (by omega) (by omega) (by omega) hinv.2.2.2.1 (by have := hinv.2.2.2.2; rw [← hij] at this; exact this) (by omega)
            have hwr0 := within_rot (zs := zs) (a := s) (m := m) (b := mid + m - s) (by omega) (by omega) (by omega)
            have hwr := hwr0.mono (a' := a) (b' := b) (by omega) (by omega) (by omega)
            have hrr := hr.within hwr (by omega)
            refine Run.exit rfl ?_
            refine Run.seq ?_
            refine Run.region ?_
            refine Run.q (v := .int .i64 (((mid + m : Nat) : Int))) rfl (OpQ.y (OpY.pure rfl)) ?_
            refine Run.q (v := .int .i64 (((s : Nat) : Int))) rfl (OpQ.y (OpY.pure rfl)) ?_
            refine Run.q (v := .int .i64 (((mid + m - s : Nat) : Int))) rfl (OpQ.y (OpY.sub rfl rfl (by omega) (by omega) (by omega))) ?_
            refine Run.q (v := .int .i64 (((mid + m - s : Nat) : Int))) rfl (OpQ.y (OpY.pure rfl)) ?_
            refine Run.done ?_
            refine Run.seq ?_
            refine Run.seq ?_
            refine Run.cut (ι := Unit) [178, 179, 180, 181, 182, 183, 184, 185] (fun u0 => [(185, .bool (decide (s < m) && decide (m < mid + m - s)))]) (fun u0 => [.own (.slice (some ⟨g, 0, none⟩) n c) 3 1 n (ints zs)]) (fun u0 => True) ?_ ?_
            · refine Run.region ?_
              refine Run.q (v := .int .i64 (((s : Nat) : Int))) rfl (OpQ.y (OpY.pure rfl)) ?_
              refine Run.q (v := .int .i64 (((m : Nat) : Int))) rfl (OpQ.y (OpY.pure rfl)) ?_
              refine Run.q (v := .bool (decide ((((s : Nat) : Int)) < (((m : Nat) : Int))))) rfl (OpQ.y (OpY.pure rfl)) ?_
              rcases Bool.eq_false_or_eq_true (decide ((((s : Nat) : Int)) < (((m : Nat) : Int)))) with h181 | h181
              · refine Run.q (v := .bool true) rfl (OpQ.y (OpY.moveB rfl h181)) ?_
                have p181 := h181; try simp only [decide_eq_true_eq, decide_eq_false_iff_not, beq_iff_eq, bne_iff_ne, beq_eq_false_iff_ne, ne_eq, gt_iff_lt, ge_iff_le, Int.not_lt, Int.not_le, bne_eq_false_iff_eq, Bool.not_eq_true', Bool.not_eq_false', Bool.and_eq_true, Bool.and_eq_false_iff, Bool.or_eq_true, Bool.or_eq_false_iff, Decidable.not_not, List.cons.injEq, and_true] at p181
                refine Run.q (v := .int .i64 (((m : Nat) : Int))) rfl (OpQ.y (OpY.pure rfl)) ?_
                refine Run.q (v := .int .i64 (((mid + m - s : Nat) : Int))) rfl (OpQ.y (OpY.pure rfl)) ?_
                refine Run.q (v := .bool (decide ((((m : Nat) : Int)) < (((mid + m - s : Nat) : Int))))) rfl (OpQ.y (OpY.pure rfl)) ?_
                refine Run.q (v := .bool (decide ((((m : Nat) : Int)) < (((mid + m - s : Nat) : Int))))) rfl (OpQ.y (OpY.pure rfl)) ?_
                refine Run.done ?_
                refine Run.goal ⟨(by repeat (first | exact Same.refl _ _ | refine Same.put rfl ?_ | refine Same.over rfl rfl ?_)), (), ?_, ?_, ?_⟩
                · trivial
                · exact ⟨(by first | rfl | (show Value.bool _ = Value.bool _; congr 1; simp <;> omega) | (show Value.bool _ = Value.bool _; congr 1; simp_all <;> omega)), trivial⟩
                · exact (Some'.weak (.takeEq (by first | rfl | simp) (.nil _)))
              · refine Run.q (v := .bool false) rfl (OpQ.y (OpY.moveB rfl h181)) ?_
                have p181 := h181; try simp only [decide_eq_true_eq, decide_eq_false_iff_not, beq_iff_eq, bne_iff_ne, beq_eq_false_iff_ne, ne_eq, gt_iff_lt, ge_iff_le, Int.not_lt, Int.not_le, bne_eq_false_iff_eq, Bool.not_eq_true', Bool.not_eq_false', Bool.and_eq_true, Bool.and_eq_false_iff, Bool.or_eq_true, Bool.or_eq_false_iff, Decidable.not_not, List.cons.injEq, and_true] at p181
                refine Run.pass rfl ?_
                refine Run.pass rfl ?_
                refine Run.pass rfl ?_
                refine Run.q (v := .bool false) rfl (OpQ.y (OpY.pure rfl)) ?_
                refine Run.done ?_
                refine Run.goal ⟨(by repeat (first | exact Same.refl _ _ | refine Same.put rfl ?_ | refine Same.over rfl rfl ?_)), (), ?_, ?_, ?_⟩
                · trivial
                · exact ⟨(by first | rfl | (show Value.bool _ = Value.bool _; congr 1; simp <;> omega) | (show Value.bool _ = Value.bool _; congr 1; simp_all <;> omega)), trivial⟩
                · exact (Some'.weak (.takeEq (by first | rfl | simp) (.nil _)))
            · rintro u0 fr hcut
              show Run _ _ (over _ _ [(185, .bool (decide (s < m) && decide (m < mid + m - s)))] fr) [.own (.slice (some ⟨g, 0, none⟩) n c) 3 1 n (ints zs)]
              refine Run.cut (ι := Unit) [186, 187, 188, 189, 190, 191] (fun u0 => []) (fun u0 => [.own (.slice (some ⟨g, 0, none⟩) n c) 3 1 n (ints (rot zs s m (mid + m - s)))]) (fun u0 => True) ?_ ?_
              · refine Run.cond (b := decide (s < m) && decide (m < mid + m - s)) rfl (fun h185 => ?_) (fun h185 => ?_)
                · have p185 := h185; try simp only [decide_eq_true_eq, decide_eq_false_iff_not, beq_iff_eq, bne_iff_ne, beq_eq_false_iff_ne, ne_eq, gt_iff_lt, ge_iff_le, Int.not_lt, Int.not_le, bne_eq_false_iff_eq, Bool.not_eq_true', Bool.not_eq_false', Bool.and_eq_true, Bool.and_eq_false_iff, Bool.or_eq_true, Bool.or_eq_false_iff, Decidable.not_not, List.cons.injEq, and_true] at p185
                  have hsm : s < m ∧ m < mid + m - s := by first | omega | (simp at p185; omega)
                  refine Run.region ?_
                  refine Run.q (v := .slice (some ⟨g, 0, none⟩) n c) rfl (OpQ.y (OpY.pure rfl)) ?_
                  refine Run.q (v := .int .i64 (((s : Nat) : Int))) rfl (OpQ.y (OpY.pure rfl)) ?_
                  refine Run.q (v := .int .i64 (((m : Nat) : Int))) rfl (OpQ.y (OpY.pure rfl)) ?_
                  refine Run.q (v := .int .i64 (((mid + m - s : Nat) : Int))) rfl (OpQ.y (OpY.pure rfl)) ?_
                  refine Run.q (v := .func (.func 40) #[] #[cp]) rfl (OpQ.y (OpY.pure rfl)) ?_
                  refine Run.step rfl (OpStep.callM (H1 := [.own (.slice (some ⟨g, 0, none⟩) n c) 3 1 n (ints zs)]) (H2 := []) (vs := [.slice (some ⟨g, 0, none⟩) n c, .int .i64 (((s : Nat) : Int)), .int .i64 (((m : Nat) : Int)), .int .i64 (((mid + m - s : Nat) : Int)), .func (.func 40) #[] #[cp]]) (caps := []) Tcall_51 rfl rfl (Weak.refl _) (fun w hs => rot_spec hn hz (by omega) (by omega) (by omega) (hs.holds _ (.head _))) ?_)
                  rintro _ _ ⟨rfl, rfl⟩
                  show Run _ _ (putF _ _ _ (.tuple #[])) [.own (.slice (some ⟨g, 0, none⟩) n c) 3 1 n (ints (rot zs s m (mid + m - s)))]
                  refine Run.done ?_
                  refine Run.goal ⟨(by repeat (first | exact Same.refl _ _ | refine Same.put rfl ?_ | refine Same.over rfl rfl ?_)), (), ?_, ?_, ?_⟩
                  · trivial
                  · exact trivial
                  · exact (Some'.weak (.takeEq (by first | rfl | (exact congrArg (fun z => Res.own _ _ _ _ (ints z))  hrn.symm)) (.nil _)))
                · have p185 := h185; try simp only [decide_eq_true_eq, decide_eq_false_iff_not, beq_iff_eq, bne_iff_ne, beq_eq_false_iff_ne, ne_eq, gt_iff_lt, ge_iff_le, Int.not_lt, Int.not_le, bne_eq_false_iff_eq, Bool.not_eq_true', Bool.not_eq_false', Bool.and_eq_true, Bool.and_eq_false_iff, Bool.or_eq_true, Bool.or_eq_false_iff, Decidable.not_not, List.cons.injEq, and_true] at p185
                  have hrn : rot zs s m (mid + m - s) = zs := rot_nil (by omega) (by omega) (by omega) (by first | omega | (simp at p185; omega))
                  refine Run.skip ?_
                  refine Run.goal ⟨(by repeat (first | exact Same.refl _ _ | refine Same.put rfl ?_ | refine Same.over rfl rfl ?_)), (), ?_, ?_, ?_⟩
                  · trivial
                  · exact trivial
                  · exact (Some'.weak (.takeEq (by first | rfl | (exact congrArg (fun z => Res.own _ _ _ _ (ints z))  hrn.symm)) (.nil _)))
              · rintro u0 fr hcut
                show Run _ _ (over _ _ [] fr) [.own (.slice (some ⟨g, 0, none⟩) n c) 3 1 n (ints (rot zs s m (mid + m - s)))]
                refine Run.seq ?_
                refine Run.seq ?_
                refine Run.cut (ι := Unit) [192, 193, 194, 195, 196, 197, 198, 199] (fun u0 => [(199, .bool (decide (a < s) && decide (s < mid)))]) (fun u0 => [.own (.slice (some ⟨g, 0, none⟩) n c) 3 1 n (ints (rot zs s m (mid + m - s)))]) (fun u0 => True) ?_ ?_
                · refine Run.region ?_
                  refine Run.q (v := .int .i64 (((a : Nat) : Int))) rfl (OpQ.y (OpY.pure rfl)) ?_
                  refine Run.q (v := .int .i64 (((s : Nat) : Int))) rfl (OpQ.y (OpY.pure rfl)) ?_
                  refine Run.q (v := .bool (decide ((((a : Nat) : Int)) < (((s : Nat) : Int))))) rfl (OpQ.y (OpY.pure rfl)) ?_
                  rcases Bool.eq_false_or_eq_true (decide ((((a : Nat) : Int)) < (((s : Nat) : Int)))) with h195 | h195
                  · refine Run.q (v := .bool true) rfl (OpQ.y (OpY.moveB rfl h195)) ?_
                    have p195 := h195; try simp only [decide_eq_true_eq, decide_eq_false_iff_not, beq_iff_eq, bne_iff_ne, beq_eq_false_iff_ne, ne_eq, gt_iff_lt, ge_iff_le, Int.not_lt, Int.not_le, bne_eq_false_iff_eq, Bool.not_eq_true', Bool.not_eq_false', Bool.and_eq_true, Bool.and_eq_false_iff, Bool.or_eq_true, Bool.or_eq_false_iff, Decidable.not_not, List.cons.injEq, and_true] at p195
                    refine Run.q (v := .int .i64 (((s : Nat) : Int))) rfl (OpQ.y (OpY.pure rfl)) ?_
                    refine Run.q (v := .int .i64 (((mid : Nat) : Int))) rfl (OpQ.y (OpY.pure rfl)) ?_
                    refine Run.q (v := .bool (decide ((((s : Nat) : Int)) < (((mid : Nat) : Int))))) rfl (OpQ.y (OpY.pure rfl)) ?_
                    refine Run.q (v := .bool (decide ((((s : Nat) : Int)) < (((mid : Nat) : Int))))) rfl (OpQ.y (OpY.pure rfl)) ?_
                    refine Run.done ?_
                    refine Run.goal ⟨(by repeat (first | exact Same.refl _ _ | refine Same.put rfl ?_ | refine Same.over rfl rfl ?_)), (), ?_, ?_, ?_⟩
                    · trivial
                    · exact ⟨(by first | rfl | (show Value.bool _ = Value.bool _; congr 1; simp <;> omega) | (show Value.bool _ = Value.bool _; congr 1; simp_all <;> omega)), trivial⟩
                    · exact (Some'.weak (.takeEq (by first | rfl | simp) (.nil _)))
                  · refine Run.q (v := .bool false) rfl (OpQ.y (OpY.moveB rfl h195)) ?_
                    have p195 := h195; try simp only [decide_eq_true_eq, decide_eq_false_iff_not, beq_iff_eq, bne_iff_ne, beq_eq_false_iff_ne, ne_eq, gt_iff_lt, ge_iff_le, Int.not_lt, Int.not_le, bne_eq_false_iff_eq, Bool.not_eq_true', Bool.not_eq_false', Bool.and_eq_true, Bool.and_eq_false_iff, Bool.or_eq_true, Bool.or_eq_false_iff, Decidable.not_not, List.cons.injEq, and_true] at p195
                    refine Run.pass rfl ?_
                    refine Run.pass rfl ?_
                    refine Run.pass rfl ?_
                    refine Run.q (v := .bool false) rfl (OpQ.y (OpY.pure rfl)) ?_
                    refine Run.done ?_
                    refine Run.goal ⟨(by repeat (first | exact Same.refl _ _ | refine Same.put rfl ?_ | refine Same.over rfl rfl ?_)), (), ?_, ?_, ?_⟩
                    · trivial
                    · exact ⟨(by first | rfl | (show Value.bool _ = Value.bool _; congr 1; simp <;> omega) | (show Value.bool _ = Value.bool _; congr 1; simp_all <;> omega)), trivial⟩
                    · exact (Some'.weak (.takeEq (by first | rfl | simp) (.nil _)))
                · rintro u0 fr hcut
                  show Run _ _ (over _ _ [(199, .bool (decide (a < s) && decide (s < mid)))] fr) [.own (.slice (some ⟨g, 0, none⟩) n c) 3 1 n (ints (rot zs s m (mid + m - s)))]
                  refine Run.cut (ι := List Int) [200, 201, 202, 203, 204, 205] (fun zs1 => []) (fun zs1 => [.own (.slice (some ⟨g, 0, none⟩) n c) 3 1 n (ints zs1)]) (fun zs1 => Within (rot zs s m (mid + m - s)) zs1 a mid ∧ SrtT key zs1 a mid) ?_ ?_
                  · refine Run.cond (b := decide (a < s) && decide (s < mid)) rfl (fun h199 => ?_) (fun h199 => ?_)
                    · have p199 := h199; try simp only [decide_eq_true_eq, decide_eq_false_iff_not, beq_iff_eq, bne_iff_ne, beq_eq_false_iff_ne, ne_eq, gt_iff_lt, ge_iff_le, Int.not_lt, Int.not_le, bne_eq_false_iff_eq, Bool.not_eq_true', Bool.not_eq_false', Bool.and_eq_true, Bool.and_eq_false_iff, Bool.or_eq_true, Bool.or_eq_false_iff, Decidable.not_not, List.cons.injEq, and_true] at p199
                      have hsm : a < s ∧ s < mid := by first | omega | (simp at p199; omega)
                      have hp1 := hsp
                      refine Run.region ?_
                      refine Run.q (v := .slice (some ⟨g, 0, none⟩) n c) rfl (OpQ.y (OpY.pure rfl)) ?_
                      refine Run.q (v := .int .i64 (((a : Nat) : Int))) rfl (OpQ.y (OpY.pure rfl)) ?_
                      refine Run.q (v := .int .i64 (((s : Nat) : Int))) rfl (OpQ.y (OpY.pure rfl)) ?_
                      refine Run.q (v := .int .i64 (((mid : Nat) : Int))) rfl (OpQ.y (OpY.pure rfl)) ?_
                      refine Run.q (v := .func (.func 40) #[] #[cp]) rfl (OpQ.y (OpY.pure rfl)) ?_
                      refine Run.step rfl (OpStep.callM (H1 := [.own (.slice (some ⟨g, 0, none⟩) n c) 3 1 n (ints ((rot zs s m (mid + m - s))))]) (H2 := []) (vs := [.slice (some ⟨g, 0, none⟩) n c, .int .i64 (((a : Nat) : Int)), .int .i64 (((s : Nat) : Int)), .int .i64 (((mid : Nat) : Int)), .func (.func 40) #[] #[cp]]) (caps := []) Tcall_49 rfl rfl (Weak.refl _) (fun w hs => ih _ (by omega) rfl hn (hwr.1.trans hz) (by omega) (by omega) (by omega) (hc.next hs.toB) hrr hp1.1 hp1.2.1 hp1.2.2.2.2.1 (hs.holds _ (.head _))) ?_)
                      rintro _ _ ⟨yr, hyr, rfl, rfl⟩
                      show Run _ _ (putF _ _ _ (.tuple #[])) [.own (.slice (some ⟨g, 0, none⟩) n c) 3 1 n (ints yr)]
                      refine Run.done ?_
                      refine Run.goal ⟨(by repeat (first | exact Same.refl _ _ | refine Same.put rfl ?_ | refine Same.over rfl rfl ?_)), yr, ?_, ?_, ?_⟩
                      · first | exact hyr | exact ⟨Within.refl _ _ _, hsrt⟩
                      · exact trivial
                      · exact (Some'.weak (.takeEq (by first | rfl | simp) (.nil _)))
                    · have p199 := h199; try simp only [decide_eq_true_eq, decide_eq_false_iff_not, beq_iff_eq, bne_iff_ne, beq_eq_false_iff_ne, ne_eq, gt_iff_lt, ge_iff_le, Int.not_lt, Int.not_le, bne_eq_false_iff_eq, Bool.not_eq_true', Bool.not_eq_false', Bool.and_eq_true, Bool.and_eq_false_iff, Bool.or_eq_true, Bool.or_eq_false_iff, Decidable.not_not, List.cons.injEq, and_true] at p199
                      have hsm : s = a ∨ s = mid := by first | omega | (simp at p199; omega)
                      have hsrt : SrtT key (rot zs s m (mid + m - s)) a mid := by
                        rcases hsm with e | e
                        · have h := hsp.2.1; rw [e] at h ⊢; exact h
                        · have h := hsp.1; rw [e] at h ⊢; exact h
                      refine Run.skip ?_
                      refine Run.goal ⟨(by repeat (first | exact Same.refl _ _ | refine Same.put rfl ?_ | refine Same.over rfl rfl ?_)), (rot zs s m (mid + m - s)), ?_, ?_, ?_⟩
                      · first | exact hyr | exact ⟨Within.refl _ _ _, hsrt⟩
                      · exact trivial
                      · exact (Some'.weak (.takeEq (by first | rfl | simp) (.nil _)))
                  · rintro zs1 fr hcut
                    show Run _ _ (over _ _ [] fr) [.own (.slice (some ⟨g, 0, none⟩) n c) 3 1 n (ints zs1)]
                    have hw1 : Within zs zs1 a b := hwr.trans (hcut.1.mono (Nat.le_refl _) (by omega) (by rw [hwr.1]; omega))
                    have hr1 := hr.within hw1 (by omega)
                    have hk1 : ∀ i, mid ≤ i → i < b → ix zs1 i = ix (rot zs s m (mid + m - s)) i := fun i e1 e2 => hcut.1.2.1 i (by rw [hwr.1]; omega) (.inr e1)
                    have hp2 : SrtT key zs1 (mid + m - s) b ∧ SrtT key zs1 mid (mid + m - s) ∧ Par2 zs1 mid (mid + m - s) b := ⟨hsp.2.2.2.1.keep fun i e1 e2 => hk1 i (by omega) e2, hsp.2.2.1.keep fun i e1 e2 => hk1 i e1 (by omega), fun p q e1 e2 e3 e4 => by rw [hk1 p e1 (by omega), hk1 q (by omega) e4]; exact hsp.2.2.2.2.2.1 p q e1 e2 e3 e4⟩
                    have hcr := cross_keep hsp.2.2.2.2.2.2 hcut.1 (by rw [hwr.1]; omega)
                    have hc1 := hcut
                    refine Run.seq ?_
                    refine Run.cut (ι := Unit) [206, 207, 208, 209, 210, 211, 212, 213] (fun u0 => [(213, .bool (decide (mid < mid + m - s) && decide (mid + m - s < b)))]) (fun u0 => [.own (.slice (some ⟨g, 0, none⟩) n c) 3 1 n (ints zs1)]) (fun u0 => True) ?_ ?_
                    · refine Run.region ?_
                      refine Run.q (v := .int .i64 (((mid : Nat) : Int))) rfl (OpQ.y (OpY.pure rfl)) ?_
                      refine Run.q (v := .int .i64 (((mid + m - s : Nat) : Int))) rfl (OpQ.y (OpY.pure rfl)) ?_
                      refine Run.q (v := .bool (decide ((((mid : Nat) : Int)) < (((mid + m - s : Nat) : Int))))) rfl (OpQ.y (OpY.pure rfl)) ?_
                      rcases Bool.eq_false_or_eq_true (decide ((((mid : Nat) : Int)) < (((mid + m - s : Nat) : Int)))) with h209 | h209
                      · refine Run.q (v := .bool true) rfl (OpQ.y (OpY.moveB rfl h209)) ?_
                        have p209 := h209; try simp only [decide_eq_true_eq, decide_eq_false_iff_not, beq_iff_eq, bne_iff_ne, beq_eq_false_iff_ne, ne_eq, gt_iff_lt, ge_iff_le, Int.not_lt, Int.not_le, bne_eq_false_iff_eq, Bool.not_eq_true', Bool.not_eq_false', Bool.and_eq_true, Bool.and_eq_false_iff, Bool.or_eq_true, Bool.or_eq_false_iff, Decidable.not_not, List.cons.injEq, and_true] at p209
                        refine Run.q (v := .int .i64 (((mid + m - s : Nat) : Int))) rfl (OpQ.y (OpY.pure rfl)) ?_
                        refine Run.q (v := .int .i64 (((b : Nat) : Int))) rfl (OpQ.y (OpY.pure rfl)) ?_
                        refine Run.q (v := .bool (decide ((((mid + m - s : Nat) : Int)) < (((b : Nat) : Int))))) rfl (OpQ.y (OpY.pure rfl)) ?_
                        refine Run.q (v := .bool (decide ((((mid + m - s : Nat) : Int)) < (((b : Nat) : Int))))) rfl (OpQ.y (OpY.pure rfl)) ?_
                        refine Run.done ?_
                        refine Run.goal ⟨(by repeat (first | exact Same.refl _ _ | refine Same.put rfl ?_ | refine Same.over rfl rfl ?_)), (), ?_, ?_, ?_⟩
                        · trivial
                        · exact ⟨(by first | rfl | (show Value.bool _ = Value.bool _; congr 1; simp <;> omega) | (show Value.bool _ = Value.bool _; congr 1; simp_all <;> omega)), trivial⟩
                        · exact (Some'.weak (.takeEq (by first | rfl | simp) (.nil _)))
                      · refine Run.q (v := .bool false) rfl (OpQ.y (OpY.moveB rfl h209)) ?_
                        have p209 := h209; try simp only [decide_eq_true_eq, decide_eq_false_iff_not, beq_iff_eq, bne_iff_ne, beq_eq_false_iff_ne, ne_eq, gt_iff_lt, ge_iff_le, Int.not_lt, Int.not_le, bne_eq_false_iff_eq, Bool.not_eq_true', Bool.not_eq_false', Bool.and_eq_true, Bool.and_eq_false_iff, Bool.or_eq_true, Bool.or_eq_false_iff, Decidable.not_not, List.cons.injEq, and_true] at p209
                        refine Run.pass rfl ?_
                        refine Run.pass rfl ?_
                        refine Run.pass rfl ?_
                        refine Run.q (v := .bool false) rfl (OpQ.y (OpY.pure rfl)) ?_
                        refine Run.done ?_
                        refine Run.goal ⟨(by repeat (first | exact Same.refl _ _ | refine Same.put rfl ?_ | refine Same.over rfl rfl ?_)), (), ?_, ?_, ?_⟩
                        · trivial
                        · exact ⟨(by first | rfl | (show Value.bool _ = Value.bool _; congr 1; simp <;> omega) | (show Value.bool _ = Value.bool _; congr 1; simp_all <;> omega)), trivial⟩
                        · exact (Some'.weak (.takeEq (by first | rfl | simp) (.nil _)))
                    · rintro u0 fr hcut
                      show Run _ _ (over _ _ [(213, .bool (decide (mid < mid + m - s) && decide (mid + m - s < b)))] fr) [.own (.slice (some ⟨g, 0, none⟩) n c) 3 1 n (ints zs1)]
                      refine Run.cut (ι := List Int) [214, 215, 216, 217, 218, 219] (fun zs2 => []) (fun zs2 => [.own (.slice (some ⟨g, 0, none⟩) n c) 3 1 n (ints zs2)]) (fun zs2 => Within zs1 zs2 mid b ∧ SrtT key zs2 mid b) ?_ ?_
                      · refine Run.cond (b := decide (mid < mid + m - s) && decide (mid + m - s < b)) rfl (fun h213 => ?_) (fun h213 => ?_)
                        · have p213 := h213; try simp only [decide_eq_true_eq, decide_eq_false_iff_not, beq_iff_eq, bne_iff_ne, beq_eq_false_iff_ne, ne_eq, gt_iff_lt, ge_iff_le, Int.not_lt, Int.not_le, bne_eq_false_iff_eq, Bool.not_eq_true', Bool.not_eq_false', Bool.and_eq_true, Bool.and_eq_false_iff, Bool.or_eq_true, Bool.or_eq_false_iff, Decidable.not_not, List.cons.injEq, and_true] at p213
                          have hsm : mid < mid + m - s ∧ mid + m - s < b := by first | omega | (simp at p213; omega)
                          refine Run.region ?_
                          refine Run.q (v := .slice (some ⟨g, 0, none⟩) n c) rfl (OpQ.y (OpY.pure rfl)) ?_
                          refine Run.q (v := .int .i64 (((mid : Nat) : Int))) rfl (OpQ.y (OpY.pure rfl)) ?_
                          refine Run.q (v := .int .i64 (((mid + m - s : Nat) : Int))) rfl (OpQ.y (OpY.pure rfl)) ?_
                          refine Run.q (v := .int .i64 (((b : Nat) : Int))) rfl (OpQ.y (OpY.pure rfl)) ?_
                          refine Run.q (v := .func (.func 40) #[] #[cp]) rfl (OpQ.y (OpY.pure rfl)) ?_
                          refine Run.step rfl (OpStep.callM (H1 := [.own (.slice (some ⟨g, 0, none⟩) n c) 3 1 n (ints zs1)]) (H2 := []) (vs := [.slice (some ⟨g, 0, none⟩) n c, .int .i64 (((mid : Nat) : Int)), .int .i64 (((mid + m - s : Nat) : Int)), .int .i64 (((b : Nat) : Int)), .func (.func 40) #[] #[cp]]) (caps := []) Tcall_49 rfl rfl (Weak.refl _) (fun w hs => ih _ (by omega) rfl hn (hw1.1.trans hz) (by omega) (by omega) (by omega) (hc.next hs.toB) hr1 hp2.2.1 hp2.1 hp2.2.2 (hs.holds _ (.head _))) ?_)
                          rintro _ _ ⟨yr, hyr, rfl, rfl⟩
                          show Run _ _ (putF _ _ _ (.tuple #[])) [.own (.slice (some ⟨g, 0, none⟩) n c) 3 1 n (ints yr)]
                          refine Run.done ?_
                          refine Run.goal ⟨(by repeat (first | exact Same.refl _ _ | refine Same.put rfl ?_ | refine Same.over rfl rfl ?_)), yr, ?_, ?_, ?_⟩
                          · first | exact hyr | exact ⟨Within.refl _ _ _, hsrt⟩
                          · exact trivial
                          · exact (Some'.weak (.takeEq (by first | rfl | simp) (.nil _)))
                        · have p213 := h213; try simp only [decide_eq_true_eq, decide_eq_false_iff_not, beq_iff_eq, bne_iff_ne, beq_eq_false_iff_ne, ne_eq, gt_iff_lt, ge_iff_le, Int.not_lt, Int.not_le, bne_eq_false_iff_eq, Bool.not_eq_true', Bool.not_eq_false', Bool.and_eq_true, Bool.and_eq_false_iff, Bool.or_eq_true, Bool.or_eq_false_iff, Decidable.not_not, List.cons.injEq, and_true] at p213
                          have hsm : mid + m - s = mid ∨ mid + m - s = b := by first | omega | (simp at p213; omega)
                          have hsrt : SrtT key zs1 mid b := by
                            rcases hsm with e | e
                            · have h := hp2.1; rw [e] at h; exact h
                            · have h := hp2.2.1; rw [e] at h; exact h
                          refine Run.skip ?_
                          refine Run.goal ⟨(by repeat (first | exact Same.refl _ _ | refine Same.put rfl ?_ | refine Same.over rfl rfl ?_)), zs1, ?_, ?_, ?_⟩
                          · first | exact hyr | exact ⟨Within.refl _ _ _, hsrt⟩
                          · exact trivial
                          · exact (Some'.weak (.takeEq (by first | rfl | simp) (.nil _)))
                      · rintro zs2 fr hcut
                        show Run _ _ (over _ _ [] fr) [.own (.slice (some ⟨g, 0, none⟩) n c) 3 1 n (ints zs2)]
                        have hfin : Within zs zs2 a b ∧ SrtT key zs2 a b := ⟨hw1.trans (hcut.1.mono (by omega) (Nat.le_refl _) (by rw [hw1.1]; omega)), srt_join (hc1.2.keep fun i e1 e2 => hcut.1.2.1 i (by rw [hw1.1]; omega) (.inl e2)) hcut.2 (cross_keep' hcr hcut.1 (by rw [hw1.1]; omega))⟩
                        refine Run.fin ?_
                        refine ⟨.tuple #[], [.own (.slice (some ⟨g, 0, none⟩) n c) 3 1 n (ints zs2)], Out.none rfl, (Some'.weak (.take (.nil _))), ?_⟩
                        exact ⟨_, hfin, rfl, rfl⟩

theorem sym_spec (d : Nat) : SymStmt d := by
  induction d using Nat.strongRecOn with
  | _ d ih =>
    unfold SymStmt
    intro g n c a m b cf key cp zs w hd hn hz ham hmb hb hc hr h1 h2 hp h
    exact sym_step d ih hd hn hz ham hmb hb hc hr h1 h2 hp h

end Go.Proofs.Ytbepibalnnbmgaa
