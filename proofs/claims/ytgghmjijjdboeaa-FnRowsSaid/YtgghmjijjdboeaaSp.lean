/- Walks: shortest paths in a coupling graph. -/
import Derived.Test.YtgghmjijjdboeaaDs
import Derived.Test.YtgghmjijjdboeaaProg
set_option linter.unusedSimpArgs false
set_option linter.unusedVariables false
namespace Go.Proofs.Ytgghmjijjdboeaa
open Go Go.RowKit
namespace SpT
theorem Tagg_25 : aggOf Try.prog 25 = some 2 := by kernel_rfl
theorem Tcall_14 : callable Try.prog 14 = true := by kernel_rfl
theorem Tcall_36 : callable Try.prog 36 = true := by kernel_rfl
theorem Tcall_39 : callable Try.prog 39 = true := by kernel_rfl
theorem Tcall_41 : callable Try.prog 41 = true := by kernel_rfl
theorem Tcall_42 : callable Try.prog 42 = true := by kernel_rfl
theorem Tcall_48 : callable Try.prog 48 = true := by kernel_rfl
theorem Tcall_49 : callable Try.prog 49 = true := by kernel_rfl
theorem Tcall_50 : callable Try.prog 50 = true := by kernel_rfl
theorem Tcall_53 : callable Try.prog 53 = true := by kernel_rfl
theorem Tcall_73 : callable Try.prog 73 = true := by kernel_rfl
theorem Tfo_25_0 : fieldOff Try.prog 25 0 = some 0 := by kernel_rfl
theorem Tone_3 : oneOf Try.prog 3 = true := by kernel_rfl
theorem Tsl_34 : sliceOf Try.prog 34 = some (3, 1, 8, [.int .i64 0]) := by kernel_rfl
end SpT
open SpT

/-- The neighbours that are one step nearer; the first of them. -/
def nxtP (M : Nat) (xs : List Int) (n : Nat) (o : List Int) (a : Int) (i : Nat) : Bool := decide (ix o (ix (nbL (M : Int) xs n a) i).toNat = ix o a.toNat - 1)
def nxt (M : Nat) (xs : List Int) (n : Nat) (o : List Int) (a : Int) : Int := ix (nbL (M : Int) xs n a) (findI (nxtP M xs n o a) (nbL (M : Int) xs n a).length).toNat
def pathL (M : Nat) (xs : List Int) (n : Nat) (o : List Int) : Nat → Int → List Int
  | 0, a => [a]
  | d + 1, a => a :: pathL M xs n o d (nxt M xs n o a)
def negA (o : List Int) (k : Nat) : Bool := decide (ix o k < 0)
def spL (M : Nat) (xs : List Int) (n : Nat) (o : List Int) (a : Int) : List Int := if ix o a.toNat < 0 then [] else pathL M xs n o (ix o a.toNat).toNat a
theorem pathL_length (M : Nat) (xs : List Int) (n : Nat) (o : List Int) : ∀ d a, (pathL M xs n o d a).length = d + 1
  | 0, _ => rfl
  | d + 1, a => by rw [pathL, List.length_cons, pathL_length M xs n o d]
theorem pathL_tail (M : Nat) (xs : List Int) (n : Nat) (o : List Int) (d : Nat) (a : Int) : pathL M xs n o d a = a :: (pathL M xs n o d a).tail := by
  cases d <;> rfl
theorem nxt_hit {M : Nat} {xs : List Int} {n : Nat} {o : List Int} {a : Int} {m : Nat} (h : ∀ i, i < m → nxtP M xs n o a i = false) (hm : m < (nbL (M : Int) xs n a).length) (hp : nxtP M xs n o a m = true) : nxt M xs n o a = ix (nbL (M : Int) xs n a) m := by
  rw [nxt, findI_hit h hp hm, Int.toNat_natCast]
/-- A node at a positive distance has a neighbour that is one step nearer. -/
theorem nearer {M : Nat} {xs : List Int} {n : Nat} {o : List Int} {s : Nat} (hd : IsDist (adjN xs n) M s o) {a : Int} (h0 : 0 ≤ a) (hM : a < M) (hx : 0 ≤ ix o a.toNat) (hne : a ≠ (s : Int)) :
    0 < ix o a.toNat ∧ ∃ i, i < (nbL (M : Int) xs n a).length ∧ nxtP M xs n o a i = true := by
  rcases hd.par a.toNat (by omega) hx with e | ⟨u, hu, hA, h1, h2⟩
  · exfalso; omega
  · refine ⟨by omega, ?_⟩
    have hA' : adj xs n a (u : Int) = true := by
      rw [adjN, Int.toNat_of_nonneg h0] at hA
      rw [adj_comm]; exact hA
    obtain ⟨i, hi, e⟩ := nb_mem hu hA'
    refine ⟨i, hi, ?_⟩
    rw [nxtP, e, Int.toNat_natCast, decide_eq_true_eq]
    omega
theorem path_go {M : Nat} {xs : List Int} {n : Nat} {o : List Int} {x y : Int} {l P : List Int} (hp : l ++ (pathL M xs n o (ix o x.toNat).toNat x).tail = P) (hpos : 0 < ix o x.toNat) (hy : nxt M xs n o x = y) (hd : ix o y.toNat = ix o x.toNat - 1) :
    (l ++ [y]) ++ (pathL M xs n o (ix o y.toNat).toNat y).tail = P := by
  obtain ⟨d, hd1⟩ : ∃ d, (ix o x.toNat).toNat = d + 1 := ⟨(ix o x.toNat).toNat - 1, by omega⟩
  have hd2 : (ix o y.toNat).toNat = d := by omega
  rw [hd1] at hp
  rw [hd2, List.append_assoc, ← hp, pathL, hy]
  simp only [List.tail_cons]
  rw [List.singleton_append, ← pathL_tail]

set_option maxHeartbeats 1000000 in
set_option maxRecDepth 20000 in
theorem path_spec {N a b : Int} {va : Value} {n : Nat} {xs : List Int} {w : World} (hN : 1 ≤ N ∧ N ≤ 8) (hna : 0 ≤ a ∧ a < N) (hnb : 0 ≤ b ∧ b < N) (he : edgesOk N xs n = true) (ha : Sl w va 2 n (ints xs)) : Calls Try.prog 48 #[.agg #[.int .i64 N, va], .int .i64 a, .int .i64 b] w (Post No w fun v H => isNilSl v = negA (distL xs n N.toNat b.toNat) a.toNat ∧ (spL N.toNat xs n (distL xs n N.toNat b.toNat) a).length ≤ 8 ∧ H = [.own v 3 1 (spL N.toNat xs n (distL xs n N.toNat b.toNat) a).length (ints (spL N.toNat xs n (distL xs n N.toNat b.toNat) a))]) := by
  obtain ⟨M, rfl⟩ : ∃ M : Nat, N = M := ⟨N.toNat, by omega⟩
  obtain ⟨s, rfl⟩ : ∃ s : Nat, b = s := ⟨b.toNat, by omega⟩
  simp only [Int.toNat_natCast]
  generalize ho : distL xs n M s = o
  refine enter (n := 49) (args := [.agg #[.int .i64 (((M : Nat) : Int)), va], .int .i64 a, .int .i64 (((s : Nat) : Int))]) Try.func48 rfl rfl (St.empty _ _) ?_
  refine Run.seq ?_
  refine Run.region ?_
  refine Run.step rfl (OpStep.box (us := [.int .i64 (((M : Nat) : Int)), va]) rfl fun b1 => ?_)
  refine Run.q (v := .slice none 0 0) rfl (OpQ.y (OpY.pure rfl)) ?_
  refine Run.done ?_
  refine Run.seq ?_
  refine Run.region ?_
  refine Run.q (v := .agg #[.int .i64 (((M : Nat) : Int)), va]) rfl (OpQ.y (OpY.loadN (cs := [.int .i64 (((M : Nat) : Int)), va]) Tagg_25 rfl (Cells.blk (.head _) ⟨rfl, rfl, trivial⟩))) ?_
  refine Run.q (v := .int .i64 (((s : Nat) : Int))) rfl (OpQ.y (OpY.pure rfl)) ?_
  refine Run.step rfl (OpStep.call (vs := [.agg #[.int .i64 (((M : Nat) : Int)), va], .int .i64 (((s : Nat) : Int))]) (caps := []) Tcall_42 rfl rfl (fun w hs => (by have h := distances_spec hN hnb he (hs.sl ha); simp only [Int.toNat_natCast] at h; rw [ho] at h; exact h)) ?_)
  rintro uo _ ⟨hd, rfl⟩
  show Run _ _ (putF _ _ _ uo) [.own uo 3 1 M (ints o), .blk b1 25 [.int .i64 (((M : Nat) : Int)), va]]
  refine Run.q (v := uo) rfl (OpQ.y (OpY.pure rfl)) ?_
  refine Run.done ?_
  refine Run.seq ?_
  refine Run.seq ?_
  refine Run.openOwn (.head _) (by omega) (fun go cgo hvgo hcapgo _ => ?_) (fun _ _ _ => ⟨nofun, nofun, nofun⟩)
  subst hvgo
  have hol := hd.len
  refine Run.region ?_
  refine Run.q (v := .slice (some ⟨go, 0, none⟩) M cgo) rfl (OpQ.y (OpY.pure rfl)) ?_
  refine Run.q (v := .int .i64 a) rfl (OpQ.y (OpY.pure rfl)) ?_
  refine Run.q (v := .pointer (some ⟨go, a.toNat, none⟩)) rfl (OpQ.y (OpY.index (kk := a.toNat) Tsl_34 rfl rfl (by omega) (by omega) (by first | rfl | omega))) ?_
  refine Run.q (v := .int .i64 (ix o (a.toNat))) rfl (OpQ.y (OpY.load1 Tone_3 rfl (Cells.own0 (.head _) (pre1 (by omega))))) ?_
  refine Run.q (v := .bool (decide ((ix o (a.toNat)) < 0))) rfl (OpQ.y (OpY.pure rfl)) ?_
  refine Run.done ?_
  refine Run.cond (b := decide ((ix o (a.toNat)) < 0)) rfl (fun h18 => ?_) (fun h18 => ?_)
  · have p18 := h18; try simp only [decide_eq_true_eq, decide_eq_false_iff_not, beq_iff_eq, bne_iff_ne, beq_eq_false_iff_ne, ne_eq, gt_iff_lt, ge_iff_le, Int.not_lt, Int.not_le, bne_eq_false_iff_eq, Bool.not_eq_true', Bool.not_eq_false', Bool.and_eq_true, Bool.and_eq_false_iff, Bool.or_eq_true, Bool.or_eq_false_iff, Decidable.not_not, List.cons.injEq, and_true] at p18
    have hsp : spL M xs n o a = [] := by rw [spL, if_pos p18]
    refine Run.seq ?_
    refine Run.region ?_
    refine Run.q (v := .slice none 0 0) rfl (OpQ.y (OpY.pure rfl)) ?_
    refine Run.done ?_
    refine Run.ret ?_
    refine ⟨.slice none 0 0, [.own (.slice none 0 0) 3 1 ((spL M xs n o a).length) (ints (spL M xs n o a))], Out.one rfl rfl, ((Weak.nilOwn 3 1).trans (Some'.weak (.takeEq (by first | rfl | rw [hlP] | (rw [hsp]; rfl)) (.nil _)))), ?_⟩
    exact ⟨by rw [negA, decide_eq_true p18]; rfl, by rw [hsp]; simp, rfl⟩
  · have p18 := h18; try simp only [decide_eq_true_eq, decide_eq_false_iff_not, beq_iff_eq, bne_iff_ne, beq_eq_false_iff_ne, ne_eq, gt_iff_lt, ge_iff_le, Int.not_lt, Int.not_le, bne_eq_false_iff_eq, Bool.not_eq_true', Bool.not_eq_false', Bool.and_eq_true, Bool.and_eq_false_iff, Bool.or_eq_true, Bool.or_eq_false_iff, Decidable.not_not, List.cons.injEq, and_true] at p18
    have hsp : spL M xs n o a = pathL M xs n o (ix o a.toNat).toNat a := by rw [spL, if_neg (by omega)]
    have hlv := level_lt (by omega) hd.src hd.par (v := a.toNat) (by omega)
    refine Run.skip ?_
    refine Run.seq ?_
    refine Run.region ?_
    refine Run.q (v := .int .i64 a) rfl (OpQ.y (OpY.pure rfl)) ?_
    refine Run.step rfl (OpStep.buildSlice (us := [.int .i64 a]) Tsl_34 (by decide) (by decide) ⟨rfl, [.int .i64 a], _, rfl, rfl, rfl, rfl⟩ rfl fun b2 => ?_)
    refine Run.q (v := .slice (some ⟨b2, 0, none⟩) 1 1) rfl (OpQ.y (OpY.pure rfl)) ?_
    refine Run.done ?_
    refine Run.seq ?_
    refine Run.block ?_
    refine Run.loop (ι := Int × Value × List Int) [1, 8, 10, 21, 22, 23, 24, 25, 26, 27, 28, 29, 30, 31, 32, 33, 34, 35, 36, 37, 38, 39, 40, 41, 42, 43, 44, 45, 46, 47] (fun ⟨x, v, l⟩ => [(1, .int .i64 x), (8, v)]) (fun ⟨x, v, l⟩ => [.own v 3 1 (l.length) (ints l), .own (.slice (some ⟨go, 0, none⟩) M cgo) 3 1 M (ints o), .blk b1 25 [.int .i64 (((M : Nat) : Int)), va]]) (fun ⟨x, v, l⟩ => 0 ≤ x ∧ x < M ∧ 0 ≤ ix o x.toNat ∧ l ++ (pathL M xs n o (ix o x.toNat).toNat x).tail = pathL M xs n o (ix o a.toNat).toNat a ∧ l.length + (ix o x.toNat).toNat ≤ M) (fun ⟨x, v, l⟩ => (ix o x.toNat).toNat) (a, .slice (some ⟨b2, 0, none⟩) 1 1, [a]) ?_ ?_ ?_ ?_
    · exact ⟨hna.1, hna.2, by omega, (pathL_tail M xs n o _ a).symm, by simp only [List.length_cons, List.length_nil]; omega⟩
    · exact ⟨rfl, rfl, trivial⟩
    · exact (Some'.weak (.takeEq (by first | rfl | simp) (.take (.take (.nil _)))))
    · rintro ⟨x, v, l⟩ fr hinv
      show Run _ _ (over _ _ [(1, .int .i64 x), (8, v)] fr) [.own v 3 1 (l.length) (ints l), .own (.slice (some ⟨go, 0, none⟩) M cgo) 3 1 M (ints o), .blk b1 25 [.int .i64 (((M : Nat) : Int)), va]]
      try dsimp only at hinv
      refine Run.seq ?_
      refine Run.seq ?_
      refine Run.region ?_
      refine Run.q (v := .int .i64 x) rfl (OpQ.y (OpY.pure rfl)) ?_
      refine Run.q (v := .int .i64 (((s : Nat) : Int))) rfl (OpQ.y (OpY.pure rfl)) ?_
      refine Run.q (v := .bool (x != (((s : Nat) : Int)))) rfl (OpQ.y (OpY.pure rfl)) ?_
      refine Run.done ?_
      refine Run.cond (b := x != (((s : Nat) : Int))) rfl (fun h23 => ?_) (fun h23 => ?_)
      · have p23 := h23; try simp only [decide_eq_true_eq, decide_eq_false_iff_not, beq_iff_eq, bne_iff_ne, beq_eq_false_iff_ne, ne_eq, gt_iff_lt, ge_iff_le, Int.not_lt, Int.not_le, bne_eq_false_iff_eq, Bool.not_eq_true', Bool.not_eq_false', Bool.and_eq_true, Bool.and_eq_false_iff, Bool.or_eq_true, Bool.or_eq_false_iff, Decidable.not_not, List.cons.injEq, and_true] at p23
        obtain ⟨hx0, hxM, hxo, hP, hll⟩ := hinv
        have hne := nearer hd hx0 hxM hxo p23
        refine Run.skip ?_
        refine Run.block ?_
        refine Run.seq ?_
        refine Run.seq ?_
        refine Run.region ?_
        refine Run.q (v := .agg #[.int .i64 (((M : Nat) : Int)), va]) rfl (OpQ.y (OpY.loadN (cs := [.int .i64 (((M : Nat) : Int)), va]) Tagg_25 rfl (Cells.blk (.tail _ (.tail _ (List.Mem.head _))) ⟨rfl, rfl, trivial⟩))) ?_
        refine Run.q (v := .int .i64 x) rfl (OpQ.y (OpY.pure rfl)) ?_
        refine Run.step rfl (OpStep.call (vs := [.agg #[.int .i64 (((M : Nat) : Int)), va], .int .i64 x]) (caps := []) Tcall_53 rfl rfl (fun w hs => near_spec hN he (hs.sl ha)) ?_)
        rintro nb _ rfl
        show Run _ _ (putF _ _ _ nb) [.own nb 3 1 ((nbL ((M : Nat) : Int) xs n x).length) (ints (nbL ((M : Nat) : Int) xs n x)), .own v 3 1 (l.length) (ints l), .own (.slice (some ⟨go, 0, none⟩) M cgo) 3 1 M (ints o), .blk b1 25 [.int .i64 (((M : Nat) : Int)), va]]
        refine Run.formOwn (.head _) (fun A_nb1 c_nb1 hv hcapc_nb1 hmaxc_nb1 => ?_) (fun _ _ _ => ⟨nofun, nofun, nofun⟩)
        subst hv
        refine Run.q (v := .int .i64 ((((nbL ((M : Nat) : Int) xs n x).length : Nat) : Int))) rfl (OpQ.y (OpY.len Tsl_34 rfl)) ?_
        refine Run.q (v := .int .i64 0) rfl (OpQ.y (OpY.pure rfl)) ?_
        refine Run.done ?_
        refine Run.block ?_
        refine Run.loop (ι := Nat) [1, 10, 28, 29, 30, 31, 32, 33, 34, 35, 36, 37, 38, 39, 40, 41, 42, 43] (fun m => [(1, .int .i64 x), (28, .int .i64 (((m : Nat) : Int)))]) (fun m => [.own (.slice A_nb1 ((nbL ((M : Nat) : Int) xs n x).length) c_nb1) 3 1 ((nbL ((M : Nat) : Int) xs n x).length) (ints (nbL ((M : Nat) : Int) xs n x)), .own v 3 1 (l.length) (ints l), .own (.slice (some ⟨go, 0, none⟩) M cgo) 3 1 M (ints o), .blk b1 25 [.int .i64 (((M : Nat) : Int)), va]]) (fun m => m ≤ (nbL ((M : Nat) : Int) xs n x).length ∧ ∀ i, i < m → nxtP M xs n o x i = false) (fun m => (nbL ((M : Nat) : Int) xs n x).length - m) 0 ?_ ?_ ?_ ?_
        · exact ⟨Nat.zero_le _, fun i hi => absurd hi (by omega)⟩
        · exact ⟨rfl, rfl, trivial⟩
        · exact (Some'.weak (.take (.take (.take (.take (.nil _))))))
        · rintro m fr hinv
          show Run _ _ (over _ _ [(1, .int .i64 x), (28, .int .i64 (((m : Nat) : Int)))] fr) [.own (.slice A_nb1 ((nbL ((M : Nat) : Int) xs n x).length) c_nb1) 3 1 ((nbL ((M : Nat) : Int) xs n x).length) (ints (nbL ((M : Nat) : Int) xs n x)), .own v 3 1 (l.length) (ints l), .own (.slice (some ⟨go, 0, none⟩) M cgo) 3 1 M (ints o), .blk b1 25 [.int .i64 (((M : Nat) : Int)), va]]
          try dsimp only at hinv
          refine Run.seq ?_
          refine Run.region ?_
          refine Run.q (v := .bool (decide ((((m : Nat) : Int)) < ((((nbL ((M : Nat) : Int) xs n x).length : Nat) : Int))))) rfl (OpQ.y (OpY.pure rfl)) ?_
          refine Run.done ?_
          refine Run.seq ?_
          refine Run.cond (b := decide ((((m : Nat) : Int)) < ((((nbL ((M : Nat) : Int) xs n x).length : Nat) : Int)))) rfl (fun h29 => ?_) (fun h29 => ?_)
          · have p29 := h29; try simp only [decide_eq_true_eq, decide_eq_false_iff_not, beq_iff_eq, bne_iff_ne, beq_eq_false_iff_ne, ne_eq, gt_iff_lt, ge_iff_le, Int.not_lt, Int.not_le, bne_eq_false_iff_eq, Bool.not_eq_true', Bool.not_eq_false', Bool.and_eq_true, Bool.and_eq_false_iff, Bool.or_eq_true, Bool.or_eq_false_iff, Decidable.not_not, List.cons.injEq, and_true] at p29
            have hltm : m < (nbL ((M : Nat) : Int) xs n x).length := by omega
            have hk := nb_get hltm
            have hnl : (nbL ((M : Nat) : Int) xs n x).length ≤ 8 := by have := filterL_le (fun k => adj xs n x k) ((M : Nat) : Int).toNat; simp only [nbL]; omega
            refine Run.openOwn (.head _) (by omega) (fun gn cgn hvgn hcapgn _ => ?_) (fun _ _ _ => ⟨nofun, nofun, nofun⟩)
            injection hvgn with hAgn _ hcgn; subst hAgn; subst hcgn
            refine Run.skip ?_
            refine Run.seq ?_
            refine Run.block ?_
            refine Run.seq ?_
            refine Run.region ?_
            refine Run.q (v := .pointer (some ⟨gn, m, none⟩)) rfl (OpQ.y (OpY.index (kk := m) Tsl_34 rfl rfl (by omega) (by omega) (by first | rfl | omega))) ?_
            refine Run.q (v := .int .i64 (ix (nbL ((M : Nat) : Int) xs n x) (m))) rfl (OpQ.y (OpY.load1 Tone_3 rfl (Cells.own0 (.head _) (pre1 (by omega))))) ?_
            refine Run.q (v := .int .i64 (ix (nbL ((M : Nat) : Int) xs n x) (m))) rfl (OpQ.y (OpY.pure rfl)) ?_
            refine Run.done ?_
            refine Run.seq ?_
            refine Run.draws (by kernel_rfl) (by kernel_rfl) ?_
            refine Lex.q (v := .slice (some ⟨go, 0, none⟩) M cgo) rfl (OpQ.y (OpY.pure rfl)) ?_
            refine Lex.q (v := .int .i64 (ix (nbL ((M : Nat) : Int) xs n x) (m))) rfl (OpQ.y (OpY.pure rfl)) ?_
            refine Lex.q (v := .pointer (some ⟨go, (ix (nbL ((M : Nat) : Int) xs n x) (m)).toNat, none⟩)) rfl (OpQ.y (OpY.index (kk := (ix (nbL ((M : Nat) : Int) xs n x) (m)).toNat) Tsl_34 rfl rfl (by omega) (by omega) (by first | rfl | omega))) ?_
            refine Lex.q (v := .int .i64 (ix o ((ix (nbL ((M : Nat) : Int) xs n x) (m)).toNat))) rfl (OpQ.y (OpY.load1 Tone_3 rfl (Cells.own0 (.tail _ (.tail _ (List.Mem.head _))) (pre1 (by omega))))) ?_
            refine Lex.q (v := .slice (some ⟨go, 0, none⟩) M cgo) rfl (OpQ.y (OpY.pure rfl)) ?_
            refine Lex.q (v := .int .i64 x) rfl (OpQ.y (OpY.pure rfl)) ?_
            refine Lex.q (v := .pointer (some ⟨go, x.toNat, none⟩)) rfl (OpQ.y (OpY.index (kk := x.toNat) Tsl_34 rfl rfl (by omega) (by omega) (by first | rfl | omega))) ?_
            refine Lex.q (v := .int .i64 (ix o (x.toNat))) rfl (OpQ.y (OpY.load1 Tone_3 rfl (Cells.own0 (.tail _ (.tail _ (List.Mem.head _))) (pre1 (by omega))))) ?_
            refine Lex.q (v := .int .i64 ((ix o (x.toNat)) - 1)) rfl (OpQ.y (OpY.sub rfl rfl rfl (by omega) (by omega))) ?_
            refine Lex.q (v := .bool ((ix o ((ix (nbL ((M : Nat) : Int) xs n x) (m)).toNat)) == ((ix o (x.toNat)) - 1))) rfl (OpQ.y (OpY.pure rfl)) ?_
            refine Lex.done ?_
            refine Run.cond (b := (ix o ((ix (nbL ((M : Nat) : Int) xs n x) (m)).toNat)) == ((ix o (x.toNat)) - 1)) rfl (fun h41 => ?_) (fun h41 => ?_)
            · have p41 := h41; try simp only [decide_eq_true_eq, decide_eq_false_iff_not, beq_iff_eq, bne_iff_ne, beq_eq_false_iff_ne, ne_eq, gt_iff_lt, ge_iff_le, Int.not_lt, Int.not_le, bne_eq_false_iff_eq, Bool.not_eq_true', Bool.not_eq_false', Bool.and_eq_true, Bool.and_eq_false_iff, Bool.or_eq_true, Bool.or_eq_false_iff, Decidable.not_not, List.cons.injEq, and_true] at p41
              have hhit : nxt M xs n o x = (ix (nbL ((M : Nat) : Int) xs n x) (m)) := nxt_hit hinv.2 hltm (by rw [nxtP, decide_eq_true_eq]; exact p41)
              have hgo := path_go hP hne.1 hhit p41
              refine Run.seq ?_
              refine Run.region ?_
              refine Run.q (v := .int .i64 (ix (nbL ((M : Nat) : Int) xs n x) (m))) rfl (OpQ.y (OpY.pure rfl)) ?_
              refine Run.q (v := .int .i64 (ix (nbL ((M : Nat) : Int) xs n x) (m))) rfl (OpQ.y (OpY.pure rfl)) ?_
              refine Run.done ?_
              refine Run.exit rfl ?_
              refine Run.region ?_
              refine Run.q (v := v) rfl (OpQ.y (OpY.pure rfl)) ?_
              refine Run.q (v := .int .i64 (ix (nbL ((M : Nat) : Int) xs n x) (m))) rfl (OpQ.y (OpY.pure rfl)) ?_
              refine Run.step rfl (OpStep.buildSlice (us := [.int .i64 (ix (nbL ((M : Nat) : Int) xs n x) (m))]) Tsl_34 (by decide) (by decide) ⟨rfl, [.int .i64 (ix (nbL ((M : Nat) : Int) xs n x) (m))], _, rfl, rfl, rfl, rfl⟩ rfl fun b3 => ?_)
              refine Run.step rfl (OpStep.append (H1 := [.own (.slice (some ⟨b3, 0, none⟩) 1 1) 3 1 1 ([.int .i64 (ix (nbL ((M : Nat) : Int) xs n x) (m))]), .own (.slice (some ⟨gn, 0, none⟩) ((nbL ((M : Nat) : Int) xs n x).length) c_nb1) 3 1 ((nbL ((M : Nat) : Int) xs n x).length) (ints (nbL ((M : Nat) : Int) xs n x))]) (H2 := [.own (.slice (some ⟨go, 0, none⟩) M cgo) 3 1 M (ints o), .blk b1 25 [.int .i64 (((M : Nat) : Int)), va]]) (v := v) (u := .slice (some ⟨b3, 0, none⟩) 1 1) (n := l.length) (m := 1) (xs := ints l) (ys := [.int .i64 (ix (nbL ((M : Nat) : Int) xs n x) (m))]) Tsl_34 (by decide) rfl rfl rfl rfl (fun w hs => hs.slOwn (.head _)) (by simp [Value.oneCell']) (by omega) (by simp only [maxLen]; omega) fun av1 hnav1 => ?_)
              refine Run.weak (H' := [.own (.slice (some ⟨b3, 0, none⟩) 1 1) 3 1 1 ([.int .i64 (ix (nbL ((M : Nat) : Int) xs n x) (m))]), .own (.slice (some ⟨gn, 0, none⟩) ((nbL ((M : Nat) : Int) xs n x).length) c_nb1) 3 1 ((nbL ((M : Nat) : Int) xs n x).length) (ints (nbL ((M : Nat) : Int) xs n x)), .own av1 3 1 ((l ++ [(ix (nbL ((M : Nat) : Int) xs n x) (m))]).length) (ints (l ++ [(ix (nbL ((M : Nat) : Int) xs n x) (m))])), .own (.slice (some ⟨go, 0, none⟩) M cgo) 3 1 M (ints o), .blk b1 25 [.int .i64 (((M : Nat) : Int)), va]]) (Some'.weak (.take (.take (.takeEq (by simp [ints]) (.take (.take (.nil _))))))) ?_ ⟨_, _, rfl, fun _ => nofun, fun _ => nofun⟩
              refine Run.q (v := av1) rfl (OpQ.y (OpY.pure rfl)) ?_
              refine Run.done ?_
              refine Run.blockEnd ?_
              refine Run.goal ⟨(by repeat (first | exact Same.refl _ _ | refine Same.put rfl ?_ | refine Same.over rfl rfl ?_)), ((ix (nbL ((M : Nat) : Int) xs n x) (m)), av1, l ++ [(ix (nbL ((M : Nat) : Int) xs n x) (m))]), ?_, ?_, ?_, ?_⟩
              · exact ⟨hk.1, hk.2.1, by omega, hgo, by simp only [List.length_append, List.length_cons, List.length_nil]; omega⟩
              · show (ix o (ix (nbL ((M : Nat) : Int) xs n x) (m)).toNat).toNat < (ix o x.toNat).toNat; have := hne.1; omega
              · exact ⟨(by first | rfl | (congr 1; omega) | simp), (by first | rfl | (congr 1; omega) | simp), trivial⟩
              · exact (Some'.weak (.skip (.skip (.takeEq (by first | rfl | simp) (.takeEq (by first | rfl | simp) (.take (.nil _)))))))
            · have p41 := h41; try simp only [decide_eq_true_eq, decide_eq_false_iff_not, beq_iff_eq, bne_iff_ne, beq_eq_false_iff_ne, ne_eq, gt_iff_lt, ge_iff_le, Int.not_lt, Int.not_le, bne_eq_false_iff_eq, Bool.not_eq_true', Bool.not_eq_false', Bool.and_eq_true, Bool.and_eq_false_iff, Bool.or_eq_true, Bool.or_eq_false_iff, Decidable.not_not, List.cons.injEq, and_true] at p41
              refine Run.skip ?_
              refine Run.blockEnd ?_
              refine Run.region ?_
              refine Run.q (v := .int .i64 ((((m : Nat) : Int)) + 1)) rfl (OpQ.y (OpY.add rfl rfl rfl (by omega) (by omega))) ?_
              refine Run.q (v := .int .i64 ((((m : Nat) : Int)) + 1)) rfl (OpQ.y (OpY.pure rfl)) ?_
              refine Run.done ?_
              refine Run.goal ⟨(by repeat (first | exact Same.refl _ _ | refine Same.put rfl ?_ | refine Same.over rfl rfl ?_)), m + 1, ?_, ?_, ?_, ?_⟩
              · refine ⟨by omega, fun i hi => ?_⟩
                rcases Nat.lt_succ_iff_lt_or_eq.1 hi with h | h
                · exact hinv.2 i h
                · rw [h, nxtP, decide_eq_false_iff_not]; exact p41
              · omega
              · exact ⟨(by first | rfl | (congr 1; omega) | simp), (by first | rfl | (congr 1; omega) | simp), trivial⟩
              · exact (Some'.weak (.takeEq (by first | rfl | simp) (.takeEq (by first | rfl | simp) (.takeEq (by first | rfl | simp) (.take (.nil _))))))
          · have q29 := of_decide_eq_false h29
            obtain ⟨_, i, hi, hp⟩ := hne
            exact absurd (hinv.2 i (by omega)) (by rw [hp]; decide) --DONE
      · have p23 := h23; try simp only [decide_eq_true_eq, decide_eq_false_iff_not, beq_iff_eq, bne_iff_ne, beq_eq_false_iff_ne, ne_eq, gt_iff_lt, ge_iff_le, Int.not_lt, Int.not_le, bne_eq_false_iff_eq, Bool.not_eq_true', Bool.not_eq_false', Bool.and_eq_true, Bool.and_eq_false_iff, Bool.or_eq_true, Bool.or_eq_false_iff, Decidable.not_not, List.cons.injEq, and_true] at p23
        obtain ⟨hx0, hxM, hxo, hP, hll⟩ := hinv
        have hxs : x = (s : Int) := by omega
        have hlP : l = spL M xs n o a := by
          rw [hsp, ← hP, hxs, Int.toNat_natCast, hd.src]; simp [pathL]
        have hpl := pathL_length M xs n o (ix o a.toNat).toNat a
        have hlen : l.length = (spL M xs n o a).length := by rw [hlP]
        have hpos : 0 < l.length := by rw [hlP, hsp]; omega
        refine Run.exit rfl ?_
        refine Run.seq ?_
        refine Run.openOwn (.head _) (by omega) (fun gl cgl hvgl hcapgl _ => ?_) (fun _ _ _ => ⟨nofun, nofun, nofun⟩)
        subst hvgl
        refine Run.region ?_
        refine Run.q (v := .slice (some ⟨gl, 0, none⟩) (l.length) cgl) rfl (OpQ.y (OpY.pure rfl)) ?_
        refine Run.q (v := .slice (some ⟨gl, 0, none⟩) (l.length) cgl) rfl (OpQ.y (OpY.pure rfl)) ?_
        refine Run.done ?_
        refine Run.ret ?_
        refine ⟨.slice (some ⟨gl, 0, none⟩) (l.length) cgl, [.own (.slice (some ⟨gl, 0, none⟩) (l.length) cgl) 3 1 ((spL M xs n o a).length) (ints (spL M xs n o a))], Out.one rfl rfl, (Some'.weak (.takeEq (by first | rfl | rw [hlP] | (rw [hsp]; rfl)) (.nil _))), ?_⟩
        exact ⟨by rw [negA, decide_eq_false (by omega)]; rfl, by omega, by rw [hlP]⟩

set_option maxHeartbeats 1000000 in
set_option maxRecDepth 20000 in
theorem l22Path_spec {N a b : Int} {va : Value} {n : Nat} {xs : List Int} {w : World} (hN : 1 ≤ N ∧ N ≤ 8) (hna : 0 ≤ a ∧ a < N) (hnb : 0 ≤ b ∧ b < N) (he : edgesOk N xs n = true) (ha : Sl w va 2 n (ints xs)) : Calls Try.prog 49 #[.agg #[.int .i64 N, va], .int .i64 a, .int .i64 b] w (Post No w fun v H => isNilSl v = negA (distL xs n N.toNat b.toNat) a.toNat ∧ (spL N.toNat xs n (distL xs n N.toNat b.toNat) a).length ≤ 8 ∧ H = [.own v 3 1 (spL N.toNat xs n (distL xs n N.toNat b.toNat) a).length (ints (spL N.toNat xs n (distL xs n N.toNat b.toNat) a))]) := by
  obtain ⟨M, rfl⟩ : ∃ M : Nat, N = M := ⟨N.toNat, by omega⟩
  obtain ⟨s, rfl⟩ : ∃ s : Nat, b = s := ⟨b.toNat, by omega⟩
  simp only [Int.toNat_natCast]
  generalize ho : distL xs n M s = o
  refine enter (n := 49) (args := [.agg #[.int .i64 (((M : Nat) : Int)), va], .int .i64 a, .int .i64 (((s : Nat) : Int))]) Try.func49 rfl rfl (St.empty _ _) ?_
  refine Run.seq ?_
  refine Run.region ?_
  refine Run.step rfl (OpStep.box (us := [.int .i64 (((M : Nat) : Int)), va]) rfl fun b1 => ?_)
  refine Run.q (v := .slice none 0 0) rfl (OpQ.y (OpY.pure rfl)) ?_
  refine Run.done ?_
  refine Run.seq ?_
  refine Run.region ?_
  refine Run.q (v := .agg #[.int .i64 (((M : Nat) : Int)), va]) rfl (OpQ.y (OpY.loadN (cs := [.int .i64 (((M : Nat) : Int)), va]) Tagg_25 rfl (Cells.blk (.head _) ⟨rfl, rfl, trivial⟩))) ?_
  refine Run.q (v := .int .i64 (((s : Nat) : Int))) rfl (OpQ.y (OpY.pure rfl)) ?_
  refine Run.step rfl (OpStep.call (vs := [.agg #[.int .i64 (((M : Nat) : Int)), va], .int .i64 (((s : Nat) : Int))]) (caps := []) Tcall_50 rfl rfl (fun w hs => (by have h := l22Far_spec hN hnb he (hs.sl ha); simp only [Int.toNat_natCast] at h; rw [ho] at h; exact h)) ?_)
  rintro uo _ ⟨hd, rfl⟩
  show Run _ _ (putF _ _ _ uo) [.own uo 3 1 M (ints o), .blk b1 25 [.int .i64 (((M : Nat) : Int)), va]]
  refine Run.q (v := uo) rfl (OpQ.y (OpY.pure rfl)) ?_
  refine Run.done ?_
  refine Run.seq ?_
  refine Run.seq ?_
  refine Run.openOwn (.head _) (by omega) (fun go cgo hvgo hcapgo _ => ?_) (fun _ _ _ => ⟨nofun, nofun, nofun⟩)
  subst hvgo
  have hol := hd.len
  refine Run.region ?_
  refine Run.q (v := .slice (some ⟨go, 0, none⟩) M cgo) rfl (OpQ.y (OpY.pure rfl)) ?_
  refine Run.q (v := .int .i64 a) rfl (OpQ.y (OpY.pure rfl)) ?_
  refine Run.q (v := .pointer (some ⟨go, a.toNat, none⟩)) rfl (OpQ.y (OpY.index (kk := a.toNat) Tsl_34 rfl rfl (by omega) (by omega) (by first | rfl | omega))) ?_
  refine Run.q (v := .int .i64 (ix o (a.toNat))) rfl (OpQ.y (OpY.load1 Tone_3 rfl (Cells.own0 (.head _) (pre1 (by omega))))) ?_
  refine Run.q (v := .bool (decide ((ix o (a.toNat)) < 0))) rfl (OpQ.y (OpY.pure rfl)) ?_
  refine Run.done ?_
  refine Run.cond (b := decide ((ix o (a.toNat)) < 0)) rfl (fun h18 => ?_) (fun h18 => ?_)
  · have p18 := h18; try simp only [decide_eq_true_eq, decide_eq_false_iff_not, beq_iff_eq, bne_iff_ne, beq_eq_false_iff_ne, ne_eq, gt_iff_lt, ge_iff_le, Int.not_lt, Int.not_le, bne_eq_false_iff_eq, Bool.not_eq_true', Bool.not_eq_false', Bool.and_eq_true, Bool.and_eq_false_iff, Bool.or_eq_true, Bool.or_eq_false_iff, Decidable.not_not, List.cons.injEq, and_true] at p18
    have hsp : spL M xs n o a = [] := by rw [spL, if_pos p18]
    refine Run.seq ?_
    refine Run.region ?_
    refine Run.q (v := .slice none 0 0) rfl (OpQ.y (OpY.pure rfl)) ?_
    refine Run.done ?_
    refine Run.ret ?_
    refine ⟨.slice none 0 0, [.own (.slice none 0 0) 3 1 ((spL M xs n o a).length) (ints (spL M xs n o a))], Out.one rfl rfl, ((Weak.nilOwn 3 1).trans (Some'.weak (.takeEq (by first | rfl | rw [hlP] | (rw [hsp]; rfl)) (.nil _)))), ?_⟩
    exact ⟨by rw [negA, decide_eq_true p18]; rfl, by rw [hsp]; simp, rfl⟩
  · have p18 := h18; try simp only [decide_eq_true_eq, decide_eq_false_iff_not, beq_iff_eq, bne_iff_ne, beq_eq_false_iff_ne, ne_eq, gt_iff_lt, ge_iff_le, Int.not_lt, Int.not_le, bne_eq_false_iff_eq, Bool.not_eq_true', Bool.not_eq_false', Bool.and_eq_true, Bool.and_eq_false_iff, Bool.or_eq_true, Bool.or_eq_false_iff, Decidable.not_not, List.cons.injEq, and_true] at p18
    have hsp : spL M xs n o a = pathL M xs n o (ix o a.toNat).toNat a := by rw [spL, if_neg (by omega)]
    have hlv := level_lt (by omega) hd.src hd.par (v := a.toNat) (by omega)
    refine Run.skip ?_
    refine Run.seq ?_
    refine Run.region ?_
    refine Run.q (v := .int .i64 a) rfl (OpQ.y (OpY.pure rfl)) ?_
    refine Run.step rfl (OpStep.buildSlice (us := [.int .i64 a]) Tsl_34 (by decide) (by decide) ⟨rfl, [.int .i64 a], _, rfl, rfl, rfl, rfl⟩ rfl fun b2 => ?_)
    refine Run.q (v := .slice (some ⟨b2, 0, none⟩) 1 1) rfl (OpQ.y (OpY.pure rfl)) ?_
    refine Run.done ?_
    refine Run.seq ?_
    refine Run.block ?_
    refine Run.loop (ι := Int × Value × List Int) [1, 8, 10, 21, 22, 23, 24, 25, 26, 27, 28, 29, 30, 31, 32, 33, 34, 35, 36, 37, 38, 39, 40, 41, 42, 43, 44, 45, 46, 47] (fun ⟨x, v, l⟩ => [(1, .int .i64 x), (8, v)]) (fun ⟨x, v, l⟩ => [.own v 3 1 (l.length) (ints l), .own (.slice (some ⟨go, 0, none⟩) M cgo) 3 1 M (ints o), .blk b1 25 [.int .i64 (((M : Nat) : Int)), va]]) (fun ⟨x, v, l⟩ => 0 ≤ x ∧ x < M ∧ 0 ≤ ix o x.toNat ∧ l ++ (pathL M xs n o (ix o x.toNat).toNat x).tail = pathL M xs n o (ix o a.toNat).toNat a ∧ l.length + (ix o x.toNat).toNat ≤ M) (fun ⟨x, v, l⟩ => (ix o x.toNat).toNat) (a, .slice (some ⟨b2, 0, none⟩) 1 1, [a]) ?_ ?_ ?_ ?_
    · exact ⟨hna.1, hna.2, by omega, (pathL_tail M xs n o _ a).symm, by simp only [List.length_cons, List.length_nil]; omega⟩
    · exact ⟨rfl, rfl, trivial⟩
    · exact (Some'.weak (.takeEq (by first | rfl | simp) (.take (.take (.nil _)))))
    · rintro ⟨x, v, l⟩ fr hinv
      show Run _ _ (over _ _ [(1, .int .i64 x), (8, v)] fr) [.own v 3 1 (l.length) (ints l), .own (.slice (some ⟨go, 0, none⟩) M cgo) 3 1 M (ints o), .blk b1 25 [.int .i64 (((M : Nat) : Int)), va]]
      try dsimp only at hinv
      refine Run.seq ?_
      refine Run.seq ?_
      refine Run.region ?_
      refine Run.q (v := .int .i64 x) rfl (OpQ.y (OpY.pure rfl)) ?_
      refine Run.q (v := .int .i64 (((s : Nat) : Int))) rfl (OpQ.y (OpY.pure rfl)) ?_
      refine Run.q (v := .bool (x != (((s : Nat) : Int)))) rfl (OpQ.y (OpY.pure rfl)) ?_
      refine Run.done ?_
      refine Run.cond (b := x != (((s : Nat) : Int))) rfl (fun h23 => ?_) (fun h23 => ?_)
      · have p23 := h23; try simp only [decide_eq_true_eq, decide_eq_false_iff_not, beq_iff_eq, bne_iff_ne, beq_eq_false_iff_ne, ne_eq, gt_iff_lt, ge_iff_le, Int.not_lt, Int.not_le, bne_eq_false_iff_eq, Bool.not_eq_true', Bool.not_eq_false', Bool.and_eq_true, Bool.and_eq_false_iff, Bool.or_eq_true, Bool.or_eq_false_iff, Decidable.not_not, List.cons.injEq, and_true] at p23
        obtain ⟨hx0, hxM, hxo, hP, hll⟩ := hinv
        have hne := nearer hd hx0 hxM hxo p23
        refine Run.skip ?_
        refine Run.block ?_
        refine Run.seq ?_
        refine Run.region ?_
        refine Run.q (v := .agg #[.int .i64 (((M : Nat) : Int)), va]) rfl (OpQ.y (OpY.loadN (cs := [.int .i64 (((M : Nat) : Int)), va]) Tagg_25 rfl (Cells.blk (.tail _ (.tail _ (List.Mem.head _))) ⟨rfl, rfl, trivial⟩))) ?_
        refine Run.q (v := .int .i64 x) rfl (OpQ.y (OpY.pure rfl)) ?_
        refine Run.step rfl (OpStep.call (vs := [.agg #[.int .i64 (((M : Nat) : Int)), va], .int .i64 x]) (caps := []) Tcall_73 rfl rfl (fun w hs => l22Near_spec hN he (hs.sl ha)) ?_)
        rintro nb _ rfl
        show Run _ _ (putF _ _ _ nb) [.own nb 3 1 ((nbL ((M : Nat) : Int) xs n x).length) (ints (nbL ((M : Nat) : Int) xs n x)), .own v 3 1 (l.length) (ints l), .own (.slice (some ⟨go, 0, none⟩) M cgo) 3 1 M (ints o), .blk b1 25 [.int .i64 (((M : Nat) : Int)), va]]
        refine Run.formOwn (.head _) (fun A_nb1 c_nb1 hv hcapc_nb1 hmaxc_nb1 => ?_) (fun _ _ _ => ⟨nofun, nofun, nofun⟩)
        subst hv
        refine Run.q (v := .int .i64 ((((nbL ((M : Nat) : Int) xs n x).length : Nat) : Int))) rfl (OpQ.y (OpY.len Tsl_34 rfl)) ?_
        refine Run.q (v := .int .i64 0) rfl (OpQ.y (OpY.pure rfl)) ?_
        refine Run.done ?_
        refine Run.block ?_
        refine Run.loop (ι := Nat) [1, 8, 10, 28, 29, 30, 31, 32, 33, 34, 35, 36, 37, 38, 39, 40, 41, 42, 43, 44, 45, 46, 47] (fun m => [(1, .int .i64 x), (8, v), (28, .int .i64 (((m : Nat) : Int)))]) (fun m => [.own (.slice A_nb1 ((nbL ((M : Nat) : Int) xs n x).length) c_nb1) 3 1 ((nbL ((M : Nat) : Int) xs n x).length) (ints (nbL ((M : Nat) : Int) xs n x)), .own v 3 1 (l.length) (ints l), .own (.slice (some ⟨go, 0, none⟩) M cgo) 3 1 M (ints o), .blk b1 25 [.int .i64 (((M : Nat) : Int)), va]]) (fun m => m ≤ (nbL ((M : Nat) : Int) xs n x).length ∧ ∀ i, i < m → nxtP M xs n o x i = false) (fun m => (nbL ((M : Nat) : Int) xs n x).length - m) 0 ?_ ?_ ?_ ?_
        · exact ⟨Nat.zero_le _, fun i hi => absurd hi (by omega)⟩
        · exact ⟨rfl, rfl, rfl, trivial⟩
        · exact (Some'.weak (.take (.take (.take (.take (.nil _))))))
        · rintro m fr hinv
          show Run _ _ (over _ _ [(1, .int .i64 x), (8, v), (28, .int .i64 (((m : Nat) : Int)))] fr) [.own (.slice A_nb1 ((nbL ((M : Nat) : Int) xs n x).length) c_nb1) 3 1 ((nbL ((M : Nat) : Int) xs n x).length) (ints (nbL ((M : Nat) : Int) xs n x)), .own v 3 1 (l.length) (ints l), .own (.slice (some ⟨go, 0, none⟩) M cgo) 3 1 M (ints o), .blk b1 25 [.int .i64 (((M : Nat) : Int)), va]]
          try dsimp only at hinv
          refine Run.seq ?_
          refine Run.region ?_
          refine Run.q (v := .bool (decide ((((m : Nat) : Int)) < ((((nbL ((M : Nat) : Int) xs n x).length : Nat) : Int))))) rfl (OpQ.y (OpY.pure rfl)) ?_
          refine Run.done ?_
          refine Run.seq ?_
          refine Run.cond (b := decide ((((m : Nat) : Int)) < ((((nbL ((M : Nat) : Int) xs n x).length : Nat) : Int)))) rfl (fun h29 => ?_) (fun h29 => ?_)
          · have p29 := h29; try simp only [decide_eq_true_eq, decide_eq_false_iff_not, beq_iff_eq, bne_iff_ne, beq_eq_false_iff_ne, ne_eq, gt_iff_lt, ge_iff_le, Int.not_lt, Int.not_le, bne_eq_false_iff_eq, Bool.not_eq_true', Bool.not_eq_false', Bool.and_eq_true, Bool.and_eq_false_iff, Bool.or_eq_true, Bool.or_eq_false_iff, Decidable.not_not, List.cons.injEq, and_true] at p29
            have hltm : m < (nbL ((M : Nat) : Int) xs n x).length := by omega
            have hk := nb_get hltm
            have hnl : (nbL ((M : Nat) : Int) xs n x).length ≤ 8 := by have := filterL_le (fun k => adj xs n x k) ((M : Nat) : Int).toNat; simp only [nbL]; omega
            refine Run.openOwn (.head _) (by omega) (fun gn cgn hvgn hcapgn _ => ?_) (fun _ _ _ => ⟨nofun, nofun, nofun⟩)
            injection hvgn with hAgn _ hcgn; subst hAgn; subst hcgn
            refine Run.skip ?_
            refine Run.seq ?_
            refine Run.block ?_
            refine Run.seq ?_
            refine Run.region ?_
            refine Run.q (v := .pointer (some ⟨gn, m, none⟩)) rfl (OpQ.y (OpY.index (kk := m) Tsl_34 rfl rfl (by omega) (by omega) (by first | rfl | omega))) ?_
            refine Run.q (v := .int .i64 (ix (nbL ((M : Nat) : Int) xs n x) (m))) rfl (OpQ.y (OpY.load1 Tone_3 rfl (Cells.own0 (.head _) (pre1 (by omega))))) ?_
            refine Run.q (v := .int .i64 (ix (nbL ((M : Nat) : Int) xs n x) (m))) rfl (OpQ.y (OpY.pure rfl)) ?_
            refine Run.done ?_
            refine Run.seq ?_
            refine Run.draws (by kernel_rfl) (by kernel_rfl) ?_
            refine Lex.q (v := .slice (some ⟨go, 0, none⟩) M cgo) rfl (OpQ.y (OpY.pure rfl)) ?_
            refine Lex.q (v := .int .i64 (ix (nbL ((M : Nat) : Int) xs n x) (m))) rfl (OpQ.y (OpY.pure rfl)) ?_
            refine Lex.q (v := .pointer (some ⟨go, (ix (nbL ((M : Nat) : Int) xs n x) (m)).toNat, none⟩)) rfl (OpQ.y (OpY.index (kk := (ix (nbL ((M : Nat) : Int) xs n x) (m)).toNat) Tsl_34 rfl rfl (by omega) (by omega) (by first | rfl | omega))) ?_
            refine Lex.q (v := .int .i64 (ix o ((ix (nbL ((M : Nat) : Int) xs n x) (m)).toNat))) rfl (OpQ.y (OpY.load1 Tone_3 rfl (Cells.own0 (.tail _ (.tail _ (List.Mem.head _))) (pre1 (by omega))))) ?_
            refine Lex.q (v := .slice (some ⟨go, 0, none⟩) M cgo) rfl (OpQ.y (OpY.pure rfl)) ?_
            refine Lex.q (v := .int .i64 x) rfl (OpQ.y (OpY.pure rfl)) ?_
            refine Lex.q (v := .pointer (some ⟨go, x.toNat, none⟩)) rfl (OpQ.y (OpY.index (kk := x.toNat) Tsl_34 rfl rfl (by omega) (by omega) (by first | rfl | omega))) ?_
            refine Lex.q (v := .int .i64 (ix o (x.toNat))) rfl (OpQ.y (OpY.load1 Tone_3 rfl (Cells.own0 (.tail _ (.tail _ (List.Mem.head _))) (pre1 (by omega))))) ?_
            refine Lex.q (v := .int .i64 ((ix o (x.toNat)) - 1)) rfl (OpQ.y (OpY.sub rfl rfl rfl (by omega) (by omega))) ?_
            refine Lex.q (v := .bool ((ix o ((ix (nbL ((M : Nat) : Int) xs n x) (m)).toNat)) == ((ix o (x.toNat)) - 1))) rfl (OpQ.y (OpY.pure rfl)) ?_
            refine Lex.done ?_
            refine Run.cond (b := (ix o ((ix (nbL ((M : Nat) : Int) xs n x) (m)).toNat)) == ((ix o (x.toNat)) - 1)) rfl (fun h41 => ?_) (fun h41 => ?_)
            · have p41 := h41; try simp only [decide_eq_true_eq, decide_eq_false_iff_not, beq_iff_eq, bne_iff_ne, beq_eq_false_iff_ne, ne_eq, gt_iff_lt, ge_iff_le, Int.not_lt, Int.not_le, bne_eq_false_iff_eq, Bool.not_eq_true', Bool.not_eq_false', Bool.and_eq_true, Bool.and_eq_false_iff, Bool.or_eq_true, Bool.or_eq_false_iff, Decidable.not_not, List.cons.injEq, and_true] at p41
              have hhit : nxt M xs n o x = (ix (nbL ((M : Nat) : Int) xs n x) (m)) := nxt_hit hinv.2 hltm (by rw [nxtP, decide_eq_true_eq]; exact p41)
              have hgo := path_go hP hne.1 hhit p41
              refine Run.seq ?_
              refine Run.region ?_
              refine Run.q (v := .int .i64 (ix (nbL ((M : Nat) : Int) xs n x) (m))) rfl (OpQ.y (OpY.pure rfl)) ?_
              refine Run.q (v := .int .i64 (ix (nbL ((M : Nat) : Int) xs n x) (m))) rfl (OpQ.y (OpY.pure rfl)) ?_
              refine Run.done ?_
              refine Run.seq ?_
              refine Run.region ?_
              refine Run.q (v := v) rfl (OpQ.y (OpY.pure rfl)) ?_
              refine Run.q (v := .int .i64 (ix (nbL ((M : Nat) : Int) xs n x) (m))) rfl (OpQ.y (OpY.pure rfl)) ?_
              refine Run.step rfl (OpStep.buildSlice (us := [.int .i64 (ix (nbL ((M : Nat) : Int) xs n x) (m))]) Tsl_34 (by decide) (by decide) ⟨rfl, [.int .i64 (ix (nbL ((M : Nat) : Int) xs n x) (m))], _, rfl, rfl, rfl, rfl⟩ rfl fun b3 => ?_)
              refine Run.step rfl (OpStep.append (H1 := [.own (.slice (some ⟨b3, 0, none⟩) 1 1) 3 1 1 ([.int .i64 (ix (nbL ((M : Nat) : Int) xs n x) (m))]), .own (.slice (some ⟨gn, 0, none⟩) ((nbL ((M : Nat) : Int) xs n x).length) c_nb1) 3 1 ((nbL ((M : Nat) : Int) xs n x).length) (ints (nbL ((M : Nat) : Int) xs n x))]) (H2 := [.own (.slice (some ⟨go, 0, none⟩) M cgo) 3 1 M (ints o), .blk b1 25 [.int .i64 (((M : Nat) : Int)), va]]) (v := v) (u := .slice (some ⟨b3, 0, none⟩) 1 1) (n := l.length) (m := 1) (xs := ints l) (ys := [.int .i64 (ix (nbL ((M : Nat) : Int) xs n x) (m))]) Tsl_34 (by decide) rfl rfl rfl rfl (fun w hs => hs.slOwn (.head _)) (by simp [Value.oneCell']) (by omega) (by simp only [maxLen]; omega) fun av1 hnav1 => ?_)
              refine Run.weak (H' := [.own (.slice (some ⟨b3, 0, none⟩) 1 1) 3 1 1 ([.int .i64 (ix (nbL ((M : Nat) : Int) xs n x) (m))]), .own (.slice (some ⟨gn, 0, none⟩) ((nbL ((M : Nat) : Int) xs n x).length) c_nb1) 3 1 ((nbL ((M : Nat) : Int) xs n x).length) (ints (nbL ((M : Nat) : Int) xs n x)), .own av1 3 1 ((l ++ [(ix (nbL ((M : Nat) : Int) xs n x) (m))]).length) (ints (l ++ [(ix (nbL ((M : Nat) : Int) xs n x) (m))])), .own (.slice (some ⟨go, 0, none⟩) M cgo) 3 1 M (ints o), .blk b1 25 [.int .i64 (((M : Nat) : Int)), va]]) (Some'.weak (.take (.take (.takeEq (by simp [ints]) (.take (.take (.nil _))))))) ?_ ⟨_, _, rfl, fun _ => nofun, fun _ => nofun⟩
              refine Run.q (v := av1) rfl (OpQ.y (OpY.pure rfl)) ?_
              refine Run.done ?_
              refine Run.exit rfl ?_
              refine Run.blockEnd ?_
              refine Run.goal ⟨(by repeat (first | exact Same.refl _ _ | refine Same.put rfl ?_ | refine Same.over rfl rfl ?_)), ((ix (nbL ((M : Nat) : Int) xs n x) (m)), av1, l ++ [(ix (nbL ((M : Nat) : Int) xs n x) (m))]), ?_, ?_, ?_, ?_⟩
              · exact ⟨hk.1, hk.2.1, by omega, hgo, by simp only [List.length_append, List.length_cons, List.length_nil]; omega⟩
              · show (ix o (ix (nbL ((M : Nat) : Int) xs n x) (m)).toNat).toNat < (ix o x.toNat).toNat; have := hne.1; omega
              · exact ⟨(by first | rfl | (congr 1; omega) | simp), (by first | rfl | (congr 1; omega) | simp), trivial⟩
              · exact (Some'.weak (.skip (.skip (.takeEq (by first | rfl | simp) (.takeEq (by first | rfl | simp) (.take (.nil _)))))))
            · have p41 := h41; try simp only [decide_eq_true_eq, decide_eq_false_iff_not, beq_iff_eq, bne_iff_ne, beq_eq_false_iff_ne, ne_eq, gt_iff_lt, ge_iff_le, Int.not_lt, Int.not_le, bne_eq_false_iff_eq, Bool.not_eq_true', Bool.not_eq_false', Bool.and_eq_true, Bool.and_eq_false_iff, Bool.or_eq_true, Bool.or_eq_false_iff, Decidable.not_not, List.cons.injEq, and_true] at p41
              refine Run.skip ?_
              refine Run.blockEnd ?_
              refine Run.region ?_
              refine Run.q (v := .int .i64 ((((m : Nat) : Int)) + 1)) rfl (OpQ.y (OpY.add rfl rfl rfl (by omega) (by omega))) ?_
              refine Run.q (v := .int .i64 ((((m : Nat) : Int)) + 1)) rfl (OpQ.y (OpY.pure rfl)) ?_
              refine Run.done ?_
              refine Run.goal ⟨(by repeat (first | exact Same.refl _ _ | refine Same.put rfl ?_ | refine Same.over rfl rfl ?_)), m + 1, ?_, ?_, ?_, ?_⟩
              · refine ⟨by omega, fun i hi => ?_⟩
                rcases Nat.lt_succ_iff_lt_or_eq.1 hi with h | h
                · exact hinv.2 i h
                · rw [h, nxtP, decide_eq_false_iff_not]; exact p41
              · omega
              · exact ⟨(by first | rfl | (congr 1; omega) | simp), (by first | rfl | (congr 1; omega) | simp), (by first | rfl | (congr 1; omega) | simp), trivial⟩
              · exact (Some'.weak (.takeEq (by first | rfl | simp) (.takeEq (by first | rfl | simp) (.takeEq (by first | rfl | simp) (.take (.nil _))))))
          · have q29 := of_decide_eq_false h29
            obtain ⟨_, i, hi, hp⟩ := hne
            exact absurd (hinv.2 i (by omega)) (by rw [hp]; decide) --DONE
      · have p23 := h23; try simp only [decide_eq_true_eq, decide_eq_false_iff_not, beq_iff_eq, bne_iff_ne, beq_eq_false_iff_ne, ne_eq, gt_iff_lt, ge_iff_le, Int.not_lt, Int.not_le, bne_eq_false_iff_eq, Bool.not_eq_true', Bool.not_eq_false', Bool.and_eq_true, Bool.and_eq_false_iff, Bool.or_eq_true, Bool.or_eq_false_iff, Decidable.not_not, List.cons.injEq, and_true] at p23
        obtain ⟨hx0, hxM, hxo, hP, hll⟩ := hinv
        have hxs : x = (s : Int) := by omega
        have hlP : l = spL M xs n o a := by
          rw [hsp, ← hP, hxs, Int.toNat_natCast, hd.src]; simp [pathL]
        have hpl := pathL_length M xs n o (ix o a.toNat).toNat a
        have hlen : l.length = (spL M xs n o a).length := by rw [hlP]
        have hpos : 0 < l.length := by rw [hlP, hsp]; omega
        refine Run.exit rfl ?_
        refine Run.seq ?_
        refine Run.openOwn (.head _) (by omega) (fun gl cgl hvgl hcapgl _ => ?_) (fun _ _ _ => ⟨nofun, nofun, nofun⟩)
        subst hvgl
        refine Run.region ?_
        refine Run.q (v := .slice (some ⟨gl, 0, none⟩) (l.length) cgl) rfl (OpQ.y (OpY.pure rfl)) ?_
        refine Run.q (v := .slice (some ⟨gl, 0, none⟩) (l.length) cgl) rfl (OpQ.y (OpY.pure rfl)) ?_
        refine Run.done ?_
        refine Run.ret ?_
        refine ⟨.slice (some ⟨gl, 0, none⟩) (l.length) cgl, [.own (.slice (some ⟨gl, 0, none⟩) (l.length) cgl) 3 1 ((spL M xs n o a).length) (ints (spL M xs n o a))], Out.one rfl rfl, (Some'.weak (.takeEq (by first | rfl | rw [hlP] | (rw [hsp]; rfl)) (.nil _))), ?_⟩
        exact ⟨by rw [negA, decide_eq_false (by omega)]; rfl, by omega, by rw [hlP]⟩


def spOk (N : Int) (xs : List Int) (n : Nat) (a b : Int) : Bool := cgOk N xs n && within a 0 (N - 1) && within b 0 (N - 1)
noncomputable def spR (N : Int) (xs : List Int) (n : Nat) (a b : Int) : List Int := if spOk N xs n a b then spL N.toNat xs n (distL xs n N.toNat b.toNat) a else []
noncomputable def spB (N : Int) (xs : List Int) (n : Nat) (a b : Int) : Bool := spOk N xs n a b && !negA (distL xs n N.toNat b.toNat) a.toNat
theorem spL_pos (M : Nat) (xs : List Int) (n : Nat) (o : List Int) (a : Int) : decide (((spL M xs n o a).length : Int) > 0) = !negA o a.toNat := by
  unfold spL negA
  split
  · rename_i h; rw [decide_eq_true h]; rfl
  · rename_i h; rw [decide_eq_false h, pathL_length]; simp <;> omega

set_option maxHeartbeats 1000000 in
set_option maxRecDepth 20000 in
theorem sShortestPath_spec {N a b : Int} {va : Value} {n : Nat} {xs : List Int} {w : World} (hN : In64 N) (hw : ∀ x ∈ xs, In64 x) (ha : Sl w va 2 n (ints xs)) : Calls Try.prog 18 #[.agg #[.int .i64 N, va], .int .i64 a, .int .i64 b] w (Post No w fun v H => ∃ u, (spR N xs n a b).length ≤ 8 ∧ v = .tuple #[u, .bool (spB N xs n a b)] ∧ H = [.own u 3 1 (spR N xs n a b).length (ints (spR N xs n a b))]) := by
  refine enter (n := 36) (args := [.agg #[.int .i64 N, va], .int .i64 a, .int .i64 b]) Try.func18 rfl rfl (St.empty _ _) ?_
  refine Run.seq ?_
  refine Run.region ?_
  refine Run.step rfl (OpStep.box (us := [.int .i64 N, va]) rfl fun b1 => ?_)
  refine Run.q (v := .slice none 0 0) rfl (OpQ.y (OpY.pure rfl)) ?_
  refine Run.q (v := .bool false) rfl (OpQ.y (OpY.pure rfl)) ?_
  refine Run.done ?_
  refine Run.seq ?_
  refine Run.seq ?_
  refine Run.region ?_
  refine Run.q (v := .agg #[.int .i64 N, va]) rfl (OpQ.y (OpY.loadN (cs := [.int .i64 N, va]) Tagg_25 rfl (Cells.blk (.head _) ⟨rfl, rfl, trivial⟩))) ?_
  refine Run.q (v := .bool (cgOk N xs n)) rfl (OpQ.call (vs := [.agg #[.int .i64 N, va]]) (caps := []) Tcall_36 rfl rfl (fun w hs => l22Valid_spec hN (hs.sl ha) hw)) ?_
  refine Run.q (v := .bool (!(cgOk N xs n))) rfl (OpQ.y (OpY.pure rfl)) ?_
  rcases Bool.eq_false_or_eq_true (!(cgOk N xs n)) with h12 | h12
  · refine Run.q (v := .bool true) rfl (OpQ.y (OpY.moveB rfl h12)) ?_
    have p12 := h12; try simp only [decide_eq_true_eq, decide_eq_false_iff_not, beq_iff_eq, bne_iff_ne, beq_eq_false_iff_ne, ne_eq, gt_iff_lt, ge_iff_le, Int.not_lt, Int.not_le, bne_eq_false_iff_eq, Bool.not_eq_true', Bool.not_eq_false', Bool.and_eq_true, Bool.and_eq_false_iff, Bool.or_eq_true, Bool.or_eq_false_iff, Decidable.not_not, List.cons.injEq, and_true] at p12
    refine Run.pass rfl ?_
    refine Run.pass rfl ?_
    refine Run.pass rfl ?_
    refine Run.pass rfl ?_
    refine Run.pass rfl ?_
    refine Run.pass rfl ?_
    refine Run.q (v := .bool true) rfl (OpQ.y (OpY.pure rfl)) ?_
    refine Run.q (v := .bool true) rfl (OpQ.y (OpY.pure rfl)) ?_
    refine Run.pass rfl ?_
    refine Run.pass rfl ?_
    refine Run.pass rfl ?_
    refine Run.pass rfl ?_
    refine Run.pass rfl ?_
    refine Run.pass rfl ?_
    refine Run.q (v := .bool true) rfl (OpQ.y (OpY.pure rfl)) ?_
    refine Run.done ?_
    refine Run.cond (b := true) rfl (fun _ => ?_) (fun h => nomatch h)
    refine Run.seq ?_
    have hok : spOk N xs n a b = false := by simp_all [spOk]
    have hr : spR N xs n a b = [] := by rw [spR, hok]; rfl
    have hb : spB N xs n a b = false := by rw [spB, hok]; rfl
    refine Run.region ?_
    refine Run.q (v := .slice none 0 0) rfl (OpQ.y (OpY.pure rfl)) ?_
    refine Run.q (v := .bool false) rfl (OpQ.y (OpY.pure rfl)) ?_
    refine Run.done ?_
    refine Run.ret ?_
    refine ⟨.tuple #[.slice none 0 0, .bool false], [.own (.slice none 0 0) 3 1 ((spR N xs n a b).length) (ints (spR N xs n a b))], Out.two rfl rfl rfl, ((Weak.nilOwn 3 1).trans (Some'.weak (.takeEq (by first | rfl | (rw [hr]; done) | (rw [hr]; rfl)) (.nil _)))), ?_⟩
    exact ⟨_, by rw [hr]; simp, by rw [hb], rfl⟩
  · refine Run.q (v := .bool false) rfl (OpQ.y (OpY.moveB rfl h12)) ?_
    have p12 := h12; try simp only [decide_eq_true_eq, decide_eq_false_iff_not, beq_iff_eq, bne_iff_ne, beq_eq_false_iff_ne, ne_eq, gt_iff_lt, ge_iff_le, Int.not_lt, Int.not_le, bne_eq_false_iff_eq, Bool.not_eq_true', Bool.not_eq_false', Bool.and_eq_true, Bool.and_eq_false_iff, Bool.or_eq_true, Bool.or_eq_false_iff, Decidable.not_not, List.cons.injEq, and_true] at p12
    have hcg : cgOk N xs n = true := by simpa using p12
    have hcN := cgOk_N hcg
    refine Run.q (v := .int .i64 a) rfl (OpQ.y (OpY.pure rfl)) ?_
    refine Run.q (v := .pointer (some ⟨b1, 0, none⟩)) rfl (OpQ.y (OpY.fieldAddr Tfo_25_0 rfl rfl)) ?_
    refine Run.q (v := .int .i64 N) rfl (OpQ.y (OpY.load1 Tone_3 rfl (Cells.blk (.head _) ⟨rfl, trivial⟩))) ?_
    refine Run.q (v := .int .i64 (N - 1)) rfl (OpQ.y (OpY.sub rfl rfl rfl (by omega) (by omega))) ?_
    refine Run.q (v := .bool (within a 0 (N - 1))) rfl (OpQ.call (vs := [.int .i64 a, .int .i64 0, .int .i64 (N - 1)]) (caps := []) Tcall_41 rfl rfl (fun w hs => l1In_spec _ _ _ w)) ?_
    refine Run.q (v := .bool (!(within a 0 (N - 1)))) rfl (OpQ.y (OpY.pure rfl)) ?_
    refine Run.q (v := .bool (!(within a 0 (N - 1)))) rfl (OpQ.y (OpY.pure rfl)) ?_
    rcases Bool.eq_false_or_eq_true (!(within a 0 (N - 1))) with h20 | h20
    · refine Run.q (v := .bool true) rfl (OpQ.y (OpY.moveB rfl h20)) ?_
      have p20 := h20; try simp only [decide_eq_true_eq, decide_eq_false_iff_not, beq_iff_eq, bne_iff_ne, beq_eq_false_iff_ne, ne_eq, gt_iff_lt, ge_iff_le, Int.not_lt, Int.not_le, bne_eq_false_iff_eq, Bool.not_eq_true', Bool.not_eq_false', Bool.and_eq_true, Bool.and_eq_false_iff, Bool.or_eq_true, Bool.or_eq_false_iff, Decidable.not_not, List.cons.injEq, and_true] at p20
      refine Run.pass rfl ?_
      refine Run.pass rfl ?_
      refine Run.pass rfl ?_
      refine Run.pass rfl ?_
      refine Run.pass rfl ?_
      refine Run.pass rfl ?_
      refine Run.q (v := .bool true) rfl (OpQ.y (OpY.pure rfl)) ?_
      refine Run.done ?_
      refine Run.cond (b := true) rfl (fun _ => ?_) (fun h => nomatch h)
      refine Run.seq ?_
      have hok : spOk N xs n a b = false := by simp_all [spOk]
      have hr : spR N xs n a b = [] := by rw [spR, hok]; rfl
      have hb : spB N xs n a b = false := by rw [spB, hok]; rfl
      refine Run.region ?_
      refine Run.q (v := .slice none 0 0) rfl (OpQ.y (OpY.pure rfl)) ?_
      refine Run.q (v := .bool false) rfl (OpQ.y (OpY.pure rfl)) ?_
      refine Run.done ?_
      refine Run.ret ?_
      refine ⟨.tuple #[.slice none 0 0, .bool false], [.own (.slice none 0 0) 3 1 ((spR N xs n a b).length) (ints (spR N xs n a b))], Out.two rfl rfl rfl, ((Weak.nilOwn 3 1).trans (Some'.weak (.takeEq (by first | rfl | (rw [hr]; done) | (rw [hr]; rfl)) (.nil _)))), ?_⟩
      exact ⟨_, by rw [hr]; simp, by rw [hb], rfl⟩
    · refine Run.q (v := .bool false) rfl (OpQ.y (OpY.moveB rfl h20)) ?_
      have p20 := h20; try simp only [decide_eq_true_eq, decide_eq_false_iff_not, beq_iff_eq, bne_iff_ne, beq_eq_false_iff_ne, ne_eq, gt_iff_lt, ge_iff_le, Int.not_lt, Int.not_le, bne_eq_false_iff_eq, Bool.not_eq_true', Bool.not_eq_false', Bool.and_eq_true, Bool.and_eq_false_iff, Bool.or_eq_true, Bool.or_eq_false_iff, Decidable.not_not, List.cons.injEq, and_true] at p20
      refine Run.q (v := .int .i64 b) rfl (OpQ.y (OpY.pure rfl)) ?_
      refine Run.q (v := .pointer (some ⟨b1, 0, none⟩)) rfl (OpQ.y (OpY.fieldAddr Tfo_25_0 rfl rfl)) ?_
      refine Run.q (v := .int .i64 N) rfl (OpQ.y (OpY.load1 Tone_3 rfl (Cells.blk (.head _) ⟨rfl, trivial⟩))) ?_
      refine Run.q (v := .int .i64 (N - 1)) rfl (OpQ.y (OpY.sub rfl rfl rfl (by omega) (by omega))) ?_
      refine Run.q (v := .bool (within b 0 (N - 1))) rfl (OpQ.call (vs := [.int .i64 b, .int .i64 0, .int .i64 (N - 1)]) (caps := []) Tcall_41 rfl rfl (fun w hs => l1In_spec _ _ _ w)) ?_
      refine Run.q (v := .bool (!(within b 0 (N - 1)))) rfl (OpQ.y (OpY.pure rfl)) ?_
      refine Run.q (v := .bool (!(within b 0 (N - 1)))) rfl (OpQ.y (OpY.pure rfl)) ?_
      refine Run.done ?_
      refine Run.cond (b := !(within b 0 (N - 1))) rfl (fun h27 => ?_) (fun h27 => ?_)
      · have p27 := h27; try simp only [decide_eq_true_eq, decide_eq_false_iff_not, beq_iff_eq, bne_iff_ne, beq_eq_false_iff_ne, ne_eq, gt_iff_lt, ge_iff_le, Int.not_lt, Int.not_le, bne_eq_false_iff_eq, Bool.not_eq_true', Bool.not_eq_false', Bool.and_eq_true, Bool.and_eq_false_iff, Bool.or_eq_true, Bool.or_eq_false_iff, Decidable.not_not, List.cons.injEq, and_true] at p27
        refine Run.seq ?_
        have hok : spOk N xs n a b = false := by simp_all [spOk]
        have hr : spR N xs n a b = [] := by rw [spR, hok]; rfl
        have hb : spB N xs n a b = false := by rw [spB, hok]; rfl
        refine Run.region ?_
        refine Run.q (v := .slice none 0 0) rfl (OpQ.y (OpY.pure rfl)) ?_
        refine Run.q (v := .bool false) rfl (OpQ.y (OpY.pure rfl)) ?_
        refine Run.done ?_
        refine Run.ret ?_
        refine ⟨.tuple #[.slice none 0 0, .bool false], [.own (.slice none 0 0) 3 1 ((spR N xs n a b).length) (ints (spR N xs n a b))], Out.two rfl rfl rfl, ((Weak.nilOwn 3 1).trans (Some'.weak (.takeEq (by first | rfl | (rw [hr]; done) | (rw [hr]; rfl)) (.nil _)))), ?_⟩
        exact ⟨_, by rw [hr]; simp, by rw [hb], rfl⟩
      · have p27 := h27; try simp only [decide_eq_true_eq, decide_eq_false_iff_not, beq_iff_eq, bne_iff_ne, beq_eq_false_iff_ne, ne_eq, gt_iff_lt, ge_iff_le, Int.not_lt, Int.not_le, bne_eq_false_iff_eq, Bool.not_eq_true', Bool.not_eq_false', Bool.and_eq_true, Bool.and_eq_false_iff, Bool.or_eq_true, Bool.or_eq_false_iff, Decidable.not_not, List.cons.injEq, and_true] at p27
        refine Run.skip ?_
        refine Run.seq ?_
        have hok : spOk N xs n a b = true := by simp_all [spOk]
        have hw1 : within a 0 (N - 1) = true := by simp_all [spOk]
        have hw2 : within b 0 (N - 1) = true := by simp_all [spOk]
        have hi1 := within_iff.1 hw1
        have hi2 := within_iff.1 hw2
        have hr : spR N xs n a b = spL N.toNat xs n (distL xs n N.toNat b.toNat) a := by rw [spR, if_pos hok]
        refine Run.region ?_
        refine Run.q (v := .agg #[.int .i64 N, va]) rfl (OpQ.y (OpY.loadN (cs := [.int .i64 N, va]) Tagg_25 rfl (Cells.blk (.head _) ⟨rfl, rfl, trivial⟩))) ?_
        refine Run.q (v := .int .i64 a) rfl (OpQ.y (OpY.pure rfl)) ?_
        refine Run.q (v := .int .i64 b) rfl (OpQ.y (OpY.pure rfl)) ?_
        refine Run.step rfl (OpStep.call (vs := [.agg #[.int .i64 N, va], .int .i64 a, .int .i64 b]) (caps := []) Tcall_49 rfl rfl (fun w hs => l22Path_spec hcN ⟨hi1.1, by omega⟩ ⟨hi2.1, by omega⟩ (cgOk_edges hcg) (hs.sl ha)) ?_)
        rintro u _ ⟨hnil, hl8, rfl⟩
        show Run _ _ (putF _ _ _ u) [.own u 3 1 ((spL N.toNat xs n (distL xs n N.toNat b.toNat) a).length) (ints (spL N.toNat xs n (distL xs n N.toNat b.toNat) a)), .blk b1 25 [.int .i64 N, va]]
        refine Run.q (v := u) rfl (OpQ.y (OpY.pure rfl)) ?_
        refine Run.done ?_
        refine Run.seq ?_
        refine Run.region ?_
        refine Run.q (v := u) rfl (OpQ.y (OpY.pure rfl)) ?_
        refine Run.q (v := u) rfl (OpQ.y (OpY.pure rfl)) ?_
        refine Run.formOwn (.head _) (fun A_u1 c_u1 hv hcapc_u1 hmaxc_u1 => ?_) (fun _ _ _ => ⟨nofun, nofun, nofun⟩)
        subst hv
        refine Run.q (v := .int .i64 ((((spL N.toNat xs n (distL xs n N.toNat b.toNat) a).length : Nat) : Int))) rfl (OpQ.y (OpY.len Tsl_34 rfl)) ?_
        refine Run.q (v := .bool (decide (((((spL N.toNat xs n (distL xs n N.toNat b.toNat) a).length : Nat) : Int)) > 0))) rfl (OpQ.y (OpY.pure rfl)) ?_
        refine Run.q (v := .slice A_u1 ((spL N.toNat xs n (distL xs n N.toNat b.toNat) a).length) c_u1) rfl (OpQ.y (OpY.pure rfl)) ?_
        refine Run.q (v := .bool (decide (((((spL N.toNat xs n (distL xs n N.toNat b.toNat) a).length : Nat) : Int)) > 0))) rfl (OpQ.y (OpY.pure rfl)) ?_
        refine Run.done ?_
        refine Run.ret ?_
        refine ⟨.tuple #[.slice A_u1 ((spL N.toNat xs n (distL xs n N.toNat b.toNat) a).length) c_u1, .bool (decide (((((spL N.toNat xs n (distL xs n N.toNat b.toNat) a).length : Nat) : Int)) > 0))], [.own (.slice A_u1 ((spL N.toNat xs n (distL xs n N.toNat b.toNat) a).length) c_u1) 3 1 ((spR N xs n a b).length) (ints (spR N xs n a b))], Out.two rfl rfl rfl, (Some'.weak (.takeEq (by first | rfl | (rw [hr]; done) | (rw [hr]; rfl)) (.nil _))), ?_⟩
        have hb : spB N xs n a b = !negA (distL xs n N.toNat b.toNat) a.toNat := by rw [spB, hok]; rfl
        exact ⟨_, by rw [hr]; exact hl8, by rw [hb, spL_pos], rfl⟩

set_option maxHeartbeats 1000000 in
set_option maxRecDepth 20000 in
theorem ShortestPath_spec {N a b : Int} {va : Value} {n : Nat} {xs : List Int} {w : World} (ha : Sl w va 2 n (ints xs)) : Calls Try.prog 17 #[.agg #[.int .i64 N, va], .int .i64 a, .int .i64 b] w (Post No w fun v H => ∃ u, (spR N xs n a b).length ≤ 8 ∧ v = .tuple #[u, .bool (spB N xs n a b)] ∧ H = [.own u 3 1 (spR N xs n a b).length (ints (spR N xs n a b))]) := by
  refine enter (n := 35) (args := [.agg #[.int .i64 N, va], .int .i64 a, .int .i64 b]) Try.func17 rfl rfl (St.empty _ _) ?_
  refine Run.seq ?_
  refine Run.region ?_
  refine Run.step rfl (OpStep.box (us := [.int .i64 N, va]) rfl fun b1 => ?_)
  refine Run.q (v := .slice none 0 0) rfl (OpQ.y (OpY.pure rfl)) ?_
  refine Run.q (v := .bool false) rfl (OpQ.y (OpY.pure rfl)) ?_
  refine Run.done ?_
  refine Run.seq ?_
  refine Run.seq ?_
  refine Run.region ?_
  refine Run.q (v := .agg #[.int .i64 N, va]) rfl (OpQ.y (OpY.loadN (cs := [.int .i64 N, va]) Tagg_25 rfl (Cells.blk (.head _) ⟨rfl, rfl, trivial⟩))) ?_
  refine Run.q (v := .bool (cgOk N xs n)) rfl (OpQ.call (vs := [.agg #[.int .i64 N, va]]) (caps := []) Tcall_14 rfl rfl (fun w hs => IsValidCouplingGraph_spec (hs.sl ha))) ?_
  refine Run.q (v := .bool (!(cgOk N xs n))) rfl (OpQ.y (OpY.pure rfl)) ?_
  rcases Bool.eq_false_or_eq_true (!(cgOk N xs n)) with h12 | h12
  · refine Run.q (v := .bool true) rfl (OpQ.y (OpY.moveB rfl h12)) ?_
    have p12 := h12; try simp only [decide_eq_true_eq, decide_eq_false_iff_not, beq_iff_eq, bne_iff_ne, beq_eq_false_iff_ne, ne_eq, gt_iff_lt, ge_iff_le, Int.not_lt, Int.not_le, bne_eq_false_iff_eq, Bool.not_eq_true', Bool.not_eq_false', Bool.and_eq_true, Bool.and_eq_false_iff, Bool.or_eq_true, Bool.or_eq_false_iff, Decidable.not_not, List.cons.injEq, and_true] at p12
    refine Run.pass rfl ?_
    refine Run.pass rfl ?_
    refine Run.pass rfl ?_
    refine Run.pass rfl ?_
    refine Run.pass rfl ?_
    refine Run.pass rfl ?_
    refine Run.q (v := .bool true) rfl (OpQ.y (OpY.pure rfl)) ?_
    refine Run.q (v := .bool true) rfl (OpQ.y (OpY.pure rfl)) ?_
    refine Run.pass rfl ?_
    refine Run.pass rfl ?_
    refine Run.pass rfl ?_
    refine Run.pass rfl ?_
    refine Run.pass rfl ?_
    refine Run.pass rfl ?_
    refine Run.q (v := .bool true) rfl (OpQ.y (OpY.pure rfl)) ?_
    refine Run.done ?_
    refine Run.cond (b := true) rfl (fun _ => ?_) (fun h => nomatch h)
    refine Run.seq ?_
    have hok : spOk N xs n a b = false := by simp_all [spOk]
    have hr : spR N xs n a b = [] := by rw [spR, hok]; rfl
    have hb : spB N xs n a b = false := by rw [spB, hok]; rfl
    refine Run.region ?_
    refine Run.q (v := .slice none 0 0) rfl (OpQ.y (OpY.pure rfl)) ?_
    refine Run.q (v := .bool false) rfl (OpQ.y (OpY.pure rfl)) ?_
    refine Run.done ?_
    refine Run.ret ?_
    refine ⟨.tuple #[.slice none 0 0, .bool false], [.own (.slice none 0 0) 3 1 ((spR N xs n a b).length) (ints (spR N xs n a b))], Out.two rfl rfl rfl, ((Weak.nilOwn 3 1).trans (Some'.weak (.takeEq (by first | rfl | (rw [hr]; done) | (rw [hr]; rfl)) (.nil _)))), ?_⟩
    exact ⟨_, by rw [hr]; simp, by rw [hb], rfl⟩
  · refine Run.q (v := .bool false) rfl (OpQ.y (OpY.moveB rfl h12)) ?_
    have p12 := h12; try simp only [decide_eq_true_eq, decide_eq_false_iff_not, beq_iff_eq, bne_iff_ne, beq_eq_false_iff_ne, ne_eq, gt_iff_lt, ge_iff_le, Int.not_lt, Int.not_le, bne_eq_false_iff_eq, Bool.not_eq_true', Bool.not_eq_false', Bool.and_eq_true, Bool.and_eq_false_iff, Bool.or_eq_true, Bool.or_eq_false_iff, Decidable.not_not, List.cons.injEq, and_true] at p12
    have hcg : cgOk N xs n = true := by simpa using p12
    have hcN := cgOk_N hcg
    refine Run.q (v := .int .i64 a) rfl (OpQ.y (OpY.pure rfl)) ?_
    refine Run.q (v := .pointer (some ⟨b1, 0, none⟩)) rfl (OpQ.y (OpY.fieldAddr Tfo_25_0 rfl rfl)) ?_
    refine Run.q (v := .int .i64 N) rfl (OpQ.y (OpY.load1 Tone_3 rfl (Cells.blk (.head _) ⟨rfl, trivial⟩))) ?_
    refine Run.q (v := .int .i64 (N - 1)) rfl (OpQ.y (OpY.sub rfl rfl rfl (by omega) (by omega))) ?_
    refine Run.q (v := .bool (within a 0 (N - 1))) rfl (OpQ.call (vs := [.int .i64 a, .int .i64 0, .int .i64 (N - 1)]) (caps := []) Tcall_39 rfl rfl (fun w hs => within_spec _ _ _ w)) ?_
    refine Run.q (v := .bool (!(within a 0 (N - 1)))) rfl (OpQ.y (OpY.pure rfl)) ?_
    refine Run.q (v := .bool (!(within a 0 (N - 1)))) rfl (OpQ.y (OpY.pure rfl)) ?_
    rcases Bool.eq_false_or_eq_true (!(within a 0 (N - 1))) with h20 | h20
    · refine Run.q (v := .bool true) rfl (OpQ.y (OpY.moveB rfl h20)) ?_
      have p20 := h20; try simp only [decide_eq_true_eq, decide_eq_false_iff_not, beq_iff_eq, bne_iff_ne, beq_eq_false_iff_ne, ne_eq, gt_iff_lt, ge_iff_le, Int.not_lt, Int.not_le, bne_eq_false_iff_eq, Bool.not_eq_true', Bool.not_eq_false', Bool.and_eq_true, Bool.and_eq_false_iff, Bool.or_eq_true, Bool.or_eq_false_iff, Decidable.not_not, List.cons.injEq, and_true] at p20
      refine Run.pass rfl ?_
      refine Run.pass rfl ?_
      refine Run.pass rfl ?_
      refine Run.pass rfl ?_
      refine Run.pass rfl ?_
      refine Run.pass rfl ?_
      refine Run.q (v := .bool true) rfl (OpQ.y (OpY.pure rfl)) ?_
      refine Run.done ?_
      refine Run.cond (b := true) rfl (fun _ => ?_) (fun h => nomatch h)
      refine Run.seq ?_
      have hok : spOk N xs n a b = false := by simp_all [spOk]
      have hr : spR N xs n a b = [] := by rw [spR, hok]; rfl
      have hb : spB N xs n a b = false := by rw [spB, hok]; rfl
      refine Run.region ?_
      refine Run.q (v := .slice none 0 0) rfl (OpQ.y (OpY.pure rfl)) ?_
      refine Run.q (v := .bool false) rfl (OpQ.y (OpY.pure rfl)) ?_
      refine Run.done ?_
      refine Run.ret ?_
      refine ⟨.tuple #[.slice none 0 0, .bool false], [.own (.slice none 0 0) 3 1 ((spR N xs n a b).length) (ints (spR N xs n a b))], Out.two rfl rfl rfl, ((Weak.nilOwn 3 1).trans (Some'.weak (.takeEq (by first | rfl | (rw [hr]; done) | (rw [hr]; rfl)) (.nil _)))), ?_⟩
      exact ⟨_, by rw [hr]; simp, by rw [hb], rfl⟩
    · refine Run.q (v := .bool false) rfl (OpQ.y (OpY.moveB rfl h20)) ?_
      have p20 := h20; try simp only [decide_eq_true_eq, decide_eq_false_iff_not, beq_iff_eq, bne_iff_ne, beq_eq_false_iff_ne, ne_eq, gt_iff_lt, ge_iff_le, Int.not_lt, Int.not_le, bne_eq_false_iff_eq, Bool.not_eq_true', Bool.not_eq_false', Bool.and_eq_true, Bool.and_eq_false_iff, Bool.or_eq_true, Bool.or_eq_false_iff, Decidable.not_not, List.cons.injEq, and_true] at p20
      refine Run.q (v := .int .i64 b) rfl (OpQ.y (OpY.pure rfl)) ?_
      refine Run.q (v := .pointer (some ⟨b1, 0, none⟩)) rfl (OpQ.y (OpY.fieldAddr Tfo_25_0 rfl rfl)) ?_
      refine Run.q (v := .int .i64 N) rfl (OpQ.y (OpY.load1 Tone_3 rfl (Cells.blk (.head _) ⟨rfl, trivial⟩))) ?_
      refine Run.q (v := .int .i64 (N - 1)) rfl (OpQ.y (OpY.sub rfl rfl rfl (by omega) (by omega))) ?_
      refine Run.q (v := .bool (within b 0 (N - 1))) rfl (OpQ.call (vs := [.int .i64 b, .int .i64 0, .int .i64 (N - 1)]) (caps := []) Tcall_39 rfl rfl (fun w hs => within_spec _ _ _ w)) ?_
      refine Run.q (v := .bool (!(within b 0 (N - 1)))) rfl (OpQ.y (OpY.pure rfl)) ?_
      refine Run.q (v := .bool (!(within b 0 (N - 1)))) rfl (OpQ.y (OpY.pure rfl)) ?_
      refine Run.done ?_
      refine Run.cond (b := !(within b 0 (N - 1))) rfl (fun h27 => ?_) (fun h27 => ?_)
      · have p27 := h27; try simp only [decide_eq_true_eq, decide_eq_false_iff_not, beq_iff_eq, bne_iff_ne, beq_eq_false_iff_ne, ne_eq, gt_iff_lt, ge_iff_le, Int.not_lt, Int.not_le, bne_eq_false_iff_eq, Bool.not_eq_true', Bool.not_eq_false', Bool.and_eq_true, Bool.and_eq_false_iff, Bool.or_eq_true, Bool.or_eq_false_iff, Decidable.not_not, List.cons.injEq, and_true] at p27
        refine Run.seq ?_
        have hok : spOk N xs n a b = false := by simp_all [spOk]
        have hr : spR N xs n a b = [] := by rw [spR, hok]; rfl
        have hb : spB N xs n a b = false := by rw [spB, hok]; rfl
        refine Run.region ?_
        refine Run.q (v := .slice none 0 0) rfl (OpQ.y (OpY.pure rfl)) ?_
        refine Run.q (v := .bool false) rfl (OpQ.y (OpY.pure rfl)) ?_
        refine Run.done ?_
        refine Run.ret ?_
        refine ⟨.tuple #[.slice none 0 0, .bool false], [.own (.slice none 0 0) 3 1 ((spR N xs n a b).length) (ints (spR N xs n a b))], Out.two rfl rfl rfl, ((Weak.nilOwn 3 1).trans (Some'.weak (.takeEq (by first | rfl | (rw [hr]; done) | (rw [hr]; rfl)) (.nil _)))), ?_⟩
        exact ⟨_, by rw [hr]; simp, by rw [hb], rfl⟩
      · have p27 := h27; try simp only [decide_eq_true_eq, decide_eq_false_iff_not, beq_iff_eq, bne_iff_ne, beq_eq_false_iff_ne, ne_eq, gt_iff_lt, ge_iff_le, Int.not_lt, Int.not_le, bne_eq_false_iff_eq, Bool.not_eq_true', Bool.not_eq_false', Bool.and_eq_true, Bool.and_eq_false_iff, Bool.or_eq_true, Bool.or_eq_false_iff, Decidable.not_not, List.cons.injEq, and_true] at p27
        refine Run.skip ?_
        refine Run.seq ?_
        have hok : spOk N xs n a b = true := by simp_all [spOk]
        have hw1 : within a 0 (N - 1) = true := by simp_all [spOk]
        have hw2 : within b 0 (N - 1) = true := by simp_all [spOk]
        have hi1 := within_iff.1 hw1
        have hi2 := within_iff.1 hw2
        have hr : spR N xs n a b = spL N.toNat xs n (distL xs n N.toNat b.toNat) a := by rw [spR, if_pos hok]
        refine Run.region ?_
        refine Run.q (v := .agg #[.int .i64 N, va]) rfl (OpQ.y (OpY.loadN (cs := [.int .i64 N, va]) Tagg_25 rfl (Cells.blk (.head _) ⟨rfl, rfl, trivial⟩))) ?_
        refine Run.q (v := .int .i64 a) rfl (OpQ.y (OpY.pure rfl)) ?_
        refine Run.q (v := .int .i64 b) rfl (OpQ.y (OpY.pure rfl)) ?_
        refine Run.step rfl (OpStep.call (vs := [.agg #[.int .i64 N, va], .int .i64 a, .int .i64 b]) (caps := []) Tcall_48 rfl rfl (fun w hs => path_spec hcN ⟨hi1.1, by omega⟩ ⟨hi2.1, by omega⟩ (cgOk_edges hcg) (hs.sl ha)) ?_)
        rintro u _ ⟨hnil, hl8, rfl⟩
        show Run _ _ (putF _ _ _ u) [.own u 3 1 ((spL N.toNat xs n (distL xs n N.toNat b.toNat) a).length) (ints (spL N.toNat xs n (distL xs n N.toNat b.toNat) a)), .blk b1 25 [.int .i64 N, va]]
        refine Run.q (v := u) rfl (OpQ.y (OpY.pure rfl)) ?_
        refine Run.done ?_
        refine Run.seq ?_
        refine Run.region ?_
        refine Run.q (v := u) rfl (OpQ.y (OpY.pure rfl)) ?_
        refine Run.q (v := u) rfl (OpQ.y (OpY.pure rfl)) ?_
        refine Run.q (v := .bool (!isNilSl u)) rfl (OpQ.y (OpY.neqNilOwn Tsl_34 rfl rfl (.head _))) ?_
        refine Run.q (v := u) rfl (OpQ.y (OpY.pure rfl)) ?_
        refine Run.q (v := .bool (!isNilSl u)) rfl (OpQ.y (OpY.pure rfl)) ?_
        refine Run.done ?_
        refine Run.ret ?_
        refine ⟨.tuple #[u, .bool (!isNilSl u)], [.own u 3 1 ((spR N xs n a b).length) (ints (spR N xs n a b))], Out.two rfl rfl rfl, (Some'.weak (.takeEq (by first | rfl | (rw [hr]; done) | (rw [hr]; rfl)) (.nil _))), ?_⟩
        have hb : spB N xs n a b = !negA (distL xs n N.toNat b.toNat) a.toNat := by rw [spB, hok]; rfl
        exact ⟨_, by rw [hr]; exact hl8, by rw [hb, hnil], rfl⟩

end Go.Proofs.Ytgghmjijjdboeaa
