/- Library functions at wires: compareWires, slices.SortFunc, slices.Delete. -/
import Derived.Test.YtnnkoeknejeieaaShelf
import Derived.Test.YtnnkoeknejeieaaZda
import Derived.Test.YtnnkoeknejeieaaProg
import Derived.Lib.Walk
import Derived.Lib.Small
import Derived.Deep.RegionLaw
import Derived.Deep.QuietTactic
import Derived.BigQuiet
import Derived.Lib.SlicesDelete
import Derived.StillTailTactics
import Derived.Sort.Grow
set_option linter.unusedSimpArgs false
set_option linter.unusedVariables false
namespace Go.Proofs.Ytnnkoeknejeieaa
open Go Go.RowKit

open Go.Sort Go.Shelf Go.Lib
theorem nan_k (x : Int) (w : World) : Calls Try.prog 92 #[.int .i64 x] w fun e w' => e = .returned (.bool false) ∧ w' = w := by
  go_enter Try.func92, Try.ntmps92
  go_wp2
  go_ret
  exact ⟨by simp, rfl⟩
set_option maxHeartbeats 1000000 in
theorem cmp_k (x y : Int) (w : World) : Calls Try.prog 79 #[.int .i64 x, .int .i64 y] w fun e w' => e = .returned (.int .i64 (Lib.compareInt x y)) ∧ w' = w := by
  go_enter Try.func79, Try.ntmps79
  go_wp2_with (go_at_call 92; refine (nan_k _ _).mono ?_; rintro e w' ⟨rfl, hw⟩; rw [hw])
  all_goals (go_ret; refine ⟨?_, rfl⟩; unfold Lib.compareInt; (repeat' split) <;> first | rfl | (exfalso; omega))
/-- The first of two numbers that is not 0. -/
def or2 (a b : Int) : Int := if a = 0 then b else a
set_option maxHeartbeats 1000000 in
theorem or_k (a b : Int) (B : Nat) (w : World) (h0 : w.cell? ⟨B, 0, none⟩ = some (.int .i64 a)) (h1 : w.cell? ⟨B, 1, none⟩ = some (.int .i64 b)) :
    Calls Try.prog 78 #[.slice (some ⟨B, 0, none⟩) 2 2] w fun e w' => e = .returned (.int .i64 (or2 a b)) ∧ w' = w := by
  go_enter Try.func78, Try.ntmps78
  go_wp2
  go_loop [8] (fun i => ∃ k : Nat, k ≤ 2 ∧ i = .int .i64 k ∧ (1 ≤ k → a = 0) ∧ (k = 2 → b = 0)) (fun i => 2 - (intOf i).toNat)
  case atStart => exact ⟨0, by omega, rfl, by omega, by omega⟩
  case round =>
    obtain ⟨k, hk, rfl, hA, hB⟩ := hrel
    by_cases hk2 : k = 2
    · subst hk2
      have ha := hA (by omega)
      have hb := hB rfl
      go_wp2
      go_ret
      exact ⟨by simp [or2, ha, hb], rfl⟩
    · by_cases hk0 : k = 0
      · subst hk0
        by_cases ha : a = 0
        · go_wp2
          go_round
          case rel => exact ⟨1, by omega, by go_num, fun _ => ha, by omega⟩
          case measure => simp [intOf]
        · go_wp2
          go_ret
          exact ⟨by simp [or2, ha], rfl⟩
      · obtain rfl : k = 1 := by omega
        have ha := hA (by omega)
        by_cases hb : b = 0
        · go_wp2
          go_round
          case rel => exact ⟨2, by omega, by go_num, fun _ => ha, fun _ => hb⟩
          case measure => simp [intOf]
        · go_wp2
          go_ret
          exact ⟨by simp [or2, ha], rfl⟩
theorem cell_al3 (w : World) (a b : Obj) (c : Array Value) (t : TypeId) (i : Nat) : (((w.alloc a).alloc b).alloc (.cells c t (0, 0))).cell? ⟨w.heap.size + 1 + 1, i, none⟩ = c[i]? := by
  have h := World.cell?_alloc_new ((w.alloc a).alloc b) c t i
  simpa using h
def cwW (x y : W3) : Int := or2 (Lib.compareInt x.1 y.1) (Lib.compareInt x.2.1 y.2.1)
set_option maxRecDepth 1000000 in
set_option maxHeartbeats 4000000 in
theorem cw_k (x y : W3) (w : World) : Calls Try.prog 62 #[.agg #[.int .i64 x.1, .int .i64 x.2.1, .bool x.2.2], .agg #[.int .i64 y.1, .int .i64 y.2.1, .bool y.2.2]] w fun e w' => e = .returned (.int .i64 (cwW x y)) ∧ ∃ q os', w' = grow (w.drewN q) os' := by
  obtain ⟨x1, x2, x3⟩ := x
  obtain ⟨y1, y2, y3⟩ := y
  show Calls _ _ #[.agg #[.int .i64 x1, .int .i64 x2, .bool x3], .agg #[.int .i64 y1, .int .i64 y2, .bool y3]] _ (fun e w' => e = .returned (.int .i64 (or2 (Lib.compareInt x1 y1) (Lib.compareInt x2 y2))) ∧ _)
  have c1 := fun W => cmp_k x1 y1 W
  have c2 := fun W => cmp_k x2 y2 W
  generalize Lib.compareInt x1 y1 = r1 at c1 ⊢
  generalize Lib.compareInt x2 y2 = r2 at c2 ⊢
  have C1 : Aside (∀ W, Calls Try.prog 79 #[.int .i64 x1, .int .i64 y1] W fun e w' => e = .returned (.int .i64 r1) ∧ w' = W) := c1
  have C2 : Aside (∀ W, Calls Try.prog 79 #[.int .i64 x2, .int .i64 y2] W fun e w' => e = .returned (.int .i64 r2) ∧ w' = W) := c2
  clear c1 c2
  go_enter Try.func62, Try.ntmps62
  go_wp2
  refine wp_region_still_tail 10 (by kernel_rfl) (by kernel_rfl) ?_
  simp only [List.take_succ_cons, List.take_zero, List.drop_succ_cons, List.drop_zero, World.drew_eq]
  still_step
  still_step
  still_step
  still_step
  still_call (C1.out _)
  still_step
  still_step
  still_step
  still_step
  still_call (C2.out _)
  refine wpStill_nil ?_
  go_wp2_with (go_at_call 78; refine (or_k r1 r2 _ _ (by simp; exact cell_al3 _ _ _ _ _ _) (by simp; exact cell_al3 _ _ _ _ _ _)).mono ?_; rintro e w' ⟨rfl, rfl⟩)

  go_ret
  exact ⟨rfl, 1, _, by rw [alloc_eq_grow, alloc_eq_grow, alloc_eq_grow, grow_grow, grow_grow]; rfl⟩

theorem ltW (x y : W3) : ltOf cwW x y = wlt x y := by
  obtain ⟨x1, x2, x3⟩ := x
  obtain ⟨y1, y2, y3⟩ := y
  simp only [ltOf, cwW, or2, Lib.compareInt, wlt]
  by_cases h1 : x1 < y1
  · simp [h1]
  · by_cases h2 : y1 < x1
    · simp [h1, h2]; omega
    · obtain rfl : x1 = y1 := by omega
      by_cases h3 : x2 < y2
      · simp [h3]
      · by_cases h4 : y2 < x2 <;> simp [h3, h4]
theorem swoW : SWO (ltOf cwW) where
  irrefl x := by rw [ltW]; exact wlt_irrefl x
  trans x y z h1 h2 := by rw [ltW] at *; exact wlt_trans h1 h2
  ntrans x y z h1 h2 := by rw [ltW] at *; rw [wlt_no] at *; omega
/-- A slice that the call owns, in another world: its block is of the same kind, and its first cells are known. -/
theorem own_again {w w' : World} {g cap n m : Nat} {e : TypeId} {size : Nat} {xs ys : List Value} (h : w.ownsRow 0 e size (.slice (some ⟨g, 0, none⟩) n cap) n xs) (hm : m ≤ n)
    (hb : ∀ cur, w.heap[g]? = some (.cells cur e (0, 0)) → ∃ cur', w'.heap[g]? = some (.cells cur' e (0, 0)) ∧ cur'.size = cur.size) (hl : ys.length = m * size)
    (hc : ∀ j, j < m * size → w'.cell? ⟨g, j, none⟩ = ys[j]?) : w'.ownsRow 0 e size (.slice (some ⟨g, 0, none⟩) m cap) m ys := by
  refine ⟨hl, ?_⟩
  rcases h.2 with ⟨hv, _⟩ | ⟨g', cap', cur, hv, h0, hg, h3, h4, h5, h6⟩
  · cases hv
  · injection hv with hv1 hv2 hv3
    injection hv1 with hv1
    injection hv1 with hv1
    subst hv1; subst hv3
    obtain ⟨cur', hg', hs'⟩ := hb cur hg
    refine .inr ⟨g, cap, cur', rfl, h0, hg', Nat.le_trans hm h3, h4, hs'.trans h5, ?_⟩
    have hle : m * size ≤ cap * size := Nat.mul_le_mul_right _ (Nat.le_trans hm h3)
    apply List.ext_getElem?
    intro j
    by_cases hj : j < m * size
    · rw [List.getElem?_take, if_pos hj, Array.getElem?_toList]
      have := hc j hj
      rw [cell_of_row w' g j cur' e (0, 0) hg'] at this
      exact this
    · rw [List.getElem?_eq_none (by simp; omega), List.getElem?_eq_none (by omega)]
theorem flatK_get (L : List W3) {t : Nat} (ht : t < L.length * 3) : (wls L)[t]? = some (flatK wle 3 L.toArray)[t]! := by
  rw [get_flatK wle 3 L.toArray t (by simpa using ht)]
  have h3 : t / 3 < L.length := by omega
  have e : L.toArray[t / 3]! = wx L (t / 3) := by simp [wx, List.getD, h3]
  rw [e]
  obtain ⟨a, b, c⟩ := wls_get h3
  rcases (by omega : t % 3 = 0 ∨ t % 3 = 1 ∨ t % 3 = 2) with h | h | h <;> rw [h]
  · rw [show t / 3 * 3 = t by omega] at a; exact a
  · rw [show t / 3 * 3 + 1 = t by omega] at b; exact b
  · rw [show t / 3 * 3 + 2 = t by omega] at c; exact c
theorem holdsW {w : World} {g cap n : Nat} {e : TypeId} {L : List W3} (h : w.ownsRow 0 e 3 (.slice (some ⟨g, 0, none⟩) n cap) n (wls L)) (hn : L.length = n) : HoldsK wle 3 w g 0 L.toArray := by
  intro j hj
  rw [size_flatK, List.size_toArray] at hj
  rw [Nat.zero_add]
  exact ⟨(h.cellAt j (by omega)).trans (flatK_get L hj), h.frozenAt j⟩
theorem sort_k {g cap n : Nat} {L : List W3} {w : World} (hl : L.length = n) (hn : n < 4611686018427387904) (h : (Res.own (.slice (some ⟨g, 0, none⟩) n cap) 71 3 n (wls L)).holds w) :
    Calls Try.prog 61 #[.slice (some ⟨g, 0, none⟩) n cap, .func (.func 62) #[] #[]] w (Post (Of [.own (.slice (some ⟨g, 0, none⟩) n cap) 71 3 n (wls L)]) w fun v H => ∃ M : List W3, L.Perm M ∧ (M.Pairwise fun x y => wlt y x = false) ∧ v = .tuple #[] ∧ H = [.own (.slice (some ⟨g, 0, none⟩) n cap) 71 3 n (wls M)]) := by
  have hw : w.ownsRow 0 71 3 (.slice (some ⟨g, 0, none⟩) n cap) n (wls L) := h
  have hg : g < w.heap.size := (World.ownsRow.lt hw g rfl).2
  have eg : ∀ args w, (callFunc 62 args).run Try.prog w = .ok (.enter 62 args) w := enters_of Try.func62 (by kernel_rfl) rfl
  have hcon := Try.slices_SortFunc 3 Try.isAgg71 Try.sizeOf71 wle (fun _ => rfl) (fun x v hv => by simp only [wle, List.mem_cons, List.not_mem_nil, or_false] at hv; rcases hv with rfl | rfl | rfl <;> rfl) cwW swoW 62 #[] g 0 cap L.toArray w eg (fun _ _ _ _ x y => cw_k x y _) (holdsW hw hl) hg (by simpa [hl] using hn)
  have hsz : L.toArray.size = n := by simpa using hl
  rw [hsz] at hcon
  refine hcon.mono ?_
  rintro e w' ⟨rfl, d', q, os, ⟨hp1, _, hp3⟩, hs, rfl⟩
  have hd : d'.size = n := hp1.trans hsz
  have e1 : (L.toArray.extract 0 n).toList = L := by simp [← hl]
  have e2 : (d'.extract 0 n).toList = d'.toList := by simp [← hd]
  rw [e1, e2] at hp3
  have hHd : HoldsK wle 3 (sortWorldK wle 3 w g 0 q d' os) g 0 d' := holdsK_sortWorldK_c wle 3 w g 0 L.toArray d' q os (holdsW hw hl) hg hp1
  refine ⟨_, [.own (.slice (some ⟨g, 0, none⟩) n cap) 71 3 n (wls d'.toList)], rfl, ⟨rfl, rfl, rfl, size_sortWorldK_c wle 3 w g 0 q d' os, ?_, ?_, ?_, by simp⟩, d'.toList, hp3.symm, ?_, rfl, rfl⟩
  · intro k hk hnk
    have hne : g ≠ k := fun e => hnk ⟨_, List.Mem.head _, by simp [Res.has, Value.ownBlock, e]⟩
    show ((putRowK wle 3 (Sort.ahead w q) g 0 d').heap ++ os)[k]? = _
    rw [Array.getElem?_append_left (by rw [size_putRowK]; exact hk)]
    show (w.heap.modify g _)[k]? = _
    rw [Array.getElem?_modify, if_neg hne]
  · intro r hr
    simp only [List.mem_singleton] at hr; subst hr
    refine own_again hw (Nat.le_refl n) (fun cur hcur => ?_) (by rw [wls_length]; simp [hd]) (fun j hj => ?_)
    · refine ⟨putCells id 0 (flatK wle 3 d') cur, ?_, by simp [putCells]⟩
      show ((putRowK wle 3 (Sort.ahead w q) g 0 d').heap ++ os)[g]? = _
      rw [Array.getElem?_append_left (by rw [size_putRowK]; exact hg)]
      show (w.heap.modify g _)[g]? = _
      rw [Array.getElem?_modify, if_pos rfl, hcur]; rfl
    · have h1 := (hHd j (by rw [size_flatK, hd]; exact hj)).1
      rw [Nat.zero_add] at h1
      have h2 := flatK_get d'.toList (t := j) (by simp [hd]; omega)
      rw [h1, h2]; rfl
  · intro r hr k hk _
    simp only [List.mem_singleton] at hr; subst hr
    exact ⟨_, List.Mem.head _, hk⟩
  · rw [List.pairwise_iff_getElem]
    intro i j hi hj hij
    have h1 := hs i j (Nat.zero_le _) hij (by simpa [hd] using hj)
    rw [ltW] at h1
    have hi' : i < d'.size := by simpa using hi
    have hj' : j < d'.size := by simpa using hj
    rw [getElem!_pos d' i hi', getElem!_pos d' j hj'] at h1
    simpa using h1
theorem clear_w {P : Program} (w : World) (t e ty : TypeId) (ht : P.underlying t = some (.slice e)) (hv : ∀ w, (zeroValue e).run P w = .ok (.agg #[.int .i64 0, .int .i64 0, .bool false]) w) (b o c : Nat)
    (hc : ∀ j, j < 3 → (w.cell? ⟨b, o + j, none⟩).isSome = true) (hf : ∀ j, j < 3 → w.frozen? ⟨b, o + j, none⟩ = false) :
    (Builtin.clear_ #[t] ty #[.slice (some ⟨b, o, none⟩) 1 c]).run P w = .ok (.tuple #[]) (w.setCells b o [.int .i64 0, .int .i64 0, .bool false]) := by
  have hst := run_storeCells_cells (P := P) b o [.int .i64 0, .int .i64 0, .bool false] 0 w (by simpa using hc) (by simpa using hf) (by intro v hv'; simp at hv'; rcases hv' with rfl | rfl <;> rfl)
  simp only [Nat.add_zero] at hst
  have hz : (Builtin.zeroCells (Value.agg #[.int .i64 0, .int .i64 0, .bool false]).cells 1).toList = [.int .i64 0, .int .i64 0, .bool false] := by kernel_rfl
  simp [Builtin.clear_, run_underlying ht, hv, hz, hst]
set_option maxHeartbeats 4000000 in
set_option maxRecDepth 1000000 in
theorem del_k {g cap n i : Nat} {L : List W3} {w : World} (hl : L.length = n) (hi : i < n) (h : (Res.own (.slice (some ⟨g, 0, none⟩) n cap) 71 3 n (wls L)).holds w) :
    Calls Try.prog 75 #[.slice (some ⟨g, 0, none⟩) n cap, .int .i64 i, .int .i64 (i + 1 : Nat)] w fun e w' => e = .returned (.slice (some ⟨g, 0, none⟩) (i + (n - (i + 1))) cap) ∧ w' = (w.drew.setCells g (i * 3) (wls (L.drop (i + 1)))).setCells g ((i + (n - (i + 1))) * 3) [.int .i64 0, .int .i64 0, .bool false] := by
  have hw : w.ownsRow 0 71 3 (.slice (some ⟨g, 0, none⟩) n cap) n (wls L) := h
  obtain ⟨hcap, hm⟩ : n ≤ cap ∧ cap ≤ 9223372036854775807 := by
    rcases hw.2 with ⟨hv, _⟩ | ⟨g', cap', cur, hv, h0, hg, h3, h4, h5, h6⟩
    · cases hv
    · injection hv with hv1 hv2 hv3
      subst hv3; exact ⟨h3, h4⟩
  obtain ⟨news, hnews⟩ : ∃ news, news = wls (L.drop (i + 1)) := ⟨_, rfl⟩
  have hlen : news.length = (n - (i + 1)) * 3 := by rw [hnews, wls_length, List.length_drop, hl]
  have hcell : ∀ W : World, (∀ j, j < n * 3 → W.cell? ⟨g, j, none⟩ = (wls L)[j]?) → ∀ t u, news[t]? = some u → W.cell? ⟨g, (i + 1) * 3 + t, none⟩ = some u := by
    intro W hW t u hu
    have ht : t < (n - (i + 1)) * 3 := by
      have := (List.getElem?_eq_some_iff.1 hu).1
      rwa [hlen] at this
    rw [hW _ (by omega), ← hu, hnews, ← wls_drop, List.getElem?_drop]
  obtain ⟨A, hA, hsrc⟩ : ∃ A : Addr, (if cap = i + 1 then some (⟨g, 0, none⟩ : Addr) else some ⟨g, (i + 1) * 3, none⟩) = some A ∧ Hid (∀ t u, news[t]? = some u → w.drew.cell? (A.add t) = some u) := by
    by_cases h : cap = i + 1
    · refine ⟨⟨g, 0, none⟩, by simp [h], fun t u hu => ?_⟩
      have h0 : news.length = 0 := by rw [hlen]; omega
      rw [List.length_eq_zero_iff.1 h0] at hu
      simp at hu
    · refine ⟨⟨g, (i + 1) * 3, none⟩, by simp [h], fun t u hu => ?_⟩
      rw [Addr.add_lit]
      exact hcell w (fun j hj => hw.cellAt j hj) t u hu
  have s1 : Hid (news.length = (n - (i + 1)) * 3) := hlen
  have s2 : Hid (∀ u ∈ news, u.oneCell' = true) := by
    intro u hu
    rw [hnews] at hu
    exact wls_all _ u hu
  have s3 : Hid (∀ t, t < news.length → (w.drew.cell? ⟨g, 0 + i * 3 + t, none⟩).isSome = true ∧ w.drew.frozen? ⟨g, 0 + i * 3 + t, none⟩ = false) := by
    intro t ht
    rw [hlen] at ht
    rw [Nat.zero_add]
    refine ⟨?_, hw.frozenAt _⟩
    show (w.cell? _).isSome = true
    rw [hw.cellAt _ (by omega), List.getElem?_eq_getElem (by rw [wls_length]; omega)]; rfl
  obtain ⟨W1, hW1⟩ : ∃ W1, W1 = w.drew.setCells g (0 + i * 3) news := ⟨_, rfl⟩
  have hS : St (Of [.own (.slice (some ⟨g, 0, none⟩) n cap) 71 3 n (wls L)]) w W1 [.own (.slice (some ⟨g, 0, none⟩) n cap) 71 3 n (spl (wls L) (0 + i * 3) news)] := by
    rw [hW1]
    exact St.setCellsOwn news _ _ _ (St.start1 h).drew
  have hw1 : W1.ownsRow 0 71 3 (.slice (some ⟨g, 0, none⟩) n cap) n (spl (wls L) (0 + i * 3) news) := hS.holds _ (.head _)
  obtain ⟨m, hm1⟩ : ∃ m, i + (n - (i + 1)) = m := ⟨_, rfl⟩
  have hmn : m + 1 = n := by omega
  have hcl : ∀ ty, (Builtin.clear_ #[27] ty #[.slice (some ⟨g, m * 3, none⟩) 1 (cap - m)]).run Try.prog W1 = .ok (.tuple #[]) (W1.setCells g (m * 3) [.int .i64 0, .int .i64 0, .bool false]) :=
    fun ty => clear_w W1 27 71 ty Try.underlying27 Try.zeroValue71 g (m * 3) _ (fun j hj => by
      rw [hw1.cellAt _ (by omega), List.getElem?_eq_getElem (by rw [spl_length, wls_length]; omega)]; rfl) (fun j hj => hw1.frozenAt _)
  have hW : Hid (W1 = w.drew.setCells g (0 + i * 3) news) := hW1
  have hN : Hid (news = wls (L.drop (i + 1))) := hnews
  have hic : i ≤ cap := by omega
  have hjc : i + 1 ≤ cap := by omega
  have hin : i + 1 ≤ n := by omega
  clear hW1 hnews hS hw1 hcell hw h hlen
  obtain ⟨i0, hi0, hz1⟩ : ∃ i0, Try.prog.info? 71 = some i0 ∧ i0.size = 3 := by
    have h : (Try.prog.info? 71).map (·.size) = some 3 := by kernel_rfl
    obtain ⟨i0, h0, h1⟩ := Option.map_eq_some_iff.1 h
    exact ⟨i0, h0, h1⟩
  have hp0 : (0 : Int) ≤ (i : Int) + 1 := by omega
  have hp1 : (i : Int) + 1 ≤ (n : Int) := by omega
  have hp2 : ((i : Int) + 1).toNat = i + 1 := by omega
  have hnm : n - m = 1 := by omega
  have hcm : ¬ cap = m := by omega
  have hml : m ≤ n := by omega
  go_enter Try.func75, Try.ntmps75
  go_wp2_with fail
  go_region_law (refine step_append_room rfl (.tmp 22) (.tmp 25) 27 rfl 71 i0 3 Try.underlying27 hi0 hz1 g 0 i cap (by simp [Act.eval, Act.put]) A (n - (i + 1)) (cap - (i + 1)) news (by simp [Act.eval, Act.put]) s1.out hsrc.out s2.out (by omega) s3.out ?_; rw [← hW.out])
  go_wp2
  go_ret
  refine ⟨by rw [hm1]; rfl, ?_⟩
  rw [hm1, hW.out, ← hN.out, Nat.zero_add]

theorem spl_two {xs ys : List Value} {a b : Nat} (hab : a + ys.length = b) (hb : b ≤ xs.length) (zs : List Value) (hz : b + zs.length ≤ xs.length) : ((spl (spl xs a ys) b zs).take b) = xs.take a ++ ys := by
  have h1 : ∀ (us : List Value) (cs : List Value) (o : Nat), o + us.length ≤ cs.length → (spl cs o us).take (o + us.length) = cs.take o ++ us := by
    intro us
    induction us with
    | nil => intro cs o _; simp [spl]
    | cons u us ih =>
      intro cs o ho
      simp only [List.length_cons] at ho
      rw [spl, List.length_cons, show o + (us.length + 1) = o + 1 + us.length by omega, ih _ _ (by simp; omega), List.take_succ_eq_append_getElem (by simp; omega)]
      simp [List.take_set_of_le (Nat.le_refl o)]
  have h2 : ∀ (us : List Value) (cs : List Value) (o : Nat), (spl cs o us).take o = cs.take o := by
    intro us
    induction us with
    | nil => intro cs o; rfl
    | cons u us ih =>
      intro cs o
      have := congrArg (List.take o) (ih (cs.set o u) (o + 1))
      rw [List.take_take, List.take_take, Nat.min_eq_left (Nat.le_succ o)] at this
      rw [spl, this, List.take_set_of_le (Nat.le_refl o)]
  rw [h2, ← hab, h1 _ _ _ (by omega)]
theorem delete_k {g cap n i : Nat} {L : List W3} {w : World} (hl : L.length = n) (hi : i < n) (h : (Res.own (.slice (some ⟨g, 0, none⟩) n cap) 71 3 n (wls L)).holds w) :
    Calls Try.prog 75 #[.slice (some ⟨g, 0, none⟩) n cap, .int .i64 i, .int .i64 (i + 1 : Nat)] w (Post (Of [.own (.slice (some ⟨g, 0, none⟩) n cap) 71 3 n (wls L)]) w fun v H => v = .slice (some ⟨g, 0, none⟩) (n - 1) cap ∧ H = [.own (.slice (some ⟨g, 0, none⟩) (n - 1) cap) 71 3 (n - 1) (wls (L.eraseIdx i))]) := by
  refine (del_k hl hi h).mono ?_
  rintro e w' ⟨rfl, rfl⟩
  obtain ⟨m, hm⟩ : ∃ m, i + (n - (i + 1)) = m := ⟨_, rfl⟩
  have hmn : n - 1 = m := by omega
  rw [hm, hmn]
  have h1 := St.setCellsOwn (wls (L.drop (i + 1))) (i * 3) _ _ (St.start1 h).drew
  have h2 := St.setCellsOwn [.int .i64 0, .int .i64 0, .bool false] (m * 3) _ _ h1
  have h3 := Weak.ownTake (m := m) (by omega) _ _ _ h2
  have h4 := spl_two (xs := wls L) (ys := wls (L.drop (i + 1))) (a := i * 3) (b := m * 3) (by rw [wls_length, List.length_drop]; omega) (by rw [wls_length]; omega) [.int .i64 0, .int .i64 0, .bool false] (by rw [wls_length]; simp; omega)
  have h5 := wls_erase (L := L) (i := i) (by omega)
  rw [wls_drop] at h5
  rw [h4, h5] at h3
  exact ⟨_, _, rfl, h3, rfl, rfl⟩
/-- A wire that is not there yet is appended, and the wires are sorted: it lies at its place. -/
theorem sortIns_k {g cap n : Nat} {L : List W3} {x : W3} {w : World} (hl : L.length + 1 = n) (hn : n < 4611686018427387904) (hs : WSrt L) (hx : ∀ y ∈ L, ¬ (y.1 = x.1 ∧ y.2.1 = x.2.1)) (h : (Res.own (.slice (some ⟨g, 0, none⟩) n cap) 71 3 n (wls (L ++ [x]))).holds w) :
    Calls Try.prog 61 #[.slice (some ⟨g, 0, none⟩) n cap, .func (.func 62) #[] #[]] w (Post (Of [.own (.slice (some ⟨g, 0, none⟩) n cap) 71 3 n (wls (L ++ [x]))]) w fun v H => v = .tuple #[] ∧ H = [.own (.slice (some ⟨g, 0, none⟩) n cap) 71 3 n (wls (insW L x))]) := by
  refine (sort_k (by simpa using hl) hn h).mono ?_
  rintro e w' ⟨v, H, rfl, h1, M, hp, ho, rfl, rfl⟩
  have e : insW L x = M := srt_unique ((insW_perm L x).trans ((List.perm_append_singleton x L).symm.trans hp)) (insW_srt hs hx) ho
  rw [← e] at h1
  exact ⟨_, _, rfl, h1, rfl, rfl⟩

end Go.Proofs.Ytnnkoeknejeieaa
