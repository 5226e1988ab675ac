/- Plain laws: the queue of the search for linear maps. -/
import Derived.Test.YteehfidjofcfmaaN2
import Derived.Test.YteehfidjofcfmaaProg
import Derived.Test.YteehfidjofcfmaaN1
set_option linter.unusedSimpArgs false
set_option linter.unusedVariables false
namespace Go.Proofs.Yteehfidjofcfmaa
open Go Go.RowKit
/-- An entry: the slice of its gates, its key, its path. -/
abbrev QZ := Value × ((List Nat × Nat) × List Nat)
abbrev sn (zs : List QZ) : List ((List Nat × Nat) × List Nat) := zs.map fun z => z.2
def qcell (z : QZ) : List Value := ints (kc z.2.1.1 z.2.1.2) ++ [z.1]
def qcells (zs : List QZ) : List Value := (zs.map qcell).flatten
def kq (q : List ((List Nat × Nat) × List Nat)) : List Value := q.map fun y => keyV y.1.1 y.1.2
theorem qcell_length (z : QZ) : (qcell z).length = 7 := rfl
theorem qcells_length : ∀ zs : List QZ, (qcells zs).length = zs.length * 7
  | [] => rfl
  | z :: zs => by
    have := qcells_length zs
    simp only [qcells, List.map_cons, List.flatten_cons, List.length_append, List.length_cons, qcell_length] at this ⊢
    omega
theorem qcells_append (zs ys : List QZ) : qcells (zs ++ ys) = qcells zs ++ qcells ys := by simp [qcells]
theorem qcells_snoc (zs : List QZ) (z : QZ) : qcells zs ++ qcell z = qcells (zs ++ [z]) := by simp [qcells]
theorem Pre.of {cs : List Value} : ∀ {xs : List Value} {o : Nat}, (∀ j v, xs[j]? = some v → cs[o + j]? = some v) → Pre cs o xs
  | [], _, _ => trivial
  | x :: xs, o, h => ⟨by simpa using h 0 x rfl, Pre.of fun j v hv => by have := h (j + 1) v (by simpa using hv); rwa [show o + (j + 1) = o + 1 + j by omega] at this⟩
theorem preQ {zs : List QZ} {i : Nat} {z : QZ} (h : zs[i]? = some z) : Pre (qcells zs) (i * 7) (qcell z) := by
  obtain ⟨hi, he⟩ := List.getElem?_eq_some_iff.1 h
  have e : zs = zs.take i ++ z :: zs.drop (i + 1) := by rw [← he, List.getElem_cons_drop, List.take_append_drop]
  refine Pre.of fun j v hv => ?_
  have hj : j < (qcell z).length := (List.getElem?_eq_some_iff.1 hv).1
  have hl : (qcells (zs.take i)).length = i * 7 := by rw [qcells_length, List.length_take, Nat.min_eq_left (by omega)]
  have e2 : qcells zs = qcells (zs.take i) ++ (qcell z ++ qcells (zs.drop (i + 1))) := by
    conv => lhs; rw [e]
    rw [qcells_append]
    simp [qcells]
  rw [e2, List.getElem?_append_right (by omega), hl, show i * 7 + j - i * 7 = j by omega, List.getElem?_append_left hj]
  exact hv
theorem Weak.grpTakeR {H : List Res} {e : TypeId} {size : Nat} {p : Value × Nat × List Value} {A B : List (Value × Nat × List Value)} : Weak (.grp e size (A ++ p :: B) :: H) (.own p.1 e size p.2.1 p.2.2 :: .grp e size (A ++ B) :: H) :=
  (Weak.grpPerm (l' := p :: (A ++ B)) List.perm_middle).trans Weak.grpOut
theorem Weak.grpSnocR {H : List Res} {e : TypeId} {size n : Nat} {v : Value} {xs : List Value} {l : List (Value × Nat × List Value)} : Weak (.own v e size n xs :: .grp e size l :: H) (.grp e size (l ++ [(v, n, xs)]) :: H) :=
  Weak.grpIn.trans (Weak.grpPerm (List.perm_append_singleton _ _).symm)
theorem St.slGrpR {M : Nat → Prop} {w0 w : World} {H : List Res} {e : TypeId} {size : Nat} {l : List (Value × Nat × List Value)} (hs : St M w0 w H) (hm : Res.grp e size l ∈ H) {p : Value × Nat × List Value} (hp : p ∈ l) : Sl w p.1 size p.2.1 p.2.2 := by
  obtain ⟨A, B, rfl⟩ := List.append_of_mem hp
  obtain ⟨H1, H2, rfl⟩ := List.append_of_mem hm
  have h1 := hs.perm (List.perm_middle (a := Res.grp e size (A ++ p :: B)) (l₁ := H1) (l₂ := H2))
  exact (Weak.grpTakeR _ _ _ h1).slOwn (.head _)
theorem Run.formMem {E : Env} {k : List It} {f : Fr} {H : List Res} {e : TypeId} {size : Nat} {l : List (Value × Nat × List Value)} (hm : Res.grp e size l ∈ H) {p : Value × Nat × List Value} (hp : p ∈ l)
    (h : ∀ A c, p.1 = .slice A p.2.1 c → Run E k f H) (hk : ∀ G i k', k ≠ .goal G :: k' ∧ k ≠ .block i :: k' ∧ k ≠ []) : Run E k f H := by
  have key : ∀ w, St E.M E.w0 w H → Run E k f H := by
    intro w hs
    obtain ⟨A, c, he, _, _⟩ := (hs.slGrpR hm hp).form0
    exact h A c he
  match k, hk with
  | [], hk => exact absurd rfl (hk (fun _ _ => True) 0 []).2.2
  | .goal G :: k', hk => exact absurd rfl (hk G 0 k').1
  | .block i :: k', hk => exact absurd rfl (hk (fun _ _ => True) i k').2.1
  | .rounds c n :: k', _ => exact fun a w ha hs => key w hs a w ha hs
  | .ops ops l :: k', _ => exact fun a w ha hs => key w hs a w ha hs
  | .code c :: k', _ => exact fun a w ha hs => key w hs a w ha hs
def qm (n : Nat) (v : Value) (p : List Nat) : Value × Nat × List Value := (v, p.length, ints (flCX (dcw n p)))
def qg (n : Nat) (zs : List QZ) : List (Value × Nat × List Value) := zs.map fun z => qm n z.1 z.2.2
theorem qg_mem {n : Nat} {zs : List QZ} {i : Nat} {v : Value} {k : List Nat × Nat} {p : List Nat} (h : zs[i]? = some (v, (k, p))) : qm n v p ∈ qg n zs := List.mem_map.2 ⟨(v, (k, p)), List.mem_of_getElem? h, rfl⟩
theorem Weak.qgSnoc {H : List Res} {e : TypeId} {n : Nat} {zs : List QZ} {v : Value} {k : List Nat × Nat} {p : List Nat} : Weak (.own v e 3 p.length (ints (flCX (dcw n p))) :: .grp e 3 (qg n zs) :: H) (.grp e 3 (qg n (zs ++ [(v, (k, p))])) :: H) := by
  have h := Weak.grpSnocR (H := H) (e := e) (size := 3) (v := v) (n := p.length) (xs := ints (flCX (dcw n p))) (l := qg n zs)
  have e2 : qg n (zs ++ [(v, (k, p))]) = qg n zs ++ [(v, p.length, ints (flCX (dcw n p)))] := by simp [qg, qm]
  rw [e2]; exact h
def gatI (l : List (Nat × Nat)) (k : Nat) : List Value := [.int .i64 9, .int .i64 ((gat l k).1 : Nat), .int .i64 ((gat l k).2 : Nat)]
theorem flCX_get : ∀ {l : List (Nat × Nat)} {k : Nat}, k < l.length → (flCX l)[k * 3]? = some 9 ∧ (flCX l)[k * 3 + 1]? = some ((gat l k).1 : Int) ∧ (flCX l)[k * 3 + 2]? = some ((gat l k).2 : Int)
  | (a, b) :: l, 0, _ => ⟨rfl, rfl, rfl⟩
  | (a, b) :: l, k + 1, h => by
    have ih := flCX_get (l := l) (k := k) (by simpa using h)
    have e : (k + 1) * 3 = k * 3 + 3 := by omega
    simp only [flCX, e]
    have e2 : gat ((a, b) :: l) (k + 1) = gat l k := by simp [gat]
    rw [e2]
    exact ih
theorem preCX {l : List (Nat × Nat)} {k : Nat} (h : k < l.length) : Pre (ints (flCX l)) (k * 3) (gatI l k) := by
  obtain ⟨h1, h2, h3⟩ := flCX_get h
  exact ⟨by simp [ints, h1], by simp [ints, h2], by simp [ints, h3], trivial⟩
/-- What has appeared among the first q identity rows. -/
def apF (ms : List Int) : Nat → Nat
  | 0 => 0
  | q + 1 => apx (apF ms q) ms ((2 ^ q : Nat) : Int)
theorem findI_bit {p : Nat → Bool} {n : Nat} (h : 0 ≤ findI p n) : (findI p n).toNat < n := by have := findI_ltn h; omega
theorem apx_lt {f k : Nat} {ms : List Int} {x : Int} (hf : f < 2 ^ k) (hm : ms.length ≤ k) : apx f ms x < 2 ^ k := by
  unfold apx
  split
  · rename_i h
    exact Nat.or_lt_two_pow hf (Nat.pow_lt_pow_right (by omega) (by have := findI_bit h; omega))
  · exact hf
theorem apF_lt {ms : List Int} : ∀ q, apF ms q < 2 ^ ms.length
  | 0 => Nat.two_pow_pos _
  | q + 1 => apx_lt (apF_lt q) (Nat.le_refl _)
abbrev mQ (n : Nat) (ms : List Int) (i : Nat) : List ((List Nat × Nat) × List Nat) := bfs (lstep n ms) (lok n) (n * n) (idL n, apF ms n) i
def mK (n : Nat) (ms : List Int) (k : List Nat × Nat) : Prop := k.1.length = n ∧ (∀ j, nx k.1 j < 2 ^ n) ∧ k.2 < 2 ^ ms.length
theorem mK_step {n : Nat} {ms : List Int} {k : List Nat × Nat} (e : Nat) (h : mK n ms k) : mK n ms (lstep n ms k e) := by
  refine ⟨by simp [lstep, cx, h.1], fun j => ?_, apx_lt h.2.2 (Nat.le_refl _)⟩
  simp only [lstep]
  by_cases hj : j < k.1.length
  · rw [nx_cx hj]
    split
    · exact Nat.xor_lt_two_pow (h.2.1 _) (h.2.1 _)
    · exact h.2.1 _
  · rw [nx_ge (by simp [cx]; omega)]; exact Nat.two_pow_pos n
theorem mK_id (n : Nat) (ms : List Int) : mK n ms (idL n, apF ms n) := by
  refine ⟨by simp [idL], fun j => ?_, apF_lt n⟩
  by_cases hj : j < n
  · rw [nx_idL hj]; exact Nat.pow_lt_pow_right (by omega) hj
  · rw [nx_ge (by simp [idL]; omega)]; exact Nat.two_pow_pos n
theorem mQ_key {n i : Nat} {ms : List Int} {y : (List Nat × Nat) × List Nat} (hy : y ∈ mQ n ms i) : mK n ms y.1 :=
  bfs_keys (p := mK n ms) (fun _ e h _ _ => mK_step e h) (mK_id n ms) i y hy
section
variable {K : Type} [DecidableEq K] {step : K → Nat → K} {ok : Nat → Bool} {E : Nat} {s : K}
theorem bfs_succ {i : Nat} {x : K × List Nat} (h : (bfs step ok E s i)[i]? = some x) : bfs step ok E s (i + 1) = brow step ok x (bfs step ok E s i) E := by
  rw [bfs, h]
theorem brow_le (x : K × List Nat) (q : List (K × List Nat)) (e : Nat) : ∀ d, ∃ t, brow step ok x q (e + d) = brow step ok x q e ++ t
  | 0 => ⟨[], by simp⟩
  | d + 1 => by
    obtain ⟨t, ht⟩ := brow_le x q e d
    obtain ⟨u, hu⟩ := bvis_pre (step := step) (ok := ok) x (brow step ok x q (e + d)) (e + d)
    exact ⟨t ++ u, by rw [← Nat.add_assoc, brow, hu, ht, List.append_assoc]⟩
theorem brow_in {i : Nat} {x : K × List Nat} (h : (bfs step ok E s i)[i]? = some x) {e : Nat} (he : e ≤ E) : ∃ t, bfs step ok E s (i + 1) = brow step ok x (bfs step ok E s i) e ++ t := by
  rw [bfs_succ h]
  obtain ⟨t, ht⟩ := brow_le (step := step) (ok := ok) x (bfs step ok E s i) e (E - e)
  rw [show e + (E - e) = E by omega] at ht
  exact ⟨t, ht⟩
/-- A path is not longer than its place. -/
theorem bfs_plen (i : Nat) : ∀ (j : Nat) (y : K × List Nat), (bfs step ok E s i)[j]? = some y → y.2.length ≤ j := by
  have h := bfs_inv (step := step) (ok := ok) (E := E) (s := s) i
  intro j
  induction j using Nat.strongRecOn with
  | _ j ih =>
    intro y hy
    rcases h.form y (List.mem_of_getElem? hy) with h1 | ⟨m, e', z, hz, h1, _⟩
    · rw [h1]; simp
    · have hlt : m < j := by
        refine Nat.lt_of_not_le fun hle => ?_
        have hlt2 : slt z.2 y.2 := by rw [h1]; exact .inl (by simp)
        rcases Nat.lt_or_eq_of_le hle with h2 | h2
        · exact slt_irrefl _ (slt_trans hlt2 (pw_get (R := fun a b : K × List Nat => slt a.2 b.2) h.srt h2 hy hz))
        · subst h2; rw [hy] at hz; cases hz; exact slt_irrefl _ hlt2
      have := ih m hlt z hz
      rw [h1]; simp; omega
end
theorem mK_can {n : Nat} {ms : List Int} (hn : n ≤ 5) (hm : ms.length ≤ 7) {k : List Nat × Nat} (h : mK n ms k) : Keyable Try.prog 108 (keyV k.1 k.2) := by
  refine keyV_can (fun i => Nat.lt_of_lt_of_le (h.2.1 i) ?_) (Nat.lt_of_lt_of_le h.2.2 ?_)
  · exact Nat.le_trans (Nat.pow_le_pow_right (by omega) hn) (by decide)
  · exact Nat.le_trans (Nat.pow_le_pow_right (by omega) hm) (by decide)
theorem kq_can {n : Nat} {ms : List Int} (hn : n ≤ 5) (hm : ms.length ≤ 7) {q : List ((List Nat × Nat) × List Nat)} (h : ∀ y ∈ q, mK n ms y.1) : ∀ u ∈ kq q, Keyable Try.prog 108 u := by
  intro u hu
  obtain ⟨y, hy, rfl⟩ := List.mem_map.1 hu
  exact mK_can hn hm (h y hy)
theorem kq_mem {n : Nat} {ms : List Int} (hn : n ≤ 5) {q : List ((List Nat × Nat) × List Nat)} (h : ∀ y ∈ q, mK n ms y.1) {k : List Nat × Nat} (hk : mK n ms k) : keyV k.1 k.2 ∈ kq q ↔ k ∈ q.map (·.1) := by
  constructor
  · intro hu
    obtain ⟨y, hy, he⟩ := List.mem_map.1 hu
    obtain ⟨h1, h2⟩ := keyV_inj ((h y hy).1.trans hk.1.symm) (by rw [(h y hy).1]; exact hn) he
    exact List.mem_map.2 ⟨y, hy, Prod.ext h1 (Int.ofNat_inj.1 h2)⟩
  · intro hu
    obtain ⟨y, hy, rfl⟩ := List.mem_map.1 hu
    exact List.mem_map.2 ⟨y, hy, rfl⟩

end Go.Proofs.Yteehfidjofcfmaa
/- The walk of the search for linear maps. -/
set_option linter.unusedSimpArgs false
set_option linter.unusedVariables false
namespace Go.Proofs.Yteehfidjofcfmaa
open Go Go.RowKit
namespace ShoT
theorem Tagg_108 : aggOf Try.prog 108 = some 6 := by kernel_rfl
theorem Tagg_113 : aggOf Try.prog 113 = some 7 := by kernel_rfl
theorem Tagg_28 : aggOf Try.prog 28 = some 1 := by kernel_rfl
theorem Tagg_71 : aggOf Try.prog 71 = some 3 := by kernel_rfl
theorem Tarr_106 : arrayOf Try.prog 106 = some (5, 1) := by kernel_rfl
theorem Tcall_67 : callable Try.prog 67 = true := by kernel_rfl
theorem Tcall_93 : callable Try.prog 93 = true := by kernel_rfl
theorem Tcall_94 : callable Try.prog 94 = true := by kernel_rfl
theorem Tcall_95 : callable Try.prog 95 = true := by kernel_rfl
theorem Tcall_96 : callable Try.prog 96 = true := by kernel_rfl
theorem Tfo_108_0 : fieldOff Try.prog 108 0 = some 0 := by kernel_rfl
theorem Tfo_108_1 : fieldOff Try.prog 108 1 = some 5 := by kernel_rfl
theorem Tfo_113_0 : fieldOff Try.prog 113 0 = some 0 := by kernel_rfl
theorem Tfo_113_1 : fieldOff Try.prog 113 1 = some 6 := by kernel_rfl
theorem Tfo_28_0 : fieldOff Try.prog 28 0 = some 0 := by kernel_rfl
theorem Tfo_71_1 : fieldOff Try.prog 71 1 = some 1 := by kernel_rfl
theorem Tfo_71_2 : fieldOff Try.prog 71 2 = some 2 := by kernel_rfl
theorem Tmapof_111 : mapOfT Try.prog 111 = some (108, 4) := by kernel_rfl
theorem Tone_22 : oneOf Try.prog 22 = true := by kernel_rfl
theorem Tone_3 : oneOf Try.prog 3 = true := by kernel_rfl
theorem Tone_36 : oneOf Try.prog 36 = true := by kernel_rfl
theorem Tsize_108 : (Try.prog.info? 108).map (·.size) = some 6 := by kernel_rfl
theorem Tsize_113 : (Try.prog.info? 113).map (·.size) = some 7 := by kernel_rfl
theorem Tsize_3 : (Try.prog.info? 3).map (·.size) = some 1 := by kernel_rfl
theorem Tsize_71 : (Try.prog.info? 71).map (·.size) = some 3 := by kernel_rfl
theorem Tsl_114 : sliceOf Try.prog 114 = some (113, 7, 72, [.int .i64 0, .int .i64 0, .int .i64 0, .int .i64 0, .int .i64 0, .int .i64 0, .slice none 0 0]) := by kernel_rfl
theorem Tsl_22 : sliceOf Try.prog 22 = some (3, 1, 8, [.int .i64 0]) := by kernel_rfl
theorem Tsl_36 : sliceOf Try.prog 36 = some (71, 3, 24, [.int .i64 0, .int .i64 0, .int .i64 0]) := by kernel_rfl
theorem Tzero_108 : zeroOf Try.prog 108 = some [.int .i64 0, .int .i64 0, .int .i64 0, .int .i64 0, .int .i64 0, .int .i64 0] := by kernel_rfl
theorem Tzero_113 : zeroOf Try.prog 113 = some [.int .i64 0, .int .i64 0, .int .i64 0, .int .i64 0, .int .i64 0, .int .i64 0, .slice none 0 0] := by kernel_rfl
theorem Tzero_71 : zeroOf Try.prog 71 = some [.int .i64 0, .int .i64 0, .int .i64 0] := by kernel_rfl
end ShoT
open ShoT
theorem pre_kc {l : List Nat} {f b : Nat} (hb : b < 5) : Pre (ints (kc l f)) b [.int .i64 (nx l b : Nat)] := by
  have h : Pre (ints (kc l f)) b [.int .i64 (ix (kc l f) b)] := pre1 (by show b < 6; omega)
  rwa [ix_kc hb] at h
theorem kc_length (l : List Nat) (f : Nat) : (kc l f).length = 6 := rfl

set_option maxHeartbeats 4000000 in
set_option maxRecDepth 20000 in
theorem shortest_spec {va vm : Value} {n : Nat} {m : List Nat} {ms : List Int} {w : World} (h0 : 0 < n) (h5 : n ≤ 5) (hl : m.length = n) (hmb : ∀ j, nx m j < 2 ^ n) (hm7 : ms.length ≤ 7) (hM : ∀ i, (mQ n ms i).length ≤ 1000000) (hgoal : ∀ i, (mQ n ms i).length ≤ i → (m, 2 ^ ms.length - 1) ∈ (mQ n ms i).map (·.1)) (ha : Sl w va 1 n (ints (nl m))) (hms : Sl w vm 1 ms.length (ints ms)) : Calls Try.prog 53 #[.agg #[va], vm] w (Post No w fun v H => ∃ p i, ((m, 2 ^ ms.length - 1), p) ∈ mQ n ms i ∧ H = [.own v 71 3 p.length (ints (flCX (dcw n p)))]) := by
 obtain ⟨Av, cv, rfl, hnc, _⟩ := ha.form0
 obtain ⟨Am, cm, rfl, hmc, _⟩ := hms.form0
 obtain ⟨q0, hq0⟩ : ∃ q : Nat, q = 2 ^ ms.length := ⟨_, rfl⟩
 have hq0b : q0 ≤ 128 := by rw [hq0]; exact Nat.le_trans (Nat.pow_le_pow_right (by omega) hm7) (by decide)
 have hq1 : 1 ≤ q0 := by rw [hq0]; exact Nat.two_pow_pos _
 obtain ⟨gq, hgq⟩ : ∃ q : Nat, q = q0 - 1 := ⟨_, rfl⟩
 have hgq2 : 2 ^ ms.length - 1 = gq := by rw [hgq, hq0]
 rw [hgq2] at hgoal ⊢
 have hkm : mK n ms (m, gq) := ⟨hl, hmb, by rw [← hq0]; show gq < q0; omega⟩
 have h25 : n * n ≤ 25 := Nat.le_trans (Nat.mul_le_mul h5 h5) (by omega)
 refine enter (n := 113) (args := [.agg #[.slice Av n cv], .slice Am (ms.length) cm]) Try.func53 rfl rfl (St.empty _ _) ?_
 refine Run.sr ?_
 refine Run.step rfl (OpStep.box (us := [.slice Av n cv]) rfl fun b1 => ?_)
 refine Run.p (.slice none 0 0) rfl rfl ?_
 refine Run.dsr ?_
 refine Run.y (.pointer (some ⟨b1, 0, none⟩)) rfl (OpY.fieldAddr Tfo_28_0 rfl rfl) ?_
 refine Run.y (.slice Av n cv) rfl (OpY.load1 Tone_22 rfl (Cells.blk (.head _) ⟨rfl, trivial⟩)) ?_
 refine Run.y (.int .i64 (((n : Nat) : Int))) rfl (OpY.len Tsl_22 rfl) ?_
 refine Run.p (.int .i64 (((n : Nat) : Int))) rfl rfl ?_
 refine Run.dsr ?_
 refine Run.y (.agg #[.slice Av n cv]) rfl (OpY.loadN (cs := [.slice Av n cv]) Tagg_28 rfl (Cells.blk (.head _) ⟨rfl, trivial⟩)) ?_
 refine Run.q (v := .agg #[.int .i64 (((nx m 0 : Nat) : Int)), .int .i64 (((nx m 1 : Nat) : Int)), .int .i64 (((nx m 2 : Nat) : Int)), .int .i64 (((nx m 3 : Nat) : Int)), .int .i64 (((nx m 4 : Nat) : Int)), .int .i64 0]) rfl (OpQ.call (vs := [.agg #[.slice Av n cv]]) (caps := []) Tcall_93 rfl rfl (fun w hs => (by have h := key_spec (l := m) (va := .slice Av n cv) (by omega) (by omega) (by rw [hl]; exact hs.sl ha); exact h))) ?_
 refine Run.p (.int .i64 (((n : Nat) : Int))) rfl rfl ?_
 refine Run.step rfl (OpStep.call (vs := [.int .i64 (((n : Nat) : Int))]) (caps := []) Tcall_67 rfl rfl (fun w hs => identityLinear_spec h5 w) ?_)
 rintro _ _ ⟨uI, rfl, rfl⟩
 show Run _ _ (putF _ _ _ (.agg #[uI])) [.own uI 3 1 n (ints (nl (idL n))), .blk b1 28 [.slice Av n cv]]
 have hidl : (idL n).length = n := idL_length n
 refine Run.q (v := .agg #[.int .i64 (((nx (idL n) 0 : Nat) : Int)), .int .i64 (((nx (idL n) 1 : Nat) : Int)), .int .i64 (((nx (idL n) 2 : Nat) : Int)), .int .i64 (((nx (idL n) 3 : Nat) : Int)), .int .i64 (((nx (idL n) 4 : Nat) : Int)), .int .i64 0]) rfl (OpQ.call (vs := [.agg #[uI]]) (caps := []) Tcall_93 rfl rfl (fun w hs => (by have h := key_spec (l := idL n) (by simp [idL]; omega) (by simp [idL]; omega) (by rw [idL_length]; exact (hs.slOwn (.head _))); exact h))) ?_
 refine Run.step rfl (OpStep.alloc (zs := [.int .i64 0, .int .i64 0, .int .i64 0, .int .i64 0, .int .i64 0, .int .i64 0]) Tzero_108 fun b2 => ?_)
 refine Run.step rfl (OpStep.alloc (zs := [.int .i64 0, .int .i64 0, .int .i64 0, .int .i64 0, .int .i64 0, .int .i64 0]) Tzero_108 fun b3 => ?_)
 refine Run.step rfl (OpStep.storeAll (us := [.int .i64 (((nx m 0 : Nat) : Int)), .int .i64 (((nx m 1 : Nat) : Int)), .int .i64 (((nx m 2 : Nat) : Int)), .int .i64 (((nx m 3 : Nat) : Int)), .int .i64 (((nx m 4 : Nat) : Int)), .int .i64 0]) Tsize_108 rfl rfl rfl (.there _ (.here _)) rfl ?_)
 refine Run.step rfl (OpStep.storeAll (us := [.int .i64 (((nx (idL n) 0 : Nat) : Int)), .int .i64 (((nx (idL n) 1 : Nat) : Int)), .int .i64 (((nx (idL n) 2 : Nat) : Int)), .int .i64 (((nx (idL n) 3 : Nat) : Int)), .int .i64 (((nx (idL n) 4 : Nat) : Int)), .int .i64 0]) Tsize_108 rfl rfl rfl (.here _) rfl ?_)
 refine Run.dsr ?_
 refine Run.p (.slice Am (ms.length) cm) rfl rfl ?_
 refine Run.y (.int .i64 (((ms.length : Nat) : Int))) rfl (OpY.len Tsl_22 rfl) ?_
 refine Run.y (.int .i64 (((q0 : Nat) : Int))) rfl (OpY.shlOne rfl rfl rfl (by omega) hq0) ?_
 refine Run.y (.int .i64 (((gq : Nat) : Int))) rfl (OpY.sub rfl rfl (by omega) (by omega) (by omega)) ?_
 refine Run.y (.pointer (some ⟨b2, 5, none⟩)) rfl (OpY.fieldAddr Tfo_108_1 rfl rfl) ?_
 refine Run.step rfl (OpStep.store (us := [.int .i64 (((gq : Nat) : Int))]) Tsize_3 rfl rfl rfl (.there _ (.here _)) (by simp only [List.length_cons, List.length_nil]; omega) ?_)
 show Run _ _ _ [.blk b3 108 [.int .i64 (((nx (idL n) 0 : Nat) : Int)), .int .i64 (((nx (idL n) 1 : Nat) : Int)), .int .i64 (((nx (idL n) 2 : Nat) : Int)), .int .i64 (((nx (idL n) 3 : Nat) : Int)), .int .i64 (((nx (idL n) 4 : Nat) : Int)), .int .i64 0], .blk b2 108 [.int .i64 (((nx m 0 : Nat) : Int)), .int .i64 (((nx m 1 : Nat) : Int)), .int .i64 (((nx m 2 : Nat) : Int)), .int .i64 (((nx m 3 : Nat) : Int)), .int .i64 (((nx m 4 : Nat) : Int)), .int .i64 (((gq : Nat) : Int))], .own uI 3 1 n (ints (nl (idL n))), .blk b1 28 [.slice Av n cv]]
 refine Run.done ?_
 refine Run.seq ?_
 refine Run.seq ?_
 show Run _ _ _ [.blk b3 108 [.int .i64 (((nx (idL n) 0 : Nat) : Int)), .int .i64 (((nx (idL n) 1 : Nat) : Int)), .int .i64 (((nx (idL n) 2 : Nat) : Int)), .int .i64 (((nx (idL n) 3 : Nat) : Int)), .int .i64 (((nx (idL n) 4 : Nat) : Int)), .int .i64 0], .blk b2 108 (ints (kc m gq)), .own uI 3 1 n (ints (nl (idL n))), .blk b1 28 [.slice Av n cv]]
 show Run _ _ _ [.blk b3 108 (ints (kc (idL n) 0)), .blk b2 108 (ints (kc m gq)), .own uI 3 1 n (ints (nl (idL n))), .blk b1 28 [.slice Av n cv]]
 refine Run.region ?_
 refine Run.p (.int .i64 (((n : Nat) : Int))) rfl rfl ?_
 refine Run.p (.int .i64 0) rfl rfl ?_
 refine Run.done ?_
 refine Run.block ?_
 refine Run.loop (ι := Nat) [8, 30, 31, 32, 33, 34, 35, 36, 37, 38, 39, 40] (fun qi => [(30, .int .i64 (((qi : Nat) : Int)))]) (fun qi => [.blk b3 108 (ints (kc (idL n) (apF ms qi))), .blk b2 108 (ints (kc m gq)), .own uI 3 1 n (ints (nl (idL n))), .blk b1 28 [.slice Av n cv]]) (fun qi => qi ≤ n) (fun qi => n - qi) 0 ?_ ?_ ?_ ?_
 ·exact Nat.zero_le _
 ·exact ⟨rfl, trivial⟩
 ·exact (Some'.weak (.takeEq (by first | rfl | (rw [apF, hqq]) | simp) (.take (.take (.take (.nil _))))))
 ·rintro qi fr hinv
  show Run _ _ (over _ _ [(30, .int .i64 (((qi : Nat) : Int)))] fr) [.blk b3 108 (ints (kc (idL n) (apF ms qi))), .blk b2 108 (ints (kc m gq)), .own uI 3 1 n (ints (nl (idL n))), .blk b1 28 [.slice Av n cv]]
  try dsimp only at hinv
  refine Run.sr ?_
  refine Run.p (.bool (decide ((((qi : Nat) : Int)) < (((n : Nat) : Int))))) rfl rfl ?_
  refine Run.done ?_
  refine Run.seq ?_
  refine Run.cond (b := decide ((((qi : Nat) : Int)) < (((n : Nat) : Int)))) rfl (fun h31 => ?_) (fun h31 => ?_)
  ·have p31 := h31; try simp only [bs] at p31
   have hlq : qi < n := by omega
   obtain ⟨qq, hqq⟩ : ∃ q : Nat, q = 2 ^ qi := ⟨_, rfl⟩
   refine Run.skip ?_
   refine Run.seq ?_
   refine Run.block ?_
   refine Run.sr ?_
   refine Run.p (.int .i64 (((qi : Nat) : Int))) rfl rfl ?_
   refine Run.p (.int .i64 (((qi : Nat) : Int))) rfl rfl ?_
   refine Run.done ?_
   refine Run.lastlyB [7] [.blk b3 108 (ints (kc (idL n) (apF ms qi))), .blk b2 108 (ints (kc m gq)), .own uI 3 1 n (ints (nl (idL n))), .blk b1 28 [.slice Av n cv]] (by kernel_rfl) ?_
   refine DL.takeP (i := 0) (v := .pointer (some ⟨b3, 5, none⟩)) rfl (by kernel_rfl) (by kernel_rfl) (by kernel_rfl) (fun _ _ _ h => h) rfl (fun _ => OpY.fieldAddr Tfo_108_1 rfl rfl) ?_
   refine DL.take (i := 1) (v := .int .i64 (((apF ms qi : Nat) : Int))) rfl (by kernel_rfl) (by kernel_rfl) (by kernel_rfl) (by kernel_rfl) (fun _ _ _ h => h) (Some'.weak (.take (.take (.take (.take (.nil _)))))) rfl (OpY.load1 Tone_3 rfl (Cells.blk (.head _) ⟨rfl, trivial⟩)) ?_
   refine DL.takeP (i := 2) (v := .slice Am (ms.length) cm) rfl (by kernel_rfl) (by kernel_rfl) (by kernel_rfl) (fun _ _ _ h => h) rfl (fun _ => OpY.pure rfl) ?_
   refine DL.takeP (i := 3) (v := .int .i64 (((qi : Nat) : Int))) rfl (by kernel_rfl) (by kernel_rfl) (by kernel_rfl) (fun _ _ _ h => h) rfl (fun _ => OpY.pure rfl) ?_
   refine DL.takeP (i := 4) (v := .int .i64 (((qq : Nat) : Int))) rfl (by kernel_rfl) (by kernel_rfl) (by kernel_rfl) (fun _ _ _ h => h) rfl (fun _ => OpY.shlOne rfl rfl rfl (by omega) hqq) ?_
   refine DL.stepS (i := 5) (by kernel_rfl) rfl rfl (OpStep.q (v := .int .i64 (((apx (apF ms qi) ms ((qq : Nat) : Int) : Nat) : Int))) (OpQ.call (vs := [.int .i64 (((apF ms qi : Nat) : Int)), .slice Am (ms.length) cm, .int .i64 (((qq : Nat) : Int))]) (caps := []) Tcall_94 rfl rfl (fun w hs => appeared_spec (f := apF ms qi) (by have := apF_lt (ms := ms) qi; rw [← hq0] at this; omega) (by omega) (hs.sl hms))) ?_)
   refine ⟨(Some'.weak (.take (.take (.take (.take (.nil _)))))), ?_⟩
   refine DL.takeP (i := 6) (v := .pointer (some ⟨b3, 5, none⟩)) rfl (by kernel_rfl) (by kernel_rfl) (by kernel_rfl) (fun _ _ _ h => h) rfl (fun _ => OpY.fieldAddr Tfo_108_1 rfl rfl) ?_
   refine DL.step (i := 7) (by kernel_rfl) (by kernel_rfl) rfl rfl (OpStep.storeInts (o := 5) (a := ((apx (apF ms qi) ms ((qq : Nat) : Int) : Nat) : Int)) Tsize_3 rfl rfl (.here _) (by first | omega | (simp only [kc_length, List.length_set]; omega)) ?_)
   refine DL.done (by kernel_rfl) ?_
   refine Run.blockEnd ?_
   rw [kc_found]
   refine Run.region ?_
   refine Run.y (.int .i64 ((((qi : Nat) : Int)) + 1)) rfl (OpY.add rfl rfl rfl (by omega) (by omega)) ?_
   refine Run.p (.int .i64 ((((qi : Nat) : Int)) + 1)) rfl rfl ?_
   refine Run.done ?_
   refine Run.goal ⟨(by repeat (first | exact Same.refl _ _ | refine Same.put rfl ?_ | refine Same.over rfl rfl ?_)), qi + 1, ?_, ?_, ?_, ?_⟩
   ·exact hlq
   ·omega
   ·exact ⟨(by first | rfl | (congr 1; omega) | simp), trivial⟩
   ·exact (Some'.weak (.takeEq (by first | rfl | (rw [apF, hqq]) | simp) (.takeEq (by first | rfl | (rw [apF, hqq]) | simp) (.takeEq (by first | rfl | (rw [apF, hqq]) | simp) (.takeEq (by first | rfl | (rw [apF, hqq]) | simp) (.nil _))))))
  ·have p31 := h31; try simp only [bs] at p31
   have hqn : n = qi := by omega
   subst hqn
   refine Run.exit rfl ?_
   refine Run.seq ?_
   refine Run.cut (ι := Nat × Value) [9, 10, 41, 42, 43, 44, 45, 46] (fun ⟨bm, vq⟩ => [(9, .map (some bm)), (10, vq)]) (fun ⟨bm, vq⟩ => [.own vq 113 7 (([((Value.slice none 0 0, ((idL n, apF ms n), [])) : QZ)]).length) (qcells ([((Value.slice none 0 0, ((idL n, apF ms n), [])) : QZ)])), .grp 71 3 (qg n ([((Value.slice none 0 0, ((idL n, apF ms n), [])) : QZ)])), .mp bm (setKv (kq [((idL n, apF ms n), [])])), .blk b3 108 (ints (kc (idL n) (apF ms n))), .blk b2 108 (ints (kc m gq)), .blk b1 28 [.slice Av n cv]]) (fun ⟨bm, vq⟩ => True) ?_ ?_
   ·refine Run.weak (H' := [.grp 71 3 (gl ([])), .blk b3 108 (ints (kc (idL n) (apF ms n))), .blk b2 108 (ints (kc m gq)), .own uI 3 1 n (ints (nl (idL n))), .blk b1 28 [.slice Av n cv]]) (Weak.grpNil _ _) ?_ ⟨_, _, rfl, fun _ => nofun, fun _ => nofun⟩
    refine Run.weak (H' := [.own (.slice none 0 0) 71 3 0 ([]), .grp 71 3 (gl ([])), .blk b3 108 (ints (kc (idL n) (apF ms n))), .blk b2 108 (ints (kc m gq)), .own uI 3 1 n (ints (nl (idL n))), .blk b1 28 [.slice Av n cv]]) (Weak.nilOwn _ _) ?_ ⟨_, _, rfl, fun _ => nofun, fun _ => nofun⟩
    refine Run.weak (H' := [.grp 71 3 (qg n [((Value.slice none 0 0, ((idL n, apF ms n), [])) : QZ)]), .blk b3 108 (ints (kc (idL n) (apF ms n))), .blk b2 108 (ints (kc m gq)), .own uI 3 1 n (ints (nl (idL n))), .blk b1 28 [.slice Av n cv]]) ((Weak.refl _).trans (Weak.qgSnoc (zs := []) (p := []) (k := (idL n, apF ms n)))) ?_ ⟨_, _, rfl, fun _ => nofun, fun _ => nofun⟩
    refine Run.held (by kernel_rfl) ?_
    refine DW.take (i := 1) (v := .agg #[.int .i64 (((nx (idL n) 0 : Nat) : Int)), .int .i64 (((nx (idL n) 1 : Nat) : Int)), .int .i64 (((nx (idL n) 2 : Nat) : Int)), .int .i64 (((nx (idL n) 3 : Nat) : Int)), .int .i64 (((nx (idL n) 4 : Nat) : Int)), .int .i64 (((apF ms n : Nat) : Int))]) rfl (by kernel_rfl) (by kernel_rfl) (by kernel_rfl) (fun _ _ _ h => h) (Weak.refl _) rfl (OpY.loadN (cs := [.int .i64 (((nx (idL n) 0 : Nat) : Int)), .int .i64 (((nx (idL n) 1 : Nat) : Int)), .int .i64 (((nx (idL n) 2 : Nat) : Int)), .int .i64 (((nx (idL n) 3 : Nat) : Int)), .int .i64 (((nx (idL n) 4 : Nat) : Int)), .int .i64 (((apF ms n : Nat) : Int))]) Tagg_108 rfl (Cells.blk (.tail _ (List.Mem.head _)) ⟨rfl, rfl, rfl, rfl, rfl, rfl, trivial⟩)) ?_
    refine DW.take (i := 4) (v := .agg #[.int .i64 (((nx (idL n) 0 : Nat) : Int)), .int .i64 (((nx (idL n) 1 : Nat) : Int)), .int .i64 (((nx (idL n) 2 : Nat) : Int)), .int .i64 (((nx (idL n) 3 : Nat) : Int)), .int .i64 (((nx (idL n) 4 : Nat) : Int)), .int .i64 (((apF ms n : Nat) : Int))]) rfl (by kernel_rfl) (by kernel_rfl) (by kernel_rfl) (fun _ _ _ h => h) (Weak.refl _) rfl (OpY.loadN (cs := [.int .i64 (((nx (idL n) 0 : Nat) : Int)), .int .i64 (((nx (idL n) 1 : Nat) : Int)), .int .i64 (((nx (idL n) 2 : Nat) : Int)), .int .i64 (((nx (idL n) 3 : Nat) : Int)), .int .i64 (((nx (idL n) 4 : Nat) : Int)), .int .i64 (((apF ms n : Nat) : Int))]) Tagg_108 rfl (Cells.blk (.tail _ (List.Mem.head _)) ⟨rfl, rfl, rfl, rfl, rfl, rfl, trivial⟩)) ?_
    refine DW.take (i := 5) (v := .agg #[.int .i64 (((nx (idL n) 0 : Nat) : Int)), .int .i64 (((nx (idL n) 1 : Nat) : Int)), .int .i64 (((nx (idL n) 2 : Nat) : Int)), .int .i64 (((nx (idL n) 3 : Nat) : Int)), .int .i64 (((nx (idL n) 4 : Nat) : Int)), .int .i64 (((apF ms n : Nat) : Int)), .slice none 0 0]) rfl (by kernel_rfl) (by kernel_rfl) (by kernel_rfl) (fun _ _ _ h => h) (Weak.refl _) rfl (OpY.build (cs := [.int .i64 (((nx (idL n) 0 : Nat) : Int)), .int .i64 (((nx (idL n) 1 : Nat) : Int)), .int .i64 (((nx (idL n) 2 : Nat) : Int)), .int .i64 (((nx (idL n) 3 : Nat) : Int)), .int .i64 (((nx (idL n) 4 : Nat) : Int)), .int .i64 (((apF ms n : Nat) : Int)), .slice none 0 0]) (by kernel_rfl)) ?_
    refine DW.two (i := 0) (j := 6) (by kernel_rfl) rfl rfl rfl rfl ?_ ?_
    ·refine OpStep.makeMap fun b4 => ?_
     refine ⟨(Some'.weak (.skip (.take (.take (.take (.take (.take (.nil _)))))))), ?_⟩
     refine DW.two (i := 2) (j := 6) (by kernel_rfl) rfl rfl rfl rfl ?_ ?_
     ·refine OpStep.insertLit (ks := []) (key := .agg #[.int .i64 (((nx (idL n) 0 : Nat) : Int)), .int .i64 (((nx (idL n) 1 : Nat) : Int)), .int .i64 (((nx (idL n) 2 : Nat) : Int)), .int .i64 (((nx (idL n) 3 : Nat) : Int)), .int .i64 (((nx (idL n) 4 : Nat) : Int)), .int .i64 (((apF ms n : Nat) : Int))]) Tmapof_111 kl_law rfl rfl rfl (by rw [show ([]) ++ [.agg #[.int .i64 (((nx (idL n) 0 : Nat) : Int)), .int .i64 (((nx (idL n) 1 : Nat) : Int)), .int .i64 (((nx (idL n) 2 : Nat) : Int)), .int .i64 (((nx (idL n) 3 : Nat) : Int)), .int .i64 (((nx (idL n) 4 : Nat) : Int)), .int .i64 (((apF ms n : Nat) : Int))]] = kq [((idL n, apF ms n), [])] from by rfl]; exact (.here _)) (by simp) (mK_can (k := (idL n, apF ms n)) h5 hm7 (mK_id n ms)) (by simp) ?_
      refine ⟨(Some'.weak (.skip (.take (.take (.take (.take (.take (.nil _)))))))), ?_⟩
      refine DW.take (i := 3) (v := .map (some b4)) rfl (by kernel_rfl) (by kernel_rfl) (by kernel_rfl) (fun _ _ _ h => h) (Some'.weak (.skip (.take (.take (.take (.take (.take (.nil _)))))))) rfl (OpY.pure rfl) ?_
      refine DW.take (i := 7) (v := .map (some b4)) rfl (by kernel_rfl) (by kernel_rfl) (by kernel_rfl) (fun _ _ _ h => h) (Some'.weak (.skip (.take (.take (.take (.take (.take (.nil _)))))))) rfl (OpY.pure rfl) ?_
      refine DW.step (i := 6) (by kernel_rfl) rfl rfl (OpStep.buildSlice (us := [.int .i64 (((nx (idL n) 0 : Nat) : Int)), .int .i64 (((nx (idL n) 1 : Nat) : Int)), .int .i64 (((nx (idL n) 2 : Nat) : Int)), .int .i64 (((nx (idL n) 3 : Nat) : Int)), .int .i64 (((nx (idL n) 4 : Nat) : Int)), .int .i64 (((apF ms n : Nat) : Int)), .slice none 0 0]) Tsl_114 (by decide) (by decide) ⟨rfl, [.int .i64 (((nx (idL n) 0 : Nat) : Int)), .int .i64 (((nx (idL n) 1 : Nat) : Int)), .int .i64 (((nx (idL n) 2 : Nat) : Int)), .int .i64 (((nx (idL n) 3 : Nat) : Int)), .int .i64 (((nx (idL n) 4 : Nat) : Int)), .int .i64 (((apF ms n : Nat) : Int)), .slice none 0 0], _, rfl, rfl, rfl, rfl⟩ rfl fun b5 => ?_)
      refine ⟨(Some'.weak (.skip (.skip (.take (.take (.take (.take (.take (.nil _))))))))), ?_⟩
      refine DW.take (i := 8) (v := .slice (some ⟨b5, 0, none⟩) 1 1) rfl (by kernel_rfl) (by kernel_rfl) (by kernel_rfl) (fun _ _ _ h => h) (Some'.weak (.skip (.skip (.take (.take (.take (.take (.take (.nil _))))))))) rfl (OpY.pure rfl) ?_
      refine DW.done (by kernel_rfl) ?_
      refine Run.goal ⟨(by repeat (first | exact Same.refl _ _ | refine Same.put rfl ?_ | refine Same.over rfl rfl ?_)), (b4, .slice (some ⟨b5, 0, none⟩) 1 1), ?_, ?_, ?_⟩
      ·trivial
      ·exact ⟨(by first | rfl | (congr 1; omega) | simp [*]), (by first | rfl | (congr 1; omega) | simp [*]), trivial⟩
      ·exact ((Weak.selF [0, 1, 0, 0, 0, 1]).trans (Some'.weak (.takeEq (by first | rfl | simp) (.takeEq (by first | rfl | simp) (.takeEq (by first | rfl | simp) (.takeEq (by first | rfl | simp) (.takeEq (by first | rfl | simp) (.take (.nil _)))))))))
     ·refine OpStep.buildSlice (us := [.int .i64 (((nx (idL n) 0 : Nat) : Int)), .int .i64 (((nx (idL n) 1 : Nat) : Int)), .int .i64 (((nx (idL n) 2 : Nat) : Int)), .int .i64 (((nx (idL n) 3 : Nat) : Int)), .int .i64 (((nx (idL n) 4 : Nat) : Int)), .int .i64 (((apF ms n : Nat) : Int)), .slice none 0 0]) Tsl_114 (by decide) (by decide) ⟨rfl, [.int .i64 (((nx (idL n) 0 : Nat) : Int)), .int .i64 (((nx (idL n) 1 : Nat) : Int)), .int .i64 (((nx (idL n) 2 : Nat) : Int)), .int .i64 (((nx (idL n) 3 : Nat) : Int)), .int .i64 (((nx (idL n) 4 : Nat) : Int)), .int .i64 (((apF ms n : Nat) : Int)), .slice none 0 0], _, rfl, rfl, rfl, rfl⟩ rfl fun b6 => ?_
      refine ⟨(Some'.weak (.skip (.skip (.take (.take (.take (.take (.take (.nil _))))))))), ?_⟩
      refine DW.step (i := 2) (by kernel_rfl) rfl rfl (OpStep.insertLit (ks := []) (key := .agg #[.int .i64 (((nx (idL n) 0 : Nat) : Int)), .int .i64 (((nx (idL n) 1 : Nat) : Int)), .int .i64 (((nx (idL n) 2 : Nat) : Int)), .int .i64 (((nx (idL n) 3 : Nat) : Int)), .int .i64 (((nx (idL n) 4 : Nat) : Int)), .int .i64 (((apF ms n : Nat) : Int))]) Tmapof_111 kl_law rfl rfl rfl (by rw [show ([]) ++ [.agg #[.int .i64 (((nx (idL n) 0 : Nat) : Int)), .int .i64 (((nx (idL n) 1 : Nat) : Int)), .int .i64 (((nx (idL n) 2 : Nat) : Int)), .int .i64 (((nx (idL n) 3 : Nat) : Int)), .int .i64 (((nx (idL n) 4 : Nat) : Int)), .int .i64 (((apF ms n : Nat) : Int))]] = kq [((idL n, apF ms n), [])] from by rfl]; exact (.there _ (.here _))) (by simp) (mK_can (k := (idL n, apF ms n)) h5 hm7 (mK_id n ms)) (by simp) ?_)
      refine ⟨(Some'.weak (.skip (.skip (.take (.take (.take (.take (.take (.nil _))))))))), ?_⟩
      refine DW.take (i := 3) (v := .map (some b4)) rfl (by kernel_rfl) (by kernel_rfl) (by kernel_rfl) (fun _ _ _ h => h) (Some'.weak (.skip (.skip (.take (.take (.take (.take (.take (.nil _))))))))) rfl (OpY.pure rfl) ?_
      refine DW.take (i := 7) (v := .map (some b4)) rfl (by kernel_rfl) (by kernel_rfl) (by kernel_rfl) (fun _ _ _ h => h) (Some'.weak (.skip (.skip (.take (.take (.take (.take (.take (.nil _))))))))) rfl (OpY.pure rfl) ?_
      refine DW.take (i := 8) (v := .slice (some ⟨b6, 0, none⟩) 1 1) rfl (by kernel_rfl) (by kernel_rfl) (by kernel_rfl) (fun _ _ _ h => h) (Some'.weak (.skip (.skip (.take (.take (.take (.take (.take (.nil _))))))))) rfl (OpY.pure rfl) ?_
      refine DW.done (by kernel_rfl) ?_
      refine Run.goal ⟨(by repeat (first | exact Same.refl _ _ | refine Same.put rfl ?_ | refine Same.over rfl rfl ?_)), (b4, .slice (some ⟨b6, 0, none⟩) 1 1), ?_, ?_, ?_⟩
      ·trivial
      ·exact ⟨(by first | rfl | (congr 1; omega) | simp [*]), (by first | rfl | (congr 1; omega) | simp [*]), trivial⟩
      ·exact ((Weak.selF [0, 1, 0, 0, 0, 1]).trans (Some'.weak (.takeEq (by first | rfl | simp) (.takeEq (by first | rfl | simp) (.takeEq (by first | rfl | simp) (.takeEq (by first | rfl | simp) (.takeEq (by first | rfl | simp) (.take (.nil _)))))))))
    ·refine OpStep.buildSlice (us := [.int .i64 (((nx (idL n) 0 : Nat) : Int)), .int .i64 (((nx (idL n) 1 : Nat) : Int)), .int .i64 (((nx (idL n) 2 : Nat) : Int)), .int .i64 (((nx (idL n) 3 : Nat) : Int)), .int .i64 (((nx (idL n) 4 : Nat) : Int)), .int .i64 (((apF ms n : Nat) : Int)), .slice none 0 0]) Tsl_114 (by decide) (by decide) ⟨rfl, [.int .i64 (((nx (idL n) 0 : Nat) : Int)), .int .i64 (((nx (idL n) 1 : Nat) : Int)), .int .i64 (((nx (idL n) 2 : Nat) : Int)), .int .i64 (((nx (idL n) 3 : Nat) : Int)), .int .i64 (((nx (idL n) 4 : Nat) : Int)), .int .i64 (((apF ms n : Nat) : Int)), .slice none 0 0], _, rfl, rfl, rfl, rfl⟩ rfl fun b7 => ?_
     refine ⟨(Some'.weak (.skip (.take (.take (.take (.take (.take (.nil _)))))))), ?_⟩
     refine DW.step (i := 0) (by kernel_rfl) rfl rfl (OpStep.makeMap fun b8 => ?_)
     refine ⟨(Some'.weak (.skip (.skip (.take (.take (.take (.take (.take (.nil _))))))))), ?_⟩
     refine DW.step (i := 2) (by kernel_rfl) rfl rfl (OpStep.insertLit (ks := []) (key := .agg #[.int .i64 (((nx (idL n) 0 : Nat) : Int)), .int .i64 (((nx (idL n) 1 : Nat) : Int)), .int .i64 (((nx (idL n) 2 : Nat) : Int)), .int .i64 (((nx (idL n) 3 : Nat) : Int)), .int .i64 (((nx (idL n) 4 : Nat) : Int)), .int .i64 (((apF ms n : Nat) : Int))]) Tmapof_111 kl_law rfl rfl rfl (by rw [show ([]) ++ [.agg #[.int .i64 (((nx (idL n) 0 : Nat) : Int)), .int .i64 (((nx (idL n) 1 : Nat) : Int)), .int .i64 (((nx (idL n) 2 : Nat) : Int)), .int .i64 (((nx (idL n) 3 : Nat) : Int)), .int .i64 (((nx (idL n) 4 : Nat) : Int)), .int .i64 (((apF ms n : Nat) : Int))]] = kq [((idL n, apF ms n), [])] from by rfl]; exact (.here _)) (by simp) (mK_can (k := (idL n, apF ms n)) h5 hm7 (mK_id n ms)) (by simp) ?_)
     refine ⟨(Some'.weak (.skip (.skip (.take (.take (.take (.take (.take (.nil _))))))))), ?_⟩
     refine DW.take (i := 3) (v := .map (some b8)) rfl (by kernel_rfl) (by kernel_rfl) (by kernel_rfl) (fun _ _ _ h => h) (Some'.weak (.skip (.skip (.take (.take (.take (.take (.take (.nil _))))))))) rfl (OpY.pure rfl) ?_
     refine DW.take (i := 7) (v := .map (some b8)) rfl (by kernel_rfl) (by kernel_rfl) (by kernel_rfl) (fun _ _ _ h => h) (Some'.weak (.skip (.skip (.take (.take (.take (.take (.take (.nil _))))))))) rfl (OpY.pure rfl) ?_
     refine DW.take (i := 8) (v := .slice (some ⟨b7, 0, none⟩) 1 1) rfl (by kernel_rfl) (by kernel_rfl) (by kernel_rfl) (fun _ _ _ h => h) (Some'.weak (.skip (.skip (.take (.take (.take (.take (.take (.nil _))))))))) rfl (OpY.pure rfl) ?_
     refine DW.done (by kernel_rfl) ?_
     refine Run.goal ⟨(by repeat (first | exact Same.refl _ _ | refine Same.put rfl ?_ | refine Same.over rfl rfl ?_)), (b8, .slice (some ⟨b7, 0, none⟩) 1 1), ?_, ?_, ?_⟩
     ·trivial
     ·exact ⟨(by first | rfl | (congr 1; omega) | simp [*]), (by first | rfl | (congr 1; omega) | simp [*]), trivial⟩
     ·exact ((Weak.selF [1, 1, 0, 0, 0, 1]).trans (Some'.weak (.takeEq (by first | rfl | simp) (.takeEq (by first | rfl | simp) (.takeEq (by first | rfl | simp) (.takeEq (by first | rfl | simp) (.takeEq (by first | rfl | simp) (.take (.nil _)))))))))
   ·rintro ⟨bm, vq⟩ fr hcut
    show Run _ _ (over _ _ [(9, .map (some bm)), (10, vq)] fr) [.own vq 113 7 (([((Value.slice none 0 0, ((idL n, apF ms n), [])) : QZ)]).length) (qcells ([((Value.slice none 0 0, ((idL n, apF ms n), [])) : QZ)])), .grp 71 3 (qg n ([((Value.slice none 0 0, ((idL n, apF ms n), [])) : QZ)])), .mp bm (setKv (kq [((idL n, apF ms n), [])])), .blk b3 108 (ints (kc (idL n) (apF ms n))), .blk b2 108 (ints (kc m gq)), .blk b1 28 [.slice Av n cv]]
    refine Run.seq ?_
    refine Run.sr ?_
    refine Run.p (.int .i64 0) rfl rfl ?_
    refine Run.done ?_
    refine Run.block ?_
    refine Run.loop (ι := Nat × Value × List QZ) ([4, 10, 11, 12, 14, 15, 47, 48, 49, 50, 51, 52, 53, 54, 55, 56, 57, 58, 59, 60, 61, 62, 63, 64, 65, 66, 67, 68, 69, 70, 71, 72, 73, 74, 75, 76, 77, 78, 79, 80, 81, 82, 83, 84, 85, 86, 87, 88, 89, 90] ++ [91, 92, 93, 94, 95, 96, 97, 98, 99, 100, 101, 102, 103, 104, 105, 106, 107, 108, 109, 110, 111, 112]) (fun ⟨ai, vq, zs⟩ => [(10, vq), (11, .int .i64 (((ai : Nat) : Int)))]) (fun ⟨ai, vq, zs⟩ => [.own vq 113 7 (zs.length) (qcells zs), .grp 71 3 (qg n zs), .mp bm (setKv (kq (sn zs))), .blk b3 108 (ints (kc (idL n) (apF ms n))), .blk b2 108 (ints (kc m gq)), .blk b1 28 [.slice Av n cv]]) (fun ⟨ai, vq, zs⟩ => sn zs = mQ n ms ai ∧ ∀ j, j < ai → ∀ z, zs[j]? = some z → z.2.1 ≠ (m, gq)) (fun ⟨ai, vq, zs⟩ => 1000001 - ai) (0, vq, [((Value.slice none 0 0, ((idL n, apF ms n), [])) : QZ)]) ?_ ?_ ?_ ?_
    ·exact ⟨rfl, fun j hj => absurd hj (by omega)⟩
    ·exact ⟨rfl, rfl, trivial⟩
    ·exact ((Weak.refl _).trans (Some'.weak (.takeEq (by first | rfl | simp) (.takeEq (by first | rfl | simp) (.takeEq (by first | rfl | simp) (.take (.take (.take (.nil _)))))))))
    ·rintro ⟨ai, vq, zs⟩ fr hinv
     show Run _ _ (over _ _ [(10, vq), (11, .int .i64 (((ai : Nat) : Int)))] fr) [.own vq 113 7 (zs.length) (qcells zs), .grp 71 3 (qg n zs), .mp bm (setKv (kq (sn zs))), .blk b3 108 (ints (kc (idL n) (apF ms n))), .blk b2 108 (ints (kc m gq)), .blk b1 28 [.slice Av n cv]]
     try dsimp only at hinv
     refine Run.seq ?_
     refine Run.sr ?_
     refine Run.p (.int .i64 (((ai : Nat) : Int))) rfl rfl ?_
     refine Run.p (vq) rfl rfl ?_
     refine Run.formOwn (.head _) (fun A_vq1 c_vq1 hv hcapc_vq1 hmaxc_vq1 => ?_) (fun _ _ _ => ⟨nofun, nofun, nofun⟩)
     subst hv
     refine Run.y (.int .i64 (((zs.length : Nat) : Int))) rfl (OpY.len Tsl_114 rfl) ?_
     refine Run.p (.bool (decide ((((ai : Nat) : Int)) < (((zs.length : Nat) : Int))))) rfl rfl ?_
     refine Run.done ?_
     refine Run.cond (b := decide ((((ai : Nat) : Int)) < (((zs.length : Nat) : Int)))) rfl (fun h50 => ?_) (fun h50 => ?_)
     ·have p50 := h50; try simp only [bs] at p50
      have hai : ai < zs.length := by omega
      obtain ⟨⟨gv, ⟨gk, gf⟩, gp⟩, hz⟩ : ∃ z, zs[ai]? = some z := ⟨_, List.getElem?_eq_getElem hai⟩
      obtain ⟨hzq, hzn⟩ := hinv
      have hzx : (mQ n ms ai)[ai]? = some ((gk, gf), gp) := by rw [← hzq, List.getElem?_map, hz]; rfl
      have hzM : zs.length ≤ 1000000 := by have h := hM ai; rw [← hzq, List.length_map] at h; exact h
      have hkz : mK n ms (gk, gf) := mQ_key (List.mem_of_getElem? hzx)
      have hgl : gk.length = n := hkz.1
      have hgf : gf < 128 := by have h : gf < 2 ^ ms.length := hkz.2.2; omega
      have hpl : gp.length ≤ ai := bfs_plen ai ai _ hzx
      have hx63 : ∀ j, nx gk j < 4294967296 := fun j => Nat.lt_of_lt_of_le (hkz.2.1 j) (Nat.le_trans (Nat.pow_le_pow_right (by omega) h5) (by decide))
      refine Run.formMem (.tail _ (List.Mem.head _)) (qg_mem (n := n) hz) (fun gA gcp hgv => ?_) (fun _ _ _ => ⟨nofun, nofun, nofun⟩)
      simp only [qm] at hgv
      subst hgv
      refine Run.openOwn (.head _) (by omega) (fun gz cz hvgz hcapgz _ => ?_) (fun _ _ _ => ⟨nofun, nofun, nofun⟩)
      injection hvgz with hAgz _ hcgz; subst hAgz; subst hcgz
      refine Run.skip ?_
      refine Run.seq ?_
      refine Run.block ?_
      refine Run.sr ?_
      refine Run.p (.slice (some ⟨gz, 0, none⟩) (zs.length) c_vq1) rfl rfl ?_
      refine Run.p (.int .i64 (((ai : Nat) : Int))) rfl rfl ?_
      refine Run.y (.pointer (some ⟨gz, ai * 7, none⟩)) rfl (OpY.index (kk := ai) Tsl_114 rfl rfl (by omega) (by omega) (by first | rfl | omega)) ?_
      refine Run.y (.agg #[.int .i64 (((nx gk 0 : Nat) : Int)), .int .i64 (((nx gk 1 : Nat) : Int)), .int .i64 (((nx gk 2 : Nat) : Int)), .int .i64 (((nx gk 3 : Nat) : Int)), .int .i64 (((nx gk 4 : Nat) : Int)), .int .i64 (((gf : Nat) : Int)), .slice gA (gp.length) gcp]) rfl (OpY.loadN (cs := [.int .i64 (((nx gk 0 : Nat) : Int)), .int .i64 (((nx gk 1 : Nat) : Int)), .int .i64 (((nx gk 2 : Nat) : Int)), .int .i64 (((nx gk 3 : Nat) : Int)), .int .i64 (((nx gk 4 : Nat) : Int)), .int .i64 (((gf : Nat) : Int)), .slice gA (gp.length) gcp]) Tagg_113 rfl (Cells.own0 (.head _) (preQ hz))) ?_
      refine Run.step rfl (OpStep.alloc (zs := [.int .i64 0, .int .i64 0, .int .i64 0, .int .i64 0, .int .i64 0, .int .i64 0, .slice none 0 0]) Tzero_113 fun b9 => ?_)
      refine Run.step rfl (OpStep.storeAll (us := [.int .i64 (((nx gk 0 : Nat) : Int)), .int .i64 (((nx gk 1 : Nat) : Int)), .int .i64 (((nx gk 2 : Nat) : Int)), .int .i64 (((nx gk 3 : Nat) : Int)), .int .i64 (((nx gk 4 : Nat) : Int)), .int .i64 (((gf : Nat) : Int)), .slice gA (gp.length) gcp]) Tsize_113 rfl rfl rfl (.here _) rfl ?_)
      refine Run.done ?_
      refine Run.seq ?_
      refine Run.seq ?_
      show Run _ _ _ [.blk b9 113 (qcell ((.slice gA (gp.length) gcp : Value), ((gk, gf), gp))), .own (.slice (some ⟨gz, 0, none⟩) (zs.length) c_vq1) 113 7 (zs.length) (qcells zs), .grp 71 3 (qg n zs), .mp bm (setKv (kq (sn zs))), .blk b3 108 (ints (kc (idL n) (apF ms n))), .blk b2 108 (ints (kc m gq)), .blk b1 28 [.slice Av n cv]]
      refine Run.region ?_
      refine Run.y (.pointer (some ⟨b9, 0, none⟩)) rfl (OpY.fieldAddr Tfo_113_0 rfl rfl) ?_
      refine Run.y (.agg #[.int .i64 (((nx gk 0 : Nat) : Int)), .int .i64 (((nx gk 1 : Nat) : Int)), .int .i64 (((nx gk 2 : Nat) : Int)), .int .i64 (((nx gk 3 : Nat) : Int)), .int .i64 (((nx gk 4 : Nat) : Int)), .int .i64 (((gf : Nat) : Int))]) rfl (OpY.loadN (cs := [.int .i64 (((nx gk 0 : Nat) : Int)), .int .i64 (((nx gk 1 : Nat) : Int)), .int .i64 (((nx gk 2 : Nat) : Int)), .int .i64 (((nx gk 3 : Nat) : Int)), .int .i64 (((nx gk 4 : Nat) : Int)), .int .i64 (((gf : Nat) : Int))]) Tagg_108 rfl (Cells.blk (.head _) ⟨rfl, rfl, rfl, rfl, rfl, rfl, trivial⟩)) ?_
      refine Run.y (.agg #[.int .i64 (((nx m 0 : Nat) : Int)), .int .i64 (((nx m 1 : Nat) : Int)), .int .i64 (((nx m 2 : Nat) : Int)), .int .i64 (((nx m 3 : Nat) : Int)), .int .i64 (((nx m 4 : Nat) : Int)), .int .i64 (((gq : Nat) : Int))]) rfl (OpY.loadN (cs := [.int .i64 (((nx m 0 : Nat) : Int)), .int .i64 (((nx m 1 : Nat) : Int)), .int .i64 (((nx m 2 : Nat) : Int)), .int .i64 (((nx m 3 : Nat) : Int)), .int .i64 (((nx m 4 : Nat) : Int)), .int .i64 (((gq : Nat) : Int))]) Tagg_108 rfl (Cells.blk (.tail _ (.tail _ (.tail _ (.tail _ (.tail _ (List.Mem.head _)))))) ⟨rfl, rfl, rfl, rfl, rfl, rfl, trivial⟩)) ?_
      refine Run.y (.bool (decide ((gk, gf) = (m, gq)))) rfl (OpY.eqKey (m := 3) (by omega) kl_type kl_wide kl_guard kl_law rfl rfl (mK_can (k := (gk, gf)) h5 hm7 hkz) (mK_can (k := (m, gq)) h5 hm7 hkm) (keyV_iff (hkz.1.trans hkm.1.symm) (by rw [hkz.1]; exact h5) rfl)) ?_
      refine Run.done ?_
      refine Run.cond (b := decide ((gk, gf) = (m, gq))) rfl (fun h60 => ?_) (fun h60 => ?_)
      ·have p60 := h60; try simp only [bs] at p60
       refine Run.seq ?_
       have hkg : (gk, gf) = (m, gq) := by simpa using p60
       obtain ⟨A1, B1, hAB⟩ := List.append_of_mem (qg_mem (n := n) hz)
       refine Run.weak (H' := [.own (.slice gA (gp.length) gcp) 71 3 (gp.length) (ints (flCX (dcw n gp))), .grp 71 3 (A1 ++ B1), .blk b9 113 (qcell ((.slice gA (gp.length) gcp : Value), ((gk, gf), gp))), .own (.slice (some ⟨gz, 0, none⟩) (zs.length) c_vq1) 113 7 (zs.length) (qcells zs), .mp bm (setKv (kq (sn zs))), .blk b3 108 (ints (kc (idL n) (apF ms n))), .blk b2 108 (ints (kc m gq)), .blk b1 28 [.slice Av n cv]]) ((Weak.selF [2]).trans (by rw [hAB]; exact Weak.grpTakeR)) ?_ ⟨_, _, rfl, fun _ => nofun, fun _ => nofun⟩
       refine Run.region ?_
       refine Run.y (.pointer (some ⟨b9, 6, none⟩)) rfl (OpY.fieldAddr Tfo_113_1 rfl rfl) ?_
       refine Run.y (.slice gA (gp.length) gcp) rfl (OpY.load1 Tone_36 rfl (Cells.blk (.tail _ (.tail _ (List.Mem.head _))) ⟨rfl, trivial⟩)) ?_
       refine Run.p (.slice gA (gp.length) gcp) rfl rfl ?_
       refine Run.done ?_
       refine Run.ret ?_
       refine ⟨.slice gA (gp.length) gcp, [.own (.slice gA (gp.length) gcp) 71 3 (gp.length) (ints (flCX (dcw n gp)))], Out.one rfl rfl, (Some'.weak (.take (.nil _))), ?_⟩
       exact ⟨gp, ai, by rw [← hkg]; exact List.mem_of_getElem? hzx, rfl⟩
      ·have p60 := h60; try simp only [bs] at p60
       have hkne : (gk, gf) ≠ (m, gq) := by simpa using h60
       have hcl := cnP_le n n
       refine Run.skip ?_
       refine Run.sr ?_
       refine Run.p (.int .i64 (((n : Nat) : Int))) rfl rfl ?_
       refine Run.step rfl (OpStep.call (vs := [.int .i64 (((n : Nat) : Int))]) (caps := []) Tcall_95 rfl rfl (fun w hs => controlledNots_spec h5 w) ?_)
       rintro uc _ rfl
       show Run _ _ (putF _ _ _ uc) [.own uc 71 3 ((cnP n n).length) (ints (flCX (cnP n n))), .blk b9 113 (qcell ((.slice gA (gp.length) gcp : Value), ((gk, gf), gp))), .own (.slice (some ⟨gz, 0, none⟩) (zs.length) c_vq1) 113 7 (zs.length) (qcells zs), .grp 71 3 (qg n zs), .mp bm (setKv (kq (sn zs))), .blk b3 108 (ints (kc (idL n) (apF ms n))), .blk b2 108 (ints (kc m gq)), .blk b1 28 [.slice Av n cv]]
       refine Run.formOwn (.head _) (fun A_uc1 c_uc1 hv hcapc_uc1 hmaxc_uc1 => ?_) (fun _ _ _ => ⟨nofun, nofun, nofun⟩)
       subst hv
       refine Run.y (.int .i64 ((((cnP n n).length : Nat) : Int))) rfl (OpY.len Tsl_36 rfl) ?_
       refine Run.p (.int .i64 0) rfl rfl ?_
       refine Run.done ?_
       refine Run.block ?_
       refine Run.loop (ι := Nat × Value × List QZ) [10, 14, 15, 66, 67, 68, 69, 70, 71, 72, 73, 74, 75, 76, 77, 78, 79, 80, 81, 82, 83, 84, 85, 86, 87, 88, 89, 90, 91, 92, 93, 94, 95, 96, 97, 98, 99, 100, 101, 102, 103, 104, 105, 106, 107, 108, 109, 110, 111, 112] (fun ⟨ki, vq2, zs2⟩ => [(10, vq2), (66, .int .i64 (((ki : Nat) : Int)))]) (fun ⟨ki, vq2, zs2⟩ => [.own vq2 113 7 (zs2.length) (qcells zs2), .grp 71 3 (qg n zs2), .mp bm (setKv (kq (sn zs2))), .own (.slice A_uc1 ((cnP n n).length) c_uc1) 71 3 ((cnP n n).length) (ints (flCX (cnP n n))), .blk b9 113 (qcell ((.slice gA (gp.length) gcp : Value), ((gk, gf), gp))), .blk b3 108 (ints (kc (idL n) (apF ms n))), .blk b2 108 (ints (kc m gq)), .blk b1 28 [.slice Av n cv]]) (fun ⟨ki, vq2, zs2⟩ => ki ≤ (cnP n n).length ∧ sn zs2 = brow (lstep n ms) (lok n) ((gk, gf), gp) (mQ n ms ai) (eK n ki) ∧ ∃ t, zs2 = zs ++ t) (fun ⟨ki, vq2, zs2⟩ => (cnP n n).length - ki) (0, .slice (some ⟨gz, 0, none⟩) (zs.length) c_vq1, zs) ?_ ?_ ?_ ?_
       ·exact ⟨Nat.zero_le _, by rw [row_first (by omega)]; exact hzq, [], by simp⟩
       ·exact ⟨rfl, rfl, trivial⟩
       ·exact ((Weak.selF [2, 2, 2, 0, 0, 0, 0, 0]).trans (Some'.weak (.takeEq (by first | rfl | simp [sn]) (.takeEq (by first | rfl | simp [sn]) (.takeEq (by first | rfl | simp [sn]) (.take (.take (.take (.take (.take (.nil _)))))))))))
       ·rintro ⟨ki, vq2, zs2⟩ fr hinv
        show Run _ _ (over _ _ [(10, vq2), (66, .int .i64 (((ki : Nat) : Int)))] fr) [.own vq2 113 7 (zs2.length) (qcells zs2), .grp 71 3 (qg n zs2), .mp bm (setKv (kq (sn zs2))), .own (.slice A_uc1 ((cnP n n).length) c_uc1) 71 3 ((cnP n n).length) (ints (flCX (cnP n n))), .blk b9 113 (qcell ((.slice gA (gp.length) gcp : Value), ((gk, gf), gp))), .blk b3 108 (ints (kc (idL n) (apF ms n))), .blk b2 108 (ints (kc m gq)), .blk b1 28 [.slice Av n cv]]
        try dsimp only at hinv
        refine Run.sr ?_
        refine Run.p (.bool (decide ((((ki : Nat) : Int)) < ((((cnP n n).length : Nat) : Int))))) rfl rfl ?_
        refine Run.done ?_
        refine Run.seq ?_
        refine Run.cond (b := decide ((((ki : Nat) : Int)) < ((((cnP n n).length : Nat) : Int)))) rfl (fun h67 => ?_) (fun h67 => ?_)
        ·have p67 := h67; try simp only [bs] at p67
         have hki : ki < (cnP n n).length := by omega
         obtain ⟨_, hzq2, ⟨tz, htz⟩⟩ := hinv
         obtain ⟨ga, gb, hgab⟩ : ∃ a b, gat (cnP n n) ki = (a, b) := ⟨_, _, rfl⟩
         have hin := eK_in n (by omega) ki hki
         have hea := eK_at n (by omega) ki hki
         rw [hgab] at hin hea
         obtain ⟨hga, hgb, hgne⟩ := hin
         obtain ⟨hok, hdiv, hmod, hen, hen2⟩ := hea
         simp only at hga hgb hgne hdiv hmod
         have hnk : lstep n ms (gk, gf) (eK n ki) = (cx gk (ga, gb), apx gf ms ((nx (cx gk (ga, gb)) gb : Nat) : Int)) := by rw [lstep, hdiv, hmod]
         have hknk : mK n ms (lstep n ms (gk, gf) (eK n ki)) := mK_step _ hkz
         obtain ⟨tq, htq⟩ := brow_in hzx (show eK n ki ≤ n * n by omega)
         have hkall : ∀ y ∈ sn zs2, mK n ms y.1 := fun y hy => mQ_key (i := ai + 1) (by rw [mQ, htq, ← hzq2]; exact List.mem_append.2 (.inl hy))
         have hzM2 : zs2.length ≤ 1000000 := by have h := hM (ai + 1); rw [mQ, htq, ← hzq2, List.length_append, List.length_map] at h; omega
         have hgm : qm n (.slice gA (gp.length) gcp : Value) gp ∈ qg n zs2 := by rw [htz]; exact List.mem_map.2 ⟨((.slice gA (gp.length) gcp : Value), ((gk, gf), gp)), List.mem_append.2 (.inl (List.mem_of_getElem? hz)), rfl⟩
         have hgx : ints (flCX (dcw n gp)) ++ [.int .i64 9, .int .i64 (ga : Int), .int .i64 (gb : Int)] = ints (flCX (dcw n (gp ++ [eK n ki]))) := by rw [ints_flCX]; simp only [dcw, List.map_append, List.map_cons, List.map_nil, hdiv, hmod]
         have hgl2 : (gp ++ [eK n ki]).length = gp.length + 1 := by simp
         have hrow := row_next (step := lstep n ms) (n := n) (by omega) hki ((gk, gf), gp) (mQ n ms ai)
         obtain ⟨xk, xf, hx⟩ : ∃ a b, lstep n ms (gk, gf) (eK n ki) = (a, b) := ⟨_, _, rfl⟩
         have hnk2 := hnk.symm.trans hx
         have hx1 : cx gk (ga, gb) = xk := congrArg Prod.fst hnk2
         have hx2 : apx gf ms ((nx (cx gk (ga, gb)) gb : Nat) : Int) = xf := congrArg Prod.snd hnk2
         rw [hx] at hknk
         refine Run.openOwn (.tail _ (.tail _ (.tail _ (List.Mem.head _)))) (by omega) (fun gc cc hvgc hcapgc _ => ?_) (fun _ _ _ => ⟨nofun, nofun, nofun⟩)
         injection hvgc with hAgc _ hcgc; subst hAgc; subst hcgc
         refine Run.skip ?_
         refine Run.seq ?_
         refine Run.block ?_
         refine Run.sr ?_
         refine Run.y (.pointer (some ⟨gc, ki * 3, none⟩)) rfl (OpY.index (kk := ki) Tsl_36 rfl rfl (by omega) (by omega) (by first | rfl | omega)) ?_
         refine Run.y (.agg #[.int .i64 9, .int .i64 (((ga : Nat) : Int)), .int .i64 (((gb : Nat) : Int))]) rfl (OpY.loadN (cs := [.int .i64 9, .int .i64 (((ga : Nat) : Int)), .int .i64 (((gb : Nat) : Int))]) Tagg_71 rfl (by have h := preCX hki; rw [gatI, hgab] at h; exact Cells.own0 (.tail _ (.tail _ (.tail _ (List.Mem.head _)))) h)) ?_
         refine Run.step rfl (OpStep.alloc (zs := [.int .i64 0, .int .i64 0, .int .i64 0]) Tzero_71 fun b10 => ?_)
         refine Run.step rfl (OpStep.storeAll (us := [.int .i64 9, .int .i64 (((ga : Nat) : Int)), .int .i64 (((gb : Nat) : Int))]) Tsize_71 rfl rfl rfl (.here _) rfl ?_)
         refine Run.dsr ?_
         refine Run.y (.pointer (some ⟨b9, 0, none⟩)) rfl (OpY.fieldAddr Tfo_113_0 rfl rfl) ?_
         refine Run.y (.agg #[.int .i64 (((nx gk 0 : Nat) : Int)), .int .i64 (((nx gk 1 : Nat) : Int)), .int .i64 (((nx gk 2 : Nat) : Int)), .int .i64 (((nx gk 3 : Nat) : Int)), .int .i64 (((nx gk 4 : Nat) : Int)), .int .i64 (((gf : Nat) : Int))]) rfl (OpY.loadN (cs := [.int .i64 (((nx gk 0 : Nat) : Int)), .int .i64 (((nx gk 1 : Nat) : Int)), .int .i64 (((nx gk 2 : Nat) : Int)), .int .i64 (((nx gk 3 : Nat) : Int)), .int .i64 (((nx gk 4 : Nat) : Int)), .int .i64 (((gf : Nat) : Int))]) Tagg_108 rfl (Cells.blk (.tail _ (.tail _ (.tail _ (.tail _ (.tail _ (List.Mem.head _)))))) ⟨rfl, rfl, rfl, rfl, rfl, rfl, trivial⟩)) ?_
         refine Run.step rfl (OpStep.alloc (zs := [.int .i64 0, .int .i64 0, .int .i64 0, .int .i64 0, .int .i64 0, .int .i64 0]) Tzero_108 fun b11 => ?_)
         refine Run.step rfl (OpStep.storeAll (us := [.int .i64 (((nx gk 0 : Nat) : Int)), .int .i64 (((nx gk 1 : Nat) : Int)), .int .i64 (((nx gk 2 : Nat) : Int)), .int .i64 (((nx gk 3 : Nat) : Int)), .int .i64 (((nx gk 4 : Nat) : Int)), .int .i64 (((gf : Nat) : Int))]) Tsize_108 rfl rfl rfl (.here _) rfl ?_)
         refine Run.done ?_
         refine Run.seq ?_
         show Run _ _ _ [.blk b11 108 (ints (kc gk gf)), .blk b10 71 [.int .i64 9, .int .i64 (((ga : Nat) : Int)), .int .i64 (((gb : Nat) : Int))], .own vq2 113 7 (zs2.length) (qcells zs2), .grp 71 3 (qg n zs2), .mp bm (setKv (kq (sn zs2))), .own (.slice (some ⟨gc, 0, none⟩) ((cnP n n).length) c_uc1) 71 3 ((cnP n n).length) (ints (flCX (cnP n n))), .blk b9 113 (qcell ((.slice gA (gp.length) gcp : Value), ((gk, gf), gp))), .blk b3 108 (ints (kc (idL n) (apF ms n))), .blk b2 108 (ints (kc m gq)), .blk b1 28 [.slice Av n cv]]
         refine Run.lastly [13] (by kernel_rfl) ?_
         refine DL.takeP (i := 0) (v := .pointer (some ⟨b10, 2, none⟩)) rfl (by kernel_rfl) (by kernel_rfl) (by kernel_rfl) (fun _ _ _ h => h) rfl (fun _ => OpY.fieldAddr Tfo_71_2 rfl rfl) ?_
         refine DL.take (i := 1) (v := .int .i64 (((gb : Nat) : Int))) rfl (by kernel_rfl) (by kernel_rfl) (by kernel_rfl) (by kernel_rfl) (fun _ _ _ h => h) (Some'.weak (.take (.take (.take (.take (.take (.take (.take (.take (.take (.take (.nil _)))))))))))) rfl (OpY.load1 Tone_3 rfl (Cells.blk (.tail _ (List.Mem.head _)) ⟨rfl, trivial⟩)) ?_
         refine DL.takeP (i := 2) (v := .pointer (some ⟨b11, 0, none⟩)) rfl (by kernel_rfl) (by kernel_rfl) (by kernel_rfl) (fun _ _ _ h => h) rfl (fun _ => OpY.fieldAddr Tfo_108_0 rfl rfl) ?_
         refine DL.takeP (i := 3) (v := .pointer (some ⟨b11, gb, none⟩)) rfl (by kernel_rfl) (by kernel_rfl) (by kernel_rfl) (fun _ _ _ h => h) rfl (fun _ => OpY.indexArr (kk := gb) Tarr_106 rfl rfl (by omega) (by omega) (by first | rfl | omega)) ?_
         refine DL.take (i := 4) (v := .int .i64 (ix (kc gk gf) (gb))) rfl (by kernel_rfl) (by kernel_rfl) (by kernel_rfl) (by kernel_rfl) (fun _ _ _ h => h) (Some'.weak (.take (.take (.take (.take (.take (.take (.take (.take (.take (.take (.nil _)))))))))))) rfl (OpY.load1 Tone_3 rfl (Cells.blk (.head _) (pre1 (by first | omega | (simp only [kc_length, List.length_set]; omega))))) ?_
         refine DL.takeP (i := 5) (v := .pointer (some ⟨b10, 1, none⟩)) rfl (by kernel_rfl) (by kernel_rfl) (by kernel_rfl) (fun _ _ _ h => h) rfl (fun _ => OpY.fieldAddr Tfo_71_1 rfl rfl) ?_
         refine DL.take (i := 6) (v := .int .i64 (((ga : Nat) : Int))) rfl (by kernel_rfl) (by kernel_rfl) (by kernel_rfl) (by kernel_rfl) (fun _ _ _ h => h) (Some'.weak (.take (.take (.take (.take (.take (.take (.take (.take (.take (.take (.nil _)))))))))))) rfl (OpY.load1 Tone_3 rfl (Cells.blk (.tail _ (List.Mem.head _)) ⟨rfl, trivial⟩)) ?_
         refine DL.takeP (i := 7) (v := .pointer (some ⟨b11, 0, none⟩)) rfl (by kernel_rfl) (by kernel_rfl) (by kernel_rfl) (fun _ _ _ h => h) rfl (fun _ => OpY.fieldAddr Tfo_108_0 rfl rfl) ?_
         refine DL.takeP (i := 8) (v := .pointer (some ⟨b11, ga, none⟩)) rfl (by kernel_rfl) (by kernel_rfl) (by kernel_rfl) (fun _ _ _ h => h) rfl (fun _ => OpY.indexArr (kk := ga) Tarr_106 rfl rfl (by omega) (by omega) (by first | rfl | omega)) ?_
         refine DL.take (i := 9) (v := .int .i64 (ix (kc gk gf) (ga))) rfl (by kernel_rfl) (by kernel_rfl) (by kernel_rfl) (by kernel_rfl) (fun _ _ _ h => h) (Some'.weak (.take (.take (.take (.take (.take (.take (.take (.take (.take (.take (.nil _)))))))))))) rfl (OpY.load1 Tone_3 rfl (Cells.blk (.head _) (pre1 (by first | omega | (simp only [kc_length, List.length_set]; omega))))) ?_
         refine DL.takeP (i := 10) (v := .int .i64 (((nx gk gb ^^^ nx gk ga : Nat) : Int))) rfl (by kernel_rfl) (by kernel_rfl) (by kernel_rfl) (fun _ _ _ h => h) rfl (fun _ => OpY.xorNat rfl rfl (ix_kc (by omega)) (ix_kc (by omega)) (by have := hx63 gb; omega) (by have := hx63 ga; omega)) ?_
         refine DL.takeP (i := 11) (v := .pointer (some ⟨b11, 0, none⟩)) rfl (by kernel_rfl) (by kernel_rfl) (by kernel_rfl) (fun _ _ _ h => h) rfl (fun _ => OpY.fieldAddr Tfo_108_0 rfl rfl) ?_
         refine DL.takeP (i := 12) (v := .pointer (some ⟨b11, gb, none⟩)) rfl (by kernel_rfl) (by kernel_rfl) (by kernel_rfl) (fun _ _ _ h => h) rfl (fun _ => OpY.indexArr (kk := gb) Tarr_106 rfl rfl (by omega) (by omega) (by first | rfl | omega)) ?_
         refine DL.step (i := 13) (by kernel_rfl) (by kernel_rfl) rfl rfl (OpStep.storeInts (o := gb) (a := ((nx gk gb ^^^ nx gk ga : Nat) : Int)) Tsize_3 rfl rfl (.here _) (by first | omega | (simp only [kc_length, List.length_set]; omega)) ?_)
         refine DL.done (by kernel_rfl) ?_
         rw [kc_set (show gb < gk.length by omega) (by omega)]
         show Run _ _ _ [.blk b11 108 (ints (kc (cx gk (ga, gb)) gf)), .blk b10 71 [.int .i64 9, .int .i64 (((ga : Nat) : Int)), .int .i64 (((gb : Nat) : Int))], .own vq2 113 7 (zs2.length) (qcells zs2), .grp 71 3 (qg n zs2), .mp bm (setKv (kq (sn zs2))), .own (.slice (some ⟨gc, 0, none⟩) ((cnP n n).length) c_uc1) 71 3 ((cnP n n).length) (ints (flCX (cnP n n))), .blk b9 113 (qcell ((.slice gA (gp.length) gcp : Value), ((gk, gf), gp))), .blk b3 108 (ints (kc (idL n) (apF ms n))), .blk b2 108 (ints (kc m gq)), .blk b1 28 [.slice Av n cv]]
         refine Run.seq ?_
         refine Run.lastlyB [10] [.blk b11 108 (ints (kc (cx gk (ga, gb)) gf)), .blk b10 71 [.int .i64 9, .int .i64 (((ga : Nat) : Int)), .int .i64 (((gb : Nat) : Int))], .own vq2 113 7 (zs2.length) (qcells zs2), .grp 71 3 (qg n zs2), .mp bm (setKv (kq (sn zs2))), .own (.slice (some ⟨gc, 0, none⟩) ((cnP n n).length) c_uc1) 71 3 ((cnP n n).length) (ints (flCX (cnP n n))), .blk b9 113 (qcell ((.slice gA (gp.length) gcp : Value), ((gk, gf), gp))), .blk b3 108 (ints (kc (idL n) (apF ms n))), .blk b2 108 (ints (kc m gq)), .blk b1 28 [.slice Av n cv]] (by kernel_rfl) ?_
         refine DL.takeP (i := 0) (v := .pointer (some ⟨b11, 5, none⟩)) rfl (by kernel_rfl) (by kernel_rfl) (by kernel_rfl) (fun _ _ _ h => h) rfl (fun _ => OpY.fieldAddr Tfo_108_1 rfl rfl) ?_
         refine DL.take (i := 1) (v := .int .i64 (((gf : Nat) : Int))) rfl (by kernel_rfl) (by kernel_rfl) (by kernel_rfl) (by kernel_rfl) (fun _ _ _ h => h) (Some'.weak (.take (.take (.take (.take (.take (.take (.take (.take (.take (.take (.nil _)))))))))))) rfl (OpY.load1 Tone_3 rfl (Cells.blk (.head _) ⟨rfl, trivial⟩)) ?_
         refine DL.takeP (i := 2) (v := .slice Am (ms.length) cm) rfl (by kernel_rfl) (by kernel_rfl) (by kernel_rfl) (fun _ _ _ h => h) rfl (fun _ => OpY.pure rfl) ?_
         refine DL.takeP (i := 3) (v := .pointer (some ⟨b10, 2, none⟩)) rfl (by kernel_rfl) (by kernel_rfl) (by kernel_rfl) (fun _ _ _ h => h) rfl (fun _ => OpY.fieldAddr Tfo_71_2 rfl rfl) ?_
         refine DL.take (i := 4) (v := .int .i64 (((gb : Nat) : Int))) rfl (by kernel_rfl) (by kernel_rfl) (by kernel_rfl) (by kernel_rfl) (fun _ _ _ h => h) (Some'.weak (.take (.take (.take (.take (.take (.take (.take (.take (.take (.take (.nil _)))))))))))) rfl (OpY.load1 Tone_3 rfl (Cells.blk (.tail _ (List.Mem.head _)) ⟨rfl, trivial⟩)) ?_
         refine DL.takeP (i := 5) (v := .pointer (some ⟨b11, 0, none⟩)) rfl (by kernel_rfl) (by kernel_rfl) (by kernel_rfl) (fun _ _ _ h => h) rfl (fun _ => OpY.fieldAddr Tfo_108_0 rfl rfl) ?_
         refine DL.takeP (i := 6) (v := .pointer (some ⟨b11, gb, none⟩)) rfl (by kernel_rfl) (by kernel_rfl) (by kernel_rfl) (fun _ _ _ h => h) rfl (fun _ => OpY.indexArr (kk := gb) Tarr_106 rfl rfl (by omega) (by omega) (by first | rfl | omega)) ?_
         refine DL.take (i := 7) (v := .int .i64 (((nx (cx gk (ga, gb)) gb : Nat) : Int))) rfl (by kernel_rfl) (by kernel_rfl) (by kernel_rfl) (by kernel_rfl) (fun _ _ _ h => h) (Some'.weak (.take (.take (.take (.take (.take (.take (.take (.take (.take (.take (.nil _)))))))))))) rfl (OpY.load1 Tone_3 rfl (Cells.blk (.head _) (pre_kc (by omega)))) ?_
         refine DL.stepS (i := 8) (by kernel_rfl) rfl rfl (OpStep.q (v := .int .i64 (((apx gf ms ((nx (cx gk (ga, gb)) gb : Nat) : Int) : Nat) : Int))) (OpQ.call (vs := [.int .i64 (((gf : Nat) : Int)), .slice Am (ms.length) cm, .int .i64 (((nx (cx gk (ga, gb)) gb : Nat) : Int))]) (caps := []) Tcall_94 rfl rfl (fun w hs => appeared_spec (f := gf) (by omega) (by omega) (hs.sl hms))) ?_)
         refine ⟨(Some'.weak (.take (.take (.take (.take (.take (.take (.take (.take (.take (.take (.nil _)))))))))))), ?_⟩
         refine DL.takeP (i := 9) (v := .pointer (some ⟨b11, 5, none⟩)) rfl (by kernel_rfl) (by kernel_rfl) (by kernel_rfl) (fun _ _ _ h => h) rfl (fun _ => OpY.fieldAddr Tfo_108_1 rfl rfl) ?_
         refine DL.step (i := 10) (by kernel_rfl) (by kernel_rfl) rfl rfl (OpStep.storeInts (o := 5) (a := ((apx gf ms ((nx (cx gk (ga, gb)) gb : Nat) : Int) : Nat) : Int)) Tsize_3 rfl rfl (.here _) (by first | omega | (simp only [kc_length, List.length_set]; omega)) ?_)
         refine DL.done (by kernel_rfl) ?_
         rw [kc_found, hx2, hx1]
         refine Run.sr ?_
         refine Run.p (.map (some bm)) rfl rfl ?_
         refine Run.y (.agg #[.int .i64 (((nx xk 0 : Nat) : Int)), .int .i64 (((nx xk 1 : Nat) : Int)), .int .i64 (((nx xk 2 : Nat) : Int)), .int .i64 (((nx xk 3 : Nat) : Int)), .int .i64 (((nx xk 4 : Nat) : Int)), .int .i64 (((xf : Nat) : Int))]) rfl (OpY.loadN (cs := [.int .i64 (((nx xk 0 : Nat) : Int)), .int .i64 (((nx xk 1 : Nat) : Int)), .int .i64 (((nx xk 2 : Nat) : Int)), .int .i64 (((nx xk 3 : Nat) : Int)), .int .i64 (((nx xk 4 : Nat) : Int)), .int .i64 (((xf : Nat) : Int))]) Tagg_108 rfl (Cells.blk (.head _) ⟨rfl, rfl, rfl, rfl, rfl, rfl, trivial⟩)) ?_
         refine Run.y (.bool (decide ((xk, xf) ∈ (sn zs2).map (·.1)))) rfl (OpY.lookupSet (key := .agg #[.int .i64 (((nx xk 0 : Nat) : Int)), .int .i64 (((nx xk 1 : Nat) : Int)), .int .i64 (((nx xk 2 : Nat) : Int)), .int .i64 (((nx xk 3 : Nat) : Int)), .int .i64 (((nx xk 4 : Nat) : Int)), .int .i64 (((xf : Nat) : Int))]) Tmapof_111 (by kernel_rfl) kl_law rfl rfl (.tail _ (.tail _ (.tail _ (.tail _ (List.Mem.head _))))) (kq_can h5 hm7 hkall) (mK_can (k := (xk, xf)) h5 hm7 hknk) (by rw [decide_eq_true_eq]; exact (kq_mem (k := (xk, xf)) h5 hkall hknk).symm) (by kernel_rfl)) ?_
         refine Run.p (.bool (!(decide ((xk, xf) ∈ (sn zs2).map (·.1))))) rfl rfl ?_
         refine Run.done ?_
         refine Run.cond (b := !(decide ((xk, xf) ∈ (sn zs2).map (·.1)))) rfl (fun h98 => ?_) (fun h98 => ?_)
         ·have p98 := h98; try simp only [bs] at p98
          have hnin : (xk, xf) ∉ (sn zs2).map (·.1) := by simpa using h98
          have hbv : brow (lstep n ms) (lok n) ((gk, gf), gp) (mQ n ms ai) (eK n (ki + 1)) = sn zs2 ++ [((xk, xf), gp ++ [eK n ki])] := by rw [hrow, ← hzq2, bvis, if_pos ⟨hok, by rw [hx]; exact hnin⟩, hx]
          refine Run.sr ?_
          refine Run.p (.map (some bm)) rfl rfl ?_
          refine Run.y (.agg #[.int .i64 (((nx xk 0 : Nat) : Int)), .int .i64 (((nx xk 1 : Nat) : Int)), .int .i64 (((nx xk 2 : Nat) : Int)), .int .i64 (((nx xk 3 : Nat) : Int)), .int .i64 (((nx xk 4 : Nat) : Int)), .int .i64 (((xf : Nat) : Int))]) rfl (OpY.loadN (cs := [.int .i64 (((nx xk 0 : Nat) : Int)), .int .i64 (((nx xk 1 : Nat) : Int)), .int .i64 (((nx xk 2 : Nat) : Int)), .int .i64 (((nx xk 3 : Nat) : Int)), .int .i64 (((nx xk 4 : Nat) : Int)), .int .i64 (((xf : Nat) : Int))]) Tagg_108 rfl (Cells.blk (.head _) ⟨rfl, rfl, rfl, rfl, rfl, rfl, trivial⟩)) ?_
          refine Run.step rfl (OpStep.insertSet (ks := kq (sn zs2)) (key := .agg #[.int .i64 (((nx xk 0 : Nat) : Int)), .int .i64 (((nx xk 1 : Nat) : Int)), .int .i64 (((nx xk 2 : Nat) : Int)), .int .i64 (((nx xk 3 : Nat) : Int)), .int .i64 (((nx xk 4 : Nat) : Int)), .int .i64 (((xf : Nat) : Int))]) Tmapof_111 kl_law rfl rfl rfl (by rw [show (kq (sn zs2)) ++ [.agg #[.int .i64 (((nx xk 0 : Nat) : Int)), .int .i64 (((nx xk 1 : Nat) : Int)), .int .i64 (((nx xk 2 : Nat) : Int)), .int .i64 (((nx xk 3 : Nat) : Int)), .int .i64 (((nx xk 4 : Nat) : Int)), .int .i64 (((xf : Nat) : Int))]] = kq (sn zs2 ++ [((xk, xf), gp ++ [eK n ki])]) from by simp [kq, keyV]]; exact (.there _ (.there _ (.there _ (.there _ (.here _)))))) (kq_can h5 hm7 hkall) (mK_can (k := (xk, xf)) h5 hm7 hknk) (fun h => hnin ((kq_mem (k := (xk, xf)) h5 hkall hknk).1 h)) ?_)
          refine Run.done ?_
          refine Run.cut (ι := Value × Value) [10, 101, 102, 103, 104, 105, 106, 107, 108, 109, 110, 111] (fun ⟨vq3, vk⟩ => [(10, vq3)]) (fun ⟨vq3, vk⟩ => [.own vq3 113 7 ((zs2 ++ [(vk, ((xk, xf), gp ++ [eK n ki]))]).length) (qcells (zs2 ++ [(vk, ((xk, xf), gp ++ [eK n ki]))])), .grp 71 3 (qg n (zs2 ++ [(vk, ((xk, xf), gp ++ [eK n ki]))])), .mp bm (setKv (kq (sn zs2 ++ [((xk, xf), gp ++ [eK n ki])]))), .own (.slice (some ⟨gc, 0, none⟩) ((cnP n n).length) c_uc1) 71 3 ((cnP n n).length) (ints (flCX (cnP n n))), .blk b9 113 (qcell ((.slice gA (gp.length) gcp : Value), ((gk, gf), gp))), .blk b3 108 (ints (kc (idL n) (apF ms n))), .blk b2 108 (ints (kc m gq)), .blk b1 28 [.slice Av n cv]]) (fun ⟨vq3, vk⟩ => True) ?_ ?_
          ·refine Run.heldB (base := [.blk b11 108 (ints (kc xk xf)), .blk b10 71 [.int .i64 9, .int .i64 (((ga : Nat) : Int)), .int .i64 (((gb : Nat) : Int))], .mp bm (setKv (kq (sn zs2 ++ [((xk, xf), gp ++ [eK n ki])]))), .own (.slice (some ⟨gc, 0, none⟩) ((cnP n n).length) c_uc1) 71 3 ((cnP n n).length) (ints (flCX (cnP n n))), .blk b9 113 (qcell ((.slice gA (gp.length) gcp : Value), ((gk, gf), gp))), .blk b3 108 (ints (kc (idL n) (apF ms n))), .blk b2 108 (ints (kc m gq)), .blk b1 28 [.slice Av n cv]]) (by kernel_rfl) ?_
           refine DW.take (i := 0) (v := vq2) rfl (by kernel_rfl) (by kernel_rfl) (by kernel_rfl) (fun _ _ _ h => h) (Some'.weak (.take (.take (.skip (.skip (.take (.take (.take (.take (.take (.take (.nil _)))))))))))) rfl (OpY.pure rfl) ?_
           refine DW.take (i := 1) (v := .agg #[.int .i64 (((nx xk 0 : Nat) : Int)), .int .i64 (((nx xk 1 : Nat) : Int)), .int .i64 (((nx xk 2 : Nat) : Int)), .int .i64 (((nx xk 3 : Nat) : Int)), .int .i64 (((nx xk 4 : Nat) : Int)), .int .i64 (((xf : Nat) : Int))]) rfl (by kernel_rfl) (by kernel_rfl) (by kernel_rfl) (fun _ _ _ h => h) (Some'.weak (.take (.take (.skip (.skip (.take (.take (.take (.take (.take (.take (.nil _)))))))))))) rfl (OpY.loadN (cs := [.int .i64 (((nx xk 0 : Nat) : Int)), .int .i64 (((nx xk 1 : Nat) : Int)), .int .i64 (((nx xk 2 : Nat) : Int)), .int .i64 (((nx xk 3 : Nat) : Int)), .int .i64 (((nx xk 4 : Nat) : Int)), .int .i64 (((xf : Nat) : Int))]) Tagg_108 rfl (Cells.blk (.head _) ⟨rfl, rfl, rfl, rfl, rfl, rfl, trivial⟩)) ?_
           refine DW.take (i := 2) (v := .pointer (some ⟨b9, 6, none⟩)) rfl (by kernel_rfl) (by kernel_rfl) (by kernel_rfl) (fun _ _ _ h => h) (Some'.weak (.take (.take (.skip (.skip (.take (.take (.take (.take (.take (.take (.nil _)))))))))))) rfl (OpY.fieldAddr Tfo_113_1 rfl rfl) ?_
           refine DW.take (i := 3) (v := .slice gA (gp.length) gcp) rfl (by kernel_rfl) (by kernel_rfl) (by kernel_rfl) (fun _ _ _ h => h) (Some'.weak (.take (.take (.skip (.skip (.take (.take (.take (.take (.take (.take (.nil _)))))))))))) rfl (OpY.load1 Tone_36 rfl (Cells.blk (.tail _ (.tail _ (.tail _ (.tail _ (List.Mem.head _))))) ⟨rfl, trivial⟩)) ?_
           refine DW.take (i := 5) (v := .agg #[.int .i64 9, .int .i64 (((ga : Nat) : Int)), .int .i64 (((gb : Nat) : Int))]) rfl (by kernel_rfl) (by kernel_rfl) (by kernel_rfl) (fun _ _ _ h => h) (Some'.weak (.take (.take (.skip (.skip (.take (.take (.take (.take (.take (.take (.nil _)))))))))))) rfl (OpY.loadN (cs := [.int .i64 9, .int .i64 (((ga : Nat) : Int)), .int .i64 (((gb : Nat) : Int))]) Tagg_71 rfl (Cells.blk (.tail _ (List.Mem.head _)) ⟨rfl, rfl, rfl, trivial⟩)) ?_
           refine DW.two (i := 4) (j := 6) (by kernel_rfl) rfl rfl rfl rfl ?_ ?_
           ·refine OpStep.call (vs := [.slice gA (gp.length) gcp]) (caps := []) Tcall_96 rfl rfl (fun w hs => CloneGate_spec (by show gp.length ≤ 1048576; omega) (hs.slGrpR (p := qm n (.slice gA (gp.length) gcp : Value) gp) (.tail _ (.tail _ (.tail _ (List.Mem.head _)))) hgm)) ?_
            rintro uk _ rfl
            refine ⟨(Some'.weak (.skip (.take (.take (.skip (.skip (.take (.take (.take (.take (.take (.take (.nil _))))))))))))), ?_⟩
            refine DW.step (i := 6) (by kernel_rfl) rfl rfl (OpStep.buildSlice (us := [.int .i64 9, .int .i64 (((ga : Nat) : Int)), .int .i64 (((gb : Nat) : Int))]) Tsl_36 (by decide) (by decide) ⟨rfl, [.int .i64 9, .int .i64 (((ga : Nat) : Int)), .int .i64 (((gb : Nat) : Int))], _, rfl, rfl, rfl, rfl⟩ rfl fun b12 => ?_)
            refine ⟨(Some'.weak (.skip (.skip (.take (.take (.skip (.skip (.take (.take (.take (.take (.take (.take (.nil _)))))))))))))), ?_⟩
            refine DW.step (i := 7) (by kernel_rfl) rfl rfl (OpStep.append (H1 := [.own (.slice (some ⟨b12, 0, none⟩) 1 1) 71 3 1 ([.int .i64 9, .int .i64 (((ga : Nat) : Int)), .int .i64 (((gb : Nat) : Int))])]) (H2 := [.blk b11 108 (ints (kc xk xf)), .blk b10 71 [.int .i64 9, .int .i64 (((ga : Nat) : Int)), .int .i64 (((gb : Nat) : Int))], .own vq2 113 7 (zs2.length) (qcells zs2), .grp 71 3 (qg n zs2), .mp bm (setKv (kq (sn zs2 ++ [((xk, xf), gp ++ [eK n ki])]))), .own (.slice (some ⟨gc, 0, none⟩) ((cnP n n).length) c_uc1) 71 3 ((cnP n n).length) (ints (flCX (cnP n n))), .blk b9 113 (qcell ((.slice gA (gp.length) gcp : Value), ((gk, gf), gp))), .blk b3 108 (ints (kc (idL n) (apF ms n))), .blk b2 108 (ints (kc m gq)), .blk b1 28 [.slice Av n cv]]) (v := uk) (u := .slice (some ⟨b12, 0, none⟩) 1 1) (n := gp.length) (m := 1) (xs := ints (flCX (dcw n gp))) (ys := [.int .i64 9, .int .i64 (((ga : Nat) : Int)), .int .i64 (((gb : Nat) : Int))]) Tsl_36 (by decide) rfl rfl rfl rfl (fun w hs => hs.slOwn (.head _)) (by simp [Value.oneCell']) (by omega) (by simp only [maxLen]; omega) fun av1 hnav1 => ?_)
            refine DW.weakS (H' := [.own (.slice (some ⟨b12, 0, none⟩) 1 1) 71 3 1 ([.int .i64 9, .int .i64 (((ga : Nat) : Int)), .int .i64 (((gb : Nat) : Int))]), .own av1 71 3 ((gp ++ [eK n ki]).length) (ints (flCX (dcw n (gp ++ [eK n ki])))), .blk b11 108 (ints (kc xk xf)), .blk b10 71 [.int .i64 9, .int .i64 (((ga : Nat) : Int)), .int .i64 (((gb : Nat) : Int))], .own vq2 113 7 (zs2.length) (qcells zs2), .grp 71 3 (qg n zs2), .mp bm (setKv (kq (sn zs2 ++ [((xk, xf), gp ++ [eK n ki])]))), .own (.slice (some ⟨gc, 0, none⟩) ((cnP n n).length) c_uc1) 71 3 ((cnP n n).length) (ints (flCX (cnP n n))), .blk b9 113 (qcell ((.slice gA (gp.length) gcp : Value), ((gk, gf), gp))), .blk b3 108 (ints (kc (idL n) (apF ms n))), .blk b2 108 (ints (kc m gq)), .blk b1 28 [.slice Av n cv]]) (Some'.weak (.take (.takeEq (by rw [hgl2, ← hgx]) (.take (.take (.take (.take (.take (.take (.take (.take (.take (.take (.nil _)))))))))))))) ?_
            refine ⟨(Some'.weak (.skip (.skip (.take (.take (.skip (.skip (.take (.take (.take (.take (.take (.take (.nil _)))))))))))))), ?_⟩
            refine DW.formOwn (.tail _ (List.Mem.head _)) (fun A_av11 c_av11 hv hcapc_av11 hmaxc_av11 => ?_)
            subst hv
            refine DW.take (i := 8) (v := .agg #[.int .i64 (((nx xk 0 : Nat) : Int)), .int .i64 (((nx xk 1 : Nat) : Int)), .int .i64 (((nx xk 2 : Nat) : Int)), .int .i64 (((nx xk 3 : Nat) : Int)), .int .i64 (((nx xk 4 : Nat) : Int)), .int .i64 (((xf : Nat) : Int)), .slice A_av11 ((gp ++ [eK n ki]).length) c_av11]) rfl (by kernel_rfl) (by kernel_rfl) (by kernel_rfl) (fun _ _ _ h => h) (Some'.weak (.skip (.skip (.take (.take (.skip (.skip (.take (.take (.take (.take (.take (.take (.nil _)))))))))))))) rfl (OpY.build (cs := [.int .i64 (((nx xk 0 : Nat) : Int)), .int .i64 (((nx xk 1 : Nat) : Int)), .int .i64 (((nx xk 2 : Nat) : Int)), .int .i64 (((nx xk 3 : Nat) : Int)), .int .i64 (((nx xk 4 : Nat) : Int)), .int .i64 (((xf : Nat) : Int)), .slice A_av11 ((gp ++ [eK n ki]).length) c_av11]) (by kernel_rfl)) ?_
            refine DW.weak (H' := [.grp 71 3 (qg n (zs2 ++ [((.slice A_av11 ((gp ++ [eK n ki]).length) c_av11 : Value), ((xk, xf), gp ++ [eK n ki]))])), .own (.slice (some ⟨b12, 0, none⟩) 1 1) 71 3 1 ([.int .i64 9, .int .i64 (((ga : Nat) : Int)), .int .i64 (((gb : Nat) : Int))]), .blk b11 108 (ints (kc xk xf)), .blk b10 71 [.int .i64 9, .int .i64 (((ga : Nat) : Int)), .int .i64 (((gb : Nat) : Int))], .own vq2 113 7 (zs2.length) (qcells zs2), .mp bm (setKv (kq (sn zs2 ++ [((xk, xf), gp ++ [eK n ki])]))), .own (.slice (some ⟨gc, 0, none⟩) ((cnP n n).length) c_uc1) 71 3 ((cnP n n).length) (ints (flCX (cnP n n))), .blk b9 113 (qcell ((.slice gA (gp.length) gcp : Value), ((gk, gf), gp))), .blk b3 108 (ints (kc (idL n) (apF ms n))), .blk b2 108 (ints (kc m gq)), .blk b1 28 [.slice Av n cv]]) ((Weak.selF [1, 4]).trans Weak.qgSnoc) ?_
            refine DW.step (i := 9) (by kernel_rfl) rfl rfl (OpStep.buildSlice (us := [.int .i64 (((nx xk 0 : Nat) : Int)), .int .i64 (((nx xk 1 : Nat) : Int)), .int .i64 (((nx xk 2 : Nat) : Int)), .int .i64 (((nx xk 3 : Nat) : Int)), .int .i64 (((nx xk 4 : Nat) : Int)), .int .i64 (((xf : Nat) : Int)), .slice A_av11 ((gp ++ [eK n ki]).length) c_av11]) Tsl_114 (by decide) (by decide) ⟨rfl, [.int .i64 (((nx xk 0 : Nat) : Int)), .int .i64 (((nx xk 1 : Nat) : Int)), .int .i64 (((nx xk 2 : Nat) : Int)), .int .i64 (((nx xk 3 : Nat) : Int)), .int .i64 (((nx xk 4 : Nat) : Int)), .int .i64 (((xf : Nat) : Int)), .slice A_av11 ((gp ++ [eK n ki]).length) c_av11], _, rfl, rfl, rfl, rfl⟩ rfl fun b13 => ?_)
            refine ⟨(Some'.weak (.skip (.skip (.skip (.take (.take (.skip (.take (.take (.take (.take (.take (.take (.nil _)))))))))))))), ?_⟩
            refine DW.step (i := 10) (by kernel_rfl) rfl rfl (OpStep.append (H1 := [.own (.slice (some ⟨b13, 0, none⟩) 1 1) 113 7 1 ([.int .i64 (((nx xk 0 : Nat) : Int)), .int .i64 (((nx xk 1 : Nat) : Int)), .int .i64 (((nx xk 2 : Nat) : Int)), .int .i64 (((nx xk 3 : Nat) : Int)), .int .i64 (((nx xk 4 : Nat) : Int)), .int .i64 (((xf : Nat) : Int)), .slice A_av11 ((gp ++ [eK n ki]).length) c_av11]), .grp 71 3 (qg n (zs2 ++ [((.slice A_av11 ((gp ++ [eK n ki]).length) c_av11 : Value), ((xk, xf), gp ++ [eK n ki]))])), .own (.slice (some ⟨b12, 0, none⟩) 1 1) 71 3 1 ([.int .i64 9, .int .i64 (((ga : Nat) : Int)), .int .i64 (((gb : Nat) : Int))]), .blk b11 108 (ints (kc xk xf)), .blk b10 71 [.int .i64 9, .int .i64 (((ga : Nat) : Int)), .int .i64 (((gb : Nat) : Int))]]) (H2 := [.mp bm (setKv (kq (sn zs2 ++ [((xk, xf), gp ++ [eK n ki])]))), .own (.slice (some ⟨gc, 0, none⟩) ((cnP n n).length) c_uc1) 71 3 ((cnP n n).length) (ints (flCX (cnP n n))), .blk b9 113 (qcell ((.slice gA (gp.length) gcp : Value), ((gk, gf), gp))), .blk b3 108 (ints (kc (idL n) (apF ms n))), .blk b2 108 (ints (kc m gq)), .blk b1 28 [.slice Av n cv]]) (v := vq2) (u := .slice (some ⟨b13, 0, none⟩) 1 1) (n := zs2.length) (m := 1) (xs := qcells zs2) (ys := [.int .i64 (((nx xk 0 : Nat) : Int)), .int .i64 (((nx xk 1 : Nat) : Int)), .int .i64 (((nx xk 2 : Nat) : Int)), .int .i64 (((nx xk 3 : Nat) : Int)), .int .i64 (((nx xk 4 : Nat) : Int)), .int .i64 (((xf : Nat) : Int)), .slice A_av11 ((gp ++ [eK n ki]).length) c_av11]) Tsl_114 (by decide) rfl rfl rfl rfl (fun w hs => hs.slOwn (.head _)) (by simp [Value.oneCell']) (by omega) (by simp only [maxLen]; omega) fun av2 hnav2 => ?_)
            refine DW.weakS (H' := [.own (.slice (some ⟨b13, 0, none⟩) 1 1) 113 7 1 ([.int .i64 (((nx xk 0 : Nat) : Int)), .int .i64 (((nx xk 1 : Nat) : Int)), .int .i64 (((nx xk 2 : Nat) : Int)), .int .i64 (((nx xk 3 : Nat) : Int)), .int .i64 (((nx xk 4 : Nat) : Int)), .int .i64 (((xf : Nat) : Int)), .slice A_av11 ((gp ++ [eK n ki]).length) c_av11]), .grp 71 3 (qg n (zs2 ++ [((.slice A_av11 ((gp ++ [eK n ki]).length) c_av11 : Value), ((xk, xf), gp ++ [eK n ki]))])), .own (.slice (some ⟨b12, 0, none⟩) 1 1) 71 3 1 ([.int .i64 9, .int .i64 (((ga : Nat) : Int)), .int .i64 (((gb : Nat) : Int))]), .blk b11 108 (ints (kc xk xf)), .blk b10 71 [.int .i64 9, .int .i64 (((ga : Nat) : Int)), .int .i64 (((gb : Nat) : Int))], .own av2 113 7 ((zs2 ++ [((.slice A_av11 ((gp ++ [eK n ki]).length) c_av11 : Value), ((xk, xf), gp ++ [eK n ki]))]).length) (qcells (zs2 ++ [((.slice A_av11 ((gp ++ [eK n ki]).length) c_av11 : Value), ((xk, xf), gp ++ [eK n ki]))])), .mp bm (setKv (kq (sn zs2 ++ [((xk, xf), gp ++ [eK n ki])]))), .own (.slice (some ⟨gc, 0, none⟩) ((cnP n n).length) c_uc1) 71 3 ((cnP n n).length) (ints (flCX (cnP n n))), .blk b9 113 (qcell ((.slice gA (gp.length) gcp : Value), ((gk, gf), gp))), .blk b3 108 (ints (kc (idL n) (apF ms n))), .blk b2 108 (ints (kc m gq)), .blk b1 28 [.slice Av n cv]]) (Some'.weak (.take (.take (.take (.take (.take (.takeEq (by rw [← qcells_snoc]; exact congrArg (fun k => Res.own _ _ _ k _) (by simp)) (.take (.take (.take (.take (.take (.take (.nil _)))))))))))))) ?_
            refine ⟨(Some'.weak (.skip (.skip (.skip (.take (.take (.skip (.take (.take (.take (.take (.take (.take (.nil _)))))))))))))), ?_⟩
            refine DW.take (i := 11) (v := av2) rfl (by kernel_rfl) (by kernel_rfl) (by kernel_rfl) (fun _ _ _ h => h) (Some'.weak (.skip (.skip (.skip (.take (.take (.skip (.take (.take (.take (.take (.take (.take (.nil _)))))))))))))) rfl (OpY.pure rfl) ?_
            refine DW.done (by kernel_rfl) ?_
            refine Run.goal ⟨(by repeat (first | exact Same.refl _ _ | refine Same.put rfl ?_ | refine Same.over rfl rfl ?_)), (av2, (.slice A_av11 ((gp ++ [eK n ki]).length) c_av11 : Value)), ?_, ?_, ?_⟩
            ·trivial
            ·exact ⟨(by first | rfl | (congr 1; omega) | simp [*]), trivial⟩
            ·exact ((Weak.selF [5, 1, 4, 4, 4, 4, 4, 4]).trans (Some'.weak (.takeEq (by first | rfl | simp) (.takeEq (by first | rfl | simp) (.takeEq (by first | rfl | simp) (.takeEq (by first | rfl | simp) (.takeEq (by first | rfl | simp) (.takeEq (by first | rfl | simp) (.takeEq (by first | rfl | simp) (.take (.nil _)))))))))))
           ·refine OpStep.buildSlice (us := [.int .i64 9, .int .i64 (((ga : Nat) : Int)), .int .i64 (((gb : Nat) : Int))]) Tsl_36 (by decide) (by decide) ⟨rfl, [.int .i64 9, .int .i64 (((ga : Nat) : Int)), .int .i64 (((gb : Nat) : Int))], _, rfl, rfl, rfl, rfl⟩ rfl fun b14 => ?_
            refine ⟨(Some'.weak (.skip (.take (.take (.skip (.skip (.take (.take (.take (.take (.take (.take (.nil _))))))))))))), ?_⟩
            refine DW.step (i := 4) (by kernel_rfl) rfl rfl (OpStep.call (vs := [.slice gA (gp.length) gcp]) (caps := []) Tcall_96 rfl rfl (fun w hs => CloneGate_spec (by show gp.length ≤ 1048576; omega) (hs.slGrpR (p := qm n (.slice gA (gp.length) gcp : Value) gp) (.tail _ (.tail _ (.tail _ (.tail _ (List.Mem.head _))))) hgm)) ?_)
            rintro uk _ rfl
            refine ⟨(Some'.weak (.skip (.skip (.take (.take (.skip (.skip (.take (.take (.take (.take (.take (.take (.nil _)))))))))))))), ?_⟩
            refine DW.step (i := 7) (by kernel_rfl) rfl rfl (OpStep.append (H1 := []) (H2 := [.own (.slice (some ⟨b14, 0, none⟩) 1 1) 71 3 1 ([.int .i64 9, .int .i64 (((ga : Nat) : Int)), .int .i64 (((gb : Nat) : Int))]), .blk b11 108 (ints (kc xk xf)), .blk b10 71 [.int .i64 9, .int .i64 (((ga : Nat) : Int)), .int .i64 (((gb : Nat) : Int))], .own vq2 113 7 (zs2.length) (qcells zs2), .grp 71 3 (qg n zs2), .mp bm (setKv (kq (sn zs2 ++ [((xk, xf), gp ++ [eK n ki])]))), .own (.slice (some ⟨gc, 0, none⟩) ((cnP n n).length) c_uc1) 71 3 ((cnP n n).length) (ints (flCX (cnP n n))), .blk b9 113 (qcell ((.slice gA (gp.length) gcp : Value), ((gk, gf), gp))), .blk b3 108 (ints (kc (idL n) (apF ms n))), .blk b2 108 (ints (kc m gq)), .blk b1 28 [.slice Av n cv]]) (v := uk) (u := .slice (some ⟨b14, 0, none⟩) 1 1) (n := gp.length) (m := 1) (xs := ints (flCX (dcw n gp))) (ys := [.int .i64 9, .int .i64 (((ga : Nat) : Int)), .int .i64 (((gb : Nat) : Int))]) Tsl_36 (by decide) rfl rfl rfl rfl (fun w hs => hs.slOwn (.tail _ (List.Mem.head _))) (by simp [Value.oneCell']) (by omega) (by simp only [maxLen]; omega) fun av3 hnav3 => ?_)
            refine DW.weakS (H' := [.own av3 71 3 ((gp ++ [eK n ki]).length) (ints (flCX (dcw n (gp ++ [eK n ki])))), .own (.slice (some ⟨b14, 0, none⟩) 1 1) 71 3 1 ([.int .i64 9, .int .i64 (((ga : Nat) : Int)), .int .i64 (((gb : Nat) : Int))]), .blk b11 108 (ints (kc xk xf)), .blk b10 71 [.int .i64 9, .int .i64 (((ga : Nat) : Int)), .int .i64 (((gb : Nat) : Int))], .own vq2 113 7 (zs2.length) (qcells zs2), .grp 71 3 (qg n zs2), .mp bm (setKv (kq (sn zs2 ++ [((xk, xf), gp ++ [eK n ki])]))), .own (.slice (some ⟨gc, 0, none⟩) ((cnP n n).length) c_uc1) 71 3 ((cnP n n).length) (ints (flCX (cnP n n))), .blk b9 113 (qcell ((.slice gA (gp.length) gcp : Value), ((gk, gf), gp))), .blk b3 108 (ints (kc (idL n) (apF ms n))), .blk b2 108 (ints (kc m gq)), .blk b1 28 [.slice Av n cv]]) (Some'.weak (.takeEq (by rw [hgl2, ← hgx]) (.take (.take (.take (.take (.take (.take (.take (.take (.take (.take (.take (.nil _)))))))))))))) ?_
            refine ⟨(Some'.weak (.skip (.skip (.take (.take (.skip (.skip (.take (.take (.take (.take (.take (.take (.nil _)))))))))))))), ?_⟩
            refine DW.formOwn (.head _) (fun A_av31 c_av31 hv hcapc_av31 hmaxc_av31 => ?_)
            subst hv
            refine DW.take (i := 8) (v := .agg #[.int .i64 (((nx xk 0 : Nat) : Int)), .int .i64 (((nx xk 1 : Nat) : Int)), .int .i64 (((nx xk 2 : Nat) : Int)), .int .i64 (((nx xk 3 : Nat) : Int)), .int .i64 (((nx xk 4 : Nat) : Int)), .int .i64 (((xf : Nat) : Int)), .slice A_av31 ((gp ++ [eK n ki]).length) c_av31]) rfl (by kernel_rfl) (by kernel_rfl) (by kernel_rfl) (fun _ _ _ h => h) (Some'.weak (.skip (.skip (.take (.take (.skip (.skip (.take (.take (.take (.take (.take (.take (.nil _)))))))))))))) rfl (OpY.build (cs := [.int .i64 (((nx xk 0 : Nat) : Int)), .int .i64 (((nx xk 1 : Nat) : Int)), .int .i64 (((nx xk 2 : Nat) : Int)), .int .i64 (((nx xk 3 : Nat) : Int)), .int .i64 (((nx xk 4 : Nat) : Int)), .int .i64 (((xf : Nat) : Int)), .slice A_av31 ((gp ++ [eK n ki]).length) c_av31]) (by kernel_rfl)) ?_
            refine DW.weak (H' := [.grp 71 3 (qg n (zs2 ++ [((.slice A_av31 ((gp ++ [eK n ki]).length) c_av31 : Value), ((xk, xf), gp ++ [eK n ki]))])), .own (.slice (some ⟨b14, 0, none⟩) 1 1) 71 3 1 ([.int .i64 9, .int .i64 (((ga : Nat) : Int)), .int .i64 (((gb : Nat) : Int))]), .blk b11 108 (ints (kc xk xf)), .blk b10 71 [.int .i64 9, .int .i64 (((ga : Nat) : Int)), .int .i64 (((gb : Nat) : Int))], .own vq2 113 7 (zs2.length) (qcells zs2), .mp bm (setKv (kq (sn zs2 ++ [((xk, xf), gp ++ [eK n ki])]))), .own (.slice (some ⟨gc, 0, none⟩) ((cnP n n).length) c_uc1) 71 3 ((cnP n n).length) (ints (flCX (cnP n n))), .blk b9 113 (qcell ((.slice gA (gp.length) gcp : Value), ((gk, gf), gp))), .blk b3 108 (ints (kc (idL n) (apF ms n))), .blk b2 108 (ints (kc m gq)), .blk b1 28 [.slice Av n cv]]) ((Weak.selF [0, 4]).trans Weak.qgSnoc) ?_
            refine DW.step (i := 9) (by kernel_rfl) rfl rfl (OpStep.buildSlice (us := [.int .i64 (((nx xk 0 : Nat) : Int)), .int .i64 (((nx xk 1 : Nat) : Int)), .int .i64 (((nx xk 2 : Nat) : Int)), .int .i64 (((nx xk 3 : Nat) : Int)), .int .i64 (((nx xk 4 : Nat) : Int)), .int .i64 (((xf : Nat) : Int)), .slice A_av31 ((gp ++ [eK n ki]).length) c_av31]) Tsl_114 (by decide) (by decide) ⟨rfl, [.int .i64 (((nx xk 0 : Nat) : Int)), .int .i64 (((nx xk 1 : Nat) : Int)), .int .i64 (((nx xk 2 : Nat) : Int)), .int .i64 (((nx xk 3 : Nat) : Int)), .int .i64 (((nx xk 4 : Nat) : Int)), .int .i64 (((xf : Nat) : Int)), .slice A_av31 ((gp ++ [eK n ki]).length) c_av31], _, rfl, rfl, rfl, rfl⟩ rfl fun b15 => ?_)
            refine ⟨(Some'.weak (.skip (.skip (.skip (.take (.take (.skip (.take (.take (.take (.take (.take (.take (.nil _)))))))))))))), ?_⟩
            refine DW.step (i := 10) (by kernel_rfl) rfl rfl (OpStep.append (H1 := [.own (.slice (some ⟨b15, 0, none⟩) 1 1) 113 7 1 ([.int .i64 (((nx xk 0 : Nat) : Int)), .int .i64 (((nx xk 1 : Nat) : Int)), .int .i64 (((nx xk 2 : Nat) : Int)), .int .i64 (((nx xk 3 : Nat) : Int)), .int .i64 (((nx xk 4 : Nat) : Int)), .int .i64 (((xf : Nat) : Int)), .slice A_av31 ((gp ++ [eK n ki]).length) c_av31]), .grp 71 3 (qg n (zs2 ++ [((.slice A_av31 ((gp ++ [eK n ki]).length) c_av31 : Value), ((xk, xf), gp ++ [eK n ki]))])), .own (.slice (some ⟨b14, 0, none⟩) 1 1) 71 3 1 ([.int .i64 9, .int .i64 (((ga : Nat) : Int)), .int .i64 (((gb : Nat) : Int))]), .blk b11 108 (ints (kc xk xf)), .blk b10 71 [.int .i64 9, .int .i64 (((ga : Nat) : Int)), .int .i64 (((gb : Nat) : Int))]]) (H2 := [.mp bm (setKv (kq (sn zs2 ++ [((xk, xf), gp ++ [eK n ki])]))), .own (.slice (some ⟨gc, 0, none⟩) ((cnP n n).length) c_uc1) 71 3 ((cnP n n).length) (ints (flCX (cnP n n))), .blk b9 113 (qcell ((.slice gA (gp.length) gcp : Value), ((gk, gf), gp))), .blk b3 108 (ints (kc (idL n) (apF ms n))), .blk b2 108 (ints (kc m gq)), .blk b1 28 [.slice Av n cv]]) (v := vq2) (u := .slice (some ⟨b15, 0, none⟩) 1 1) (n := zs2.length) (m := 1) (xs := qcells zs2) (ys := [.int .i64 (((nx xk 0 : Nat) : Int)), .int .i64 (((nx xk 1 : Nat) : Int)), .int .i64 (((nx xk 2 : Nat) : Int)), .int .i64 (((nx xk 3 : Nat) : Int)), .int .i64 (((nx xk 4 : Nat) : Int)), .int .i64 (((xf : Nat) : Int)), .slice A_av31 ((gp ++ [eK n ki]).length) c_av31]) Tsl_114 (by decide) rfl rfl rfl rfl (fun w hs => hs.slOwn (.head _)) (by simp [Value.oneCell']) (by omega) (by simp only [maxLen]; omega) fun av4 hnav4 => ?_)
            refine DW.weakS (H' := [.own (.slice (some ⟨b15, 0, none⟩) 1 1) 113 7 1 ([.int .i64 (((nx xk 0 : Nat) : Int)), .int .i64 (((nx xk 1 : Nat) : Int)), .int .i64 (((nx xk 2 : Nat) : Int)), .int .i64 (((nx xk 3 : Nat) : Int)), .int .i64 (((nx xk 4 : Nat) : Int)), .int .i64 (((xf : Nat) : Int)), .slice A_av31 ((gp ++ [eK n ki]).length) c_av31]), .grp 71 3 (qg n (zs2 ++ [((.slice A_av31 ((gp ++ [eK n ki]).length) c_av31 : Value), ((xk, xf), gp ++ [eK n ki]))])), .own (.slice (some ⟨b14, 0, none⟩) 1 1) 71 3 1 ([.int .i64 9, .int .i64 (((ga : Nat) : Int)), .int .i64 (((gb : Nat) : Int))]), .blk b11 108 (ints (kc xk xf)), .blk b10 71 [.int .i64 9, .int .i64 (((ga : Nat) : Int)), .int .i64 (((gb : Nat) : Int))], .own av4 113 7 ((zs2 ++ [((.slice A_av31 ((gp ++ [eK n ki]).length) c_av31 : Value), ((xk, xf), gp ++ [eK n ki]))]).length) (qcells (zs2 ++ [((.slice A_av31 ((gp ++ [eK n ki]).length) c_av31 : Value), ((xk, xf), gp ++ [eK n ki]))])), .mp bm (setKv (kq (sn zs2 ++ [((xk, xf), gp ++ [eK n ki])]))), .own (.slice (some ⟨gc, 0, none⟩) ((cnP n n).length) c_uc1) 71 3 ((cnP n n).length) (ints (flCX (cnP n n))), .blk b9 113 (qcell ((.slice gA (gp.length) gcp : Value), ((gk, gf), gp))), .blk b3 108 (ints (kc (idL n) (apF ms n))), .blk b2 108 (ints (kc m gq)), .blk b1 28 [.slice Av n cv]]) (Some'.weak (.take (.take (.take (.take (.take (.takeEq (by rw [← qcells_snoc]; exact congrArg (fun k => Res.own _ _ _ k _) (by simp)) (.take (.take (.take (.take (.take (.take (.nil _)))))))))))))) ?_
            refine ⟨(Some'.weak (.skip (.skip (.skip (.take (.take (.skip (.take (.take (.take (.take (.take (.take (.nil _)))))))))))))), ?_⟩
            refine DW.take (i := 11) (v := av4) rfl (by kernel_rfl) (by kernel_rfl) (by kernel_rfl) (fun _ _ _ h => h) (Some'.weak (.skip (.skip (.skip (.take (.take (.skip (.take (.take (.take (.take (.take (.take (.nil _)))))))))))))) rfl (OpY.pure rfl) ?_
            refine DW.done (by kernel_rfl) ?_
            refine Run.goal ⟨(by repeat (first | exact Same.refl _ _ | refine Same.put rfl ?_ | refine Same.over rfl rfl ?_)), (av4, (.slice A_av31 ((gp ++ [eK n ki]).length) c_av31 : Value)), ?_, ?_, ?_⟩
            ·trivial
            ·exact ⟨(by first | rfl | (congr 1; omega) | simp [*]), trivial⟩
            ·exact ((Weak.selF [5, 1, 4, 4, 4, 4, 4, 4]).trans (Some'.weak (.takeEq (by first | rfl | simp) (.takeEq (by first | rfl | simp) (.takeEq (by first | rfl | simp) (.takeEq (by first | rfl | simp) (.takeEq (by first | rfl | simp) (.takeEq (by first | rfl | simp) (.takeEq (by first | rfl | simp) (.take (.nil _)))))))))))
          ·rintro ⟨vq3, vk⟩ fr hcut
           show Run _ _ (over _ _ [(10, vq3)] fr) [.own vq3 113 7 ((zs2 ++ [(vk, ((xk, xf), gp ++ [eK n ki]))]).length) (qcells (zs2 ++ [(vk, ((xk, xf), gp ++ [eK n ki]))])), .grp 71 3 (qg n (zs2 ++ [(vk, ((xk, xf), gp ++ [eK n ki]))])), .mp bm (setKv (kq (sn zs2 ++ [((xk, xf), gp ++ [eK n ki])]))), .own (.slice (some ⟨gc, 0, none⟩) ((cnP n n).length) c_uc1) 71 3 ((cnP n n).length) (ints (flCX (cnP n n))), .blk b9 113 (qcell ((.slice gA (gp.length) gcp : Value), ((gk, gf), gp))), .blk b3 108 (ints (kc (idL n) (apF ms n))), .blk b2 108 (ints (kc m gq)), .blk b1 28 [.slice Av n cv]]
           refine Run.blockEnd ?_
           refine Run.region ?_
           refine Run.y (.int .i64 ((((ki : Nat) : Int)) + 1)) rfl (OpY.add rfl rfl rfl (by omega) (by omega)) ?_
           refine Run.p (.int .i64 ((((ki : Nat) : Int)) + 1)) rfl rfl ?_
           refine Run.done ?_
           refine Run.goal ⟨(by repeat (first | exact Same.refl _ _ | refine Same.put rfl ?_ | refine Same.over rfl rfl ?_)), (ki + 1, vq3, (zs2 ++ [(vk, ((xk, xf), gp ++ [eK n ki]))])), ?_, ?_, ?_, ?_⟩
           ·first | exact ⟨hki, hbv.symm, tz, htz⟩ | exact ⟨hki, by rw [hbv]; simp [sn], tz ++ [_], by rw [htz, List.append_assoc]⟩
           ·show (cnP n n).length - (ki + 1) < (cnP n n).length - ki; omega
           ·exact ⟨(by first | rfl | (congr 1; omega) | simp), (by first | rfl | (congr 1; omega) | simp), trivial⟩
           ·exact ((Weak.refl _).trans (Some'.weak (.takeEq (by first | rfl | simp [sn]) (.takeEq (by first | rfl | simp [sn]) (.takeEq (by first | rfl | simp [sn]) (.takeEq (by first | rfl | simp [sn]) (.takeEq (by first | rfl | simp [sn]) (.takeEq (by first | rfl | simp [sn]) (.takeEq (by first | rfl | simp [sn]) (.take (.nil _)))))))))))
         ·have p98 := h98; try simp only [bs] at p98
          have hyin : (xk, xf) ∈ (sn zs2).map (·.1) := by simpa using h98
          have hbv : brow (lstep n ms) (lok n) ((gk, gf), gp) (mQ n ms ai) (eK n (ki + 1)) = sn zs2 := by rw [hrow, ← hzq2, bvis, if_neg (fun h => h.2 (by rw [hx]; exact hyin))]
          refine Run.skip ?_
          refine Run.blockEnd ?_
          refine Run.region ?_
          refine Run.y (.int .i64 ((((ki : Nat) : Int)) + 1)) rfl (OpY.add rfl rfl rfl (by omega) (by omega)) ?_
          refine Run.p (.int .i64 ((((ki : Nat) : Int)) + 1)) rfl rfl ?_
          refine Run.done ?_
          refine Run.goal ⟨(by repeat (first | exact Same.refl _ _ | refine Same.put rfl ?_ | refine Same.over rfl rfl ?_)), (ki + 1, vq2, zs2), ?_, ?_, ?_, ?_⟩
          ·first | exact ⟨hki, hbv.symm, tz, htz⟩ | exact ⟨hki, by rw [hbv]; simp [sn], tz ++ [_], by rw [htz, List.append_assoc]⟩
          ·show (cnP n n).length - (ki + 1) < (cnP n n).length - ki; omega
          ·exact ⟨(by first | rfl | (congr 1; omega) | simp), (by first | rfl | (congr 1; omega) | simp), trivial⟩
          ·exact ((Weak.selF [2, 2, 2, 2, 2, 2, 2, 2]).trans (Some'.weak (.takeEq (by first | rfl | simp [sn]) (.takeEq (by first | rfl | simp [sn]) (.takeEq (by first | rfl | simp [sn]) (.takeEq (by first | rfl | simp [sn]) (.takeEq (by first | rfl | simp [sn]) (.takeEq (by first | rfl | simp [sn]) (.takeEq (by first | rfl | simp [sn]) (.take (.nil _)))))))))))
        ·have p67 := h67; try simp only [bs] at p67
         have hkn : ki = (cnP n n).length := by omega
         obtain ⟨_, hzq2, ⟨tz, htz⟩⟩ := hinv
         have hQ1 : sn zs2 = mQ n ms (ai + 1) := by rw [hzq2, hkn, row_end]; exact (bfs_succ hzx).symm
         refine Run.exit rfl ?_
         refine Run.blockEnd ?_
         refine Run.region ?_
         refine Run.p (.int .i64 (((ai : Nat) : Int))) rfl rfl ?_
         refine Run.y (.int .i64 ((((ai : Nat) : Int)) + 1)) rfl (OpY.add rfl rfl rfl (by omega) (by omega)) ?_
         refine Run.p (.int .i64 ((((ai : Nat) : Int)) + 1)) rfl rfl ?_
         refine Run.done ?_
         refine Run.goal ⟨(by repeat (first | exact Same.refl _ _ | refine Same.put rfl ?_ | refine Same.over rfl rfl ?_)), (ai + 1, vq2, zs2), ?_, ?_, ?_, ?_⟩
         ·refine ⟨hQ1, fun j hj z hzj => ?_⟩
          by_cases hja : j = ai
          ·subst hja
           rw [htz, List.getElem?_append_left hai, hz] at hzj
           cases hzj; exact hkne
          ·rw [htz, List.getElem?_append_left (by omega)] at hzj
           exact hzn j (by omega) z hzj
         ·show 1000001 - (ai + 1) < 1000001 - ai; omega
         ·exact ⟨(by first | rfl | (congr 1; omega) | simp), (by first | rfl | (congr 1; omega) | simp), trivial⟩
         ·exact ((Weak.selF [0, 0, 0, 2, 2, 2]).trans (Some'.weak (.takeEq (by first | rfl | simp) (.takeEq (by first | rfl | simp) (.takeEq (by first | rfl | simp) (.takeEq (by first | rfl | simp) (.takeEq (by first | rfl | simp) (.take (.nil _)))))))))
     ·have p50 := h50; try simp only [bs] at p50
      exfalso
      obtain ⟨hzq, hzn⟩ := hinv
      have h1 := hgoal ai (by rw [← hzq, List.length_map]; omega)
      rw [← hzq] at h1
      obtain ⟨y, hy, hye⟩ := List.mem_map.1 h1
      obtain ⟨z, hzm, rfl⟩ := List.mem_map.1 hy
      obtain ⟨j, hj, hje⟩ := List.getElem_of_mem hzm
      exact hzn j (by omega) z (by rw [List.getElem?_eq_getElem hj, hje]) hye --DONE

end Go.Proofs.Yteehfidjofcfmaa
/- Walks: valid gates and circuits, the qubits of a gate. -/
set_option linter.unusedSimpArgs false
set_option linter.unusedVariables false
namespace Go.Proofs.Yteehfidjofcfmaa
open Go Go.RowKit
namespace CiT
theorem Tagg_71 : aggOf Try.prog 71 = some 3 := by kernel_rfl
theorem Tcall_100 : callable Try.prog 100 = true := by kernel_rfl
theorem Tcall_106 : callable Try.prog 106 = true := by kernel_rfl
theorem Tcall_107 : callable Try.prog 107 = true := by kernel_rfl
theorem Tcall_108 : callable Try.prog 108 = true := by kernel_rfl
theorem Tcall_129 : callable Try.prog 129 = true := by kernel_rfl
theorem Tcall_130 : callable Try.prog 130 = true := by kernel_rfl
theorem Tcall_73 : callable Try.prog 73 = true := by kernel_rfl
theorem Tfo_38_0 : fieldOff Try.prog 38 0 = some 0 := by kernel_rfl
theorem Tfo_38_1 : fieldOff Try.prog 38 1 = some 1 := by kernel_rfl
theorem Tfo_71_0 : fieldOff Try.prog 71 0 = some 0 := by kernel_rfl
theorem Tfo_71_1 : fieldOff Try.prog 71 1 = some 1 := by kernel_rfl
theorem Tfo_71_2 : fieldOff Try.prog 71 2 = some 2 := by kernel_rfl
theorem Tone_3 : oneOf Try.prog 3 = true := by kernel_rfl
theorem Tone_36 : oneOf Try.prog 36 = true := by kernel_rfl
theorem Tsize_71 : (Try.prog.info? 71).map (·.size) = some 3 := by kernel_rfl
theorem Tsl_36 : sliceOf Try.prog 36 = some (71, 3, 24, [.int .i64 0, .int .i64 0, .int .i64 0]) := by kernel_rfl
theorem Tzero_71 : zeroOf Try.prog 71 = some [.int .i64 0, .int .i64 0, .int .i64 0] := by kernel_rfl
end CiT
open CiT
def gateOk (n k a b : Int) : Bool := decide ((1 ≤ k ∧ k ≤ 8 ∧ 0 ≤ a ∧ a < n ∧ b = 0) ∨ (9 ≤ k ∧ k ≤ 11 ∧ 0 ≤ a ∧ a < n ∧ 0 ≤ b ∧ b < n ∧ a ≠ b) ∨ (k = 12 ∧ a = 0 ∧ b = 0))
def gateAt (n : Int) (xs : List Int) (i : Nat) : Bool := gateOk n (ix xs (i * 3)) (ix xs (i * 3 + 1)) (ix xs (i * 3 + 2))
def circOk (N : Int) (xs : List Int) (n : Nat) : Bool := within N 1 5 && decide (n ≤ 400) && allI (gateAt N xs) n
theorem circOk_N {N : Int} {xs : List Int} {n : Nat} (h : circOk N xs n = true) : 1 ≤ N ∧ N ≤ 5 := by
  simp only [circOk, Bool.and_eq_true] at h; exact within_iff.1 h.1.1
theorem circOk_gate {N : Int} {xs : List Int} {n : Nat} (h : circOk N xs n = true) {i : Nat} (hi : i < n) : gateAt N xs i = true := by
  simp only [circOk, Bool.and_eq_true] at h; exact allI_iff.1 h.2 i hi
theorem gateOk_split {n k a b : Int} (h : gateOk n k a b = true) : (1 ≤ k ∧ k ≤ 8 ∧ 0 ≤ a ∧ a < n ∧ b = 0) ∨ (9 ≤ k ∧ k ≤ 11 ∧ 0 ≤ a ∧ a < n ∧ 0 ≤ b ∧ b < n ∧ a ≠ b) ∨ (k = 12 ∧ a = 0 ∧ b = 0) := of_decide_eq_true h
set_option maxHeartbeats 1000000 in
set_option maxRecDepth 20000 in
theorem isTwo_spec (k : Int) (w : World) : Calls Try.prog 130 #[.int .i64 k] w (Post No w fun v _ => v = .bool (decide (9 ≤ k ∧ k ≤ 11))) := by
 refine enter (n := 5) (args := [.int .i64 k]) Try.func130 rfl rfl (St.empty _ _) ?_
 refine Run.sr ?_
 refine Run.p (.bool false) rfl rfl ?_
 refine Run.dsr ?_
 refine Run.p (.int .i64 k) rfl rfl ?_
 refine Run.q (v := .bool (within k 9 11)) rfl (OpQ.call (vs := [.int .i64 k, .int .i64 9, .int .i64 11]) (caps := []) Tcall_73 rfl rfl (fun w hs => within_spec _ _ _ w)) ?_
 refine Run.p (.bool (within k 9 11)) rfl rfl ?_
 refine Run.done ?_
 refine Run.ret ?_
 refine ⟨.bool (within k 9 11), [], Out.one rfl rfl, (Some'.weak (.nil _)), ?_⟩
 show _ = _; rw [within, Bool.decide_and]

set_option maxHeartbeats 1000000 in
set_option maxRecDepth 20000 in
theorem IsValidGate_spec {n k a b : Int} (hn : 1 ≤ n ∧ n ≤ 5) (w : World) : Calls Try.prog 108 #[.int .i64 n, .agg #[.int .i64 k, .int .i64 a, .int .i64 b]] w (Post No w fun v _ => v = .bool (gateOk n k a b)) := by
 have hn5 := within_iff.2 hn
 refine enter (n := 60) (args := [.int .i64 n, .agg #[.int .i64 k, .int .i64 a, .int .i64 b]]) Try.func108 rfl rfl (St.empty _ _) ?_
 refine Run.sr ?_
 refine Run.step rfl (OpStep.box (us := [.int .i64 k, .int .i64 a, .int .i64 b]) rfl fun b1 => ?_)
 refine Run.p (.bool false) rfl rfl ?_
 refine Run.done ?_
 refine Run.seq ?_
 refine Run.block ?_
 refine Run.sr ?_
 refine Run.p (.int .i64 n) rfl rfl ?_
 refine Run.q (v := .bool (within n 1 5)) rfl (OpQ.call (vs := [.int .i64 n, .int .i64 1, .int .i64 5]) (caps := []) Tcall_73 rfl rfl (fun w hs => within_spec _ _ _ w)) ?_
 refine Run.p (.bool (!(within n 1 5))) rfl rfl ?_
 rcases Bool.eq_false_or_eq_true (!(within n 1 5)) with h9 | h9
 ·refine Run.q (v := .bool true) rfl (OpQ.y (OpY.moveB rfl h9)) ?_
  have p9 := h9; try simp only [bs] at p9
  refine Run.pass rfl ?_
  refine Run.pass rfl ?_
  refine Run.pass rfl ?_
  refine Run.pass rfl ?_
  refine Run.p (.bool true) rfl rfl ?_
  refine Run.p (.bool true) rfl rfl ?_
  refine Run.done ?_
  refine Run.cond (b := true) rfl (fun _ => ?_) (fun h => nomatch h)
  refine Run.sr ?_
  refine Run.p (.bool false) rfl rfl ?_
  refine Run.done ?_
  refine Run.ret ?_
  refine ⟨.bool false, [], Out.one rfl rfl, (Some'.weak (.nil _)), ?_⟩
  show _ = _; congr 1; rw [eq_comm]; simp only [within, Bool.and_eq_true, Bool.and_eq_false_iff, decide_eq_true_eq, decide_eq_false_iff_not, beq_iff_eq, Bool.not_eq_true', Bool.not_eq_false', bne_iff_ne, ne_eq, beq_eq_false_iff_ne, bne_eq_false_iff_eq] at *; unfold gateOk; first | (rw [decide_eq_true_iff]; omega) | (rw [decide_eq_false_iff_not]; omega) | (rw [Bool.eq_iff_iff, decide_eq_true_iff, beq_iff_eq]; omega) | (rw [Bool.eq_iff_iff, decide_eq_true_iff, bne_iff_ne]; omega) | (rw [Bool.eq_iff_iff, decide_eq_true_iff, within_iff]; omega)
 ·refine Run.q (v := .bool false) rfl (OpQ.y (OpY.moveB rfl h9)) ?_
  have p9 := h9; try simp only [bs] at p9
  refine Run.y (.pointer (some ⟨b1, 0, none⟩)) rfl (OpY.fieldAddr Tfo_71_0 rfl rfl) ?_
  refine Run.y (.int .i64 k) rfl (OpY.load1 Tone_3 rfl (Cells.blk (.head _) ⟨rfl, trivial⟩)) ?_
  refine Run.q (v := .bool (within k 1 12)) rfl (OpQ.call (vs := [.int .i64 k, .int .i64 1, .int .i64 12]) (caps := []) Tcall_73 rfl rfl (fun w hs => within_spec _ _ _ w)) ?_
  refine Run.p (.bool (!(within k 1 12))) rfl rfl ?_
  refine Run.p (.bool (!(within k 1 12))) rfl rfl ?_
  refine Run.p (.bool (!(within k 1 12))) rfl rfl ?_
  refine Run.done ?_
  refine Run.cond (b := !(within k 1 12)) rfl (fun h5 => ?_) (fun h5 => ?_)
  ·have p5 := h5; try simp only [bs] at p5
   refine Run.sr ?_
   refine Run.p (.bool false) rfl rfl ?_
   refine Run.done ?_
   refine Run.ret ?_
   refine ⟨.bool false, [], Out.one rfl rfl, (Some'.weak (.nil _)), ?_⟩
   show _ = _; congr 1; rw [eq_comm]; simp only [within, Bool.and_eq_true, Bool.and_eq_false_iff, decide_eq_true_eq, decide_eq_false_iff_not, beq_iff_eq, Bool.not_eq_true', Bool.not_eq_false', bne_iff_ne, ne_eq, beq_eq_false_iff_ne, bne_eq_false_iff_eq] at *; unfold gateOk; first | (rw [decide_eq_true_iff]; omega) | (rw [decide_eq_false_iff_not]; omega) | (rw [Bool.eq_iff_iff, decide_eq_true_iff, beq_iff_eq]; omega) | (rw [Bool.eq_iff_iff, decide_eq_true_iff, bne_iff_ne]; omega) | (rw [Bool.eq_iff_iff, decide_eq_true_iff, within_iff]; omega)
  ·have p5 := h5; try simp only [bs] at p5
   refine Run.sr ?_
   refine Run.y (.pointer (some ⟨b1, 0, none⟩)) rfl (OpY.fieldAddr Tfo_71_0 rfl rfl) ?_
   refine Run.y (.int .i64 k) rfl (OpY.load1 Tone_3 rfl (Cells.blk (.head _) ⟨rfl, trivial⟩)) ?_
   refine Run.p (.bool (k == 12)) rfl rfl ?_
   refine Run.p (.bool (k == 12)) rfl rfl ?_
   refine Run.done ?_
   refine Run.cond (b := k == 12) rfl (fun h15 => ?_) (fun h15 => ?_)
   ·have p15 := h15; try simp only [bs] at p15
    refine Run.sr ?_
    refine Run.y (.pointer (some ⟨b1, 1, none⟩)) rfl (OpY.fieldAddr Tfo_71_1 rfl rfl) ?_
    refine Run.y (.int .i64 a) rfl (OpY.load1 Tone_3 rfl (Cells.blk (.head _) ⟨rfl, trivial⟩)) ?_
    refine Run.p (.bool (a == 0)) rfl rfl ?_
    rcases Bool.eq_false_or_eq_true (a == 0) with h22 | h22
    ·refine Run.q (v := .bool true) rfl (OpQ.y (OpY.moveB rfl h22)) ?_
     have p22 := h22; try simp only [bs] at p22
     refine Run.y (.pointer (some ⟨b1, 2, none⟩)) rfl (OpY.fieldAddr Tfo_71_2 rfl rfl) ?_
     refine Run.y (.int .i64 b) rfl (OpY.load1 Tone_3 rfl (Cells.blk (.head _) ⟨rfl, trivial⟩)) ?_
     refine Run.p (.bool (b == 0)) rfl rfl ?_
     refine Run.p (.bool (b == 0)) rfl rfl ?_
     refine Run.p (.bool (b == 0)) rfl rfl ?_
     refine Run.done ?_
     refine Run.ret ?_
     refine ⟨.bool (b == 0), [], Out.one rfl rfl, (Some'.weak (.nil _)), ?_⟩
     show _ = _; congr 1; rw [eq_comm]; simp only [within, Bool.and_eq_true, Bool.and_eq_false_iff, decide_eq_true_eq, decide_eq_false_iff_not, beq_iff_eq, Bool.not_eq_true', Bool.not_eq_false', bne_iff_ne, ne_eq, beq_eq_false_iff_ne, bne_eq_false_iff_eq] at *; unfold gateOk; first | (rw [decide_eq_true_iff]; omega) | (rw [decide_eq_false_iff_not]; omega) | (rw [Bool.eq_iff_iff, decide_eq_true_iff, beq_iff_eq]; omega) | (rw [Bool.eq_iff_iff, decide_eq_true_iff, bne_iff_ne]; omega) | (rw [Bool.eq_iff_iff, decide_eq_true_iff, within_iff]; omega)
    ·refine Run.q (v := .bool false) rfl (OpQ.y (OpY.moveB rfl h22)) ?_
     have p22 := h22; try simp only [bs] at p22
     refine Run.pass rfl ?_
     refine Run.pass rfl ?_
     refine Run.pass rfl ?_
     refine Run.p (.bool false) rfl rfl ?_
     refine Run.p (.bool false) rfl rfl ?_
     refine Run.done ?_
     refine Run.ret ?_
     refine ⟨.bool false, [], Out.one rfl rfl, (Some'.weak (.nil _)), ?_⟩
     show _ = _; congr 1; rw [eq_comm]; simp only [within, Bool.and_eq_true, Bool.and_eq_false_iff, decide_eq_true_eq, decide_eq_false_iff_not, beq_iff_eq, Bool.not_eq_true', Bool.not_eq_false', bne_iff_ne, ne_eq, beq_eq_false_iff_ne, bne_eq_false_iff_eq] at *; unfold gateOk; first | (rw [decide_eq_true_iff]; omega) | (rw [decide_eq_false_iff_not]; omega) | (rw [Bool.eq_iff_iff, decide_eq_true_iff, beq_iff_eq]; omega) | (rw [Bool.eq_iff_iff, decide_eq_true_iff, bne_iff_ne]; omega) | (rw [Bool.eq_iff_iff, decide_eq_true_iff, within_iff]; omega)
   ·have p15 := h15; try simp only [bs] at p15
    refine Run.sr ?_
    refine Run.y (.pointer (some ⟨b1, 0, none⟩)) rfl (OpY.fieldAddr Tfo_71_0 rfl rfl) ?_
    refine Run.y (.int .i64 k) rfl (OpY.load1 Tone_3 rfl (Cells.blk (.head _) ⟨rfl, trivial⟩)) ?_
    refine Run.q (v := .bool (decide (9 ≤ k ∧ k ≤ 11))) rfl (OpQ.call (vs := [.int .i64 k]) (caps := []) Tcall_130 rfl rfl (fun w hs => isTwo_spec _ w)) ?_
    refine Run.p (.bool (decide (9 ≤ k ∧ k ≤ 11))) rfl rfl ?_
    refine Run.done ?_
    refine Run.cond (b := decide (9 ≤ k ∧ k ≤ 11)) rfl (fun h27 => ?_) (fun h27 => ?_)
    ·have p27 := h27; try simp only [bs] at p27
     refine Run.sr ?_
     refine Run.y (.pointer (some ⟨b1, 1, none⟩)) rfl (OpY.fieldAddr Tfo_71_1 rfl rfl) ?_
     refine Run.y (.int .i64 a) rfl (OpY.load1 Tone_3 rfl (Cells.blk (.head _) ⟨rfl, trivial⟩)) ?_
     refine Run.p (.int .i64 n) rfl rfl ?_
     refine Run.y (.int .i64 (n - 1)) rfl (OpY.sub rfl rfl rfl (by omega) (by omega)) ?_
     refine Run.q (v := .bool (within a 0 (n - 1))) rfl (OpQ.call (vs := [.int .i64 a, .int .i64 0, .int .i64 (n - 1)]) (caps := []) Tcall_73 rfl rfl (fun w hs => within_spec _ _ _ w)) ?_
     rcases Bool.eq_false_or_eq_true (within a 0 (n - 1)) with h36 | h36
     ·refine Run.q (v := .bool true) rfl (OpQ.y (OpY.moveB rfl h36)) ?_
      have p36 := h36; try simp only [bs] at p36
      refine Run.y (.pointer (some ⟨b1, 2, none⟩)) rfl (OpY.fieldAddr Tfo_71_2 rfl rfl) ?_
      refine Run.y (.int .i64 b) rfl (OpY.load1 Tone_3 rfl (Cells.blk (.head _) ⟨rfl, trivial⟩)) ?_
      refine Run.p (.int .i64 n) rfl rfl ?_
      refine Run.y (.int .i64 (n - 1)) rfl (OpY.sub rfl rfl rfl (by omega) (by omega)) ?_
      refine Run.q (v := .bool (within b 0 (n - 1))) rfl (OpQ.call (vs := [.int .i64 b, .int .i64 0, .int .i64 (n - 1)]) (caps := []) Tcall_73 rfl rfl (fun w hs => within_spec _ _ _ w)) ?_
      refine Run.p (.bool (within b 0 (n - 1))) rfl rfl ?_
      rcases Bool.eq_false_or_eq_true (within b 0 (n - 1)) with h43 | h43
      ·refine Run.q (v := .bool true) rfl (OpQ.y (OpY.moveB rfl h43)) ?_
       have p43 := h43; try simp only [bs] at p43
       refine Run.y (.pointer (some ⟨b1, 1, none⟩)) rfl (OpY.fieldAddr Tfo_71_1 rfl rfl) ?_
       refine Run.y (.int .i64 a) rfl (OpY.load1 Tone_3 rfl (Cells.blk (.head _) ⟨rfl, trivial⟩)) ?_
       refine Run.y (.pointer (some ⟨b1, 2, none⟩)) rfl (OpY.fieldAddr Tfo_71_2 rfl rfl) ?_
       refine Run.y (.int .i64 b) rfl (OpY.load1 Tone_3 rfl (Cells.blk (.head _) ⟨rfl, trivial⟩)) ?_
       refine Run.p (.bool (a != b)) rfl rfl ?_
       refine Run.p (.bool (a != b)) rfl rfl ?_
       refine Run.p (.bool (a != b)) rfl rfl ?_
       refine Run.done ?_
       refine Run.ret ?_
       refine ⟨.bool (a != b), [], Out.one rfl rfl, (Some'.weak (.nil _)), ?_⟩
       show _ = _; congr 1; rw [eq_comm]; simp only [within, Bool.and_eq_true, Bool.and_eq_false_iff, decide_eq_true_eq, decide_eq_false_iff_not, beq_iff_eq, Bool.not_eq_true', Bool.not_eq_false', bne_iff_ne, ne_eq, beq_eq_false_iff_ne, bne_eq_false_iff_eq] at *; unfold gateOk; first | (rw [decide_eq_true_iff]; omega) | (rw [decide_eq_false_iff_not]; omega) | (rw [Bool.eq_iff_iff, decide_eq_true_iff, beq_iff_eq]; omega) | (rw [Bool.eq_iff_iff, decide_eq_true_iff, bne_iff_ne]; omega) | (rw [Bool.eq_iff_iff, decide_eq_true_iff, within_iff]; omega)
      ·refine Run.q (v := .bool false) rfl (OpQ.y (OpY.moveB rfl h43)) ?_
       have p43 := h43; try simp only [bs] at p43
       refine Run.pass rfl ?_
       refine Run.pass rfl ?_
       refine Run.pass rfl ?_
       refine Run.pass rfl ?_
       refine Run.pass rfl ?_
       refine Run.p (.bool false) rfl rfl ?_
       refine Run.p (.bool false) rfl rfl ?_
       refine Run.done ?_
       refine Run.ret ?_
       refine ⟨.bool false, [], Out.one rfl rfl, (Some'.weak (.nil _)), ?_⟩
       show _ = _; congr 1; rw [eq_comm]; simp only [within, Bool.and_eq_true, Bool.and_eq_false_iff, decide_eq_true_eq, decide_eq_false_iff_not, beq_iff_eq, Bool.not_eq_true', Bool.not_eq_false', bne_iff_ne, ne_eq, beq_eq_false_iff_ne, bne_eq_false_iff_eq] at *; unfold gateOk; first | (rw [decide_eq_true_iff]; omega) | (rw [decide_eq_false_iff_not]; omega) | (rw [Bool.eq_iff_iff, decide_eq_true_iff, beq_iff_eq]; omega) | (rw [Bool.eq_iff_iff, decide_eq_true_iff, bne_iff_ne]; omega) | (rw [Bool.eq_iff_iff, decide_eq_true_iff, within_iff]; omega)
     ·refine Run.q (v := .bool false) rfl (OpQ.y (OpY.moveB rfl h36)) ?_
      have p36 := h36; try simp only [bs] at p36
      refine Run.pass rfl ?_
      refine Run.pass rfl ?_
      refine Run.pass rfl ?_
      refine Run.pass rfl ?_
      refine Run.pass rfl ?_
      refine Run.p (.bool false) rfl rfl ?_
      refine Run.p (.bool false) rfl rfl ?_
      refine Run.pass rfl ?_
      refine Run.pass rfl ?_
      refine Run.pass rfl ?_
      refine Run.pass rfl ?_
      refine Run.pass rfl ?_
      refine Run.p (.bool false) rfl rfl ?_
      refine Run.p (.bool false) rfl rfl ?_
      refine Run.done ?_
      refine Run.ret ?_
      refine ⟨.bool false, [], Out.one rfl rfl, (Some'.weak (.nil _)), ?_⟩
      show _ = _; congr 1; rw [eq_comm]; simp only [within, Bool.and_eq_true, Bool.and_eq_false_iff, decide_eq_true_eq, decide_eq_false_iff_not, beq_iff_eq, Bool.not_eq_true', Bool.not_eq_false', bne_iff_ne, ne_eq, beq_eq_false_iff_ne, bne_eq_false_iff_eq] at *; unfold gateOk; first | (rw [decide_eq_true_iff]; omega) | (rw [decide_eq_false_iff_not]; omega) | (rw [Bool.eq_iff_iff, decide_eq_true_iff, beq_iff_eq]; omega) | (rw [Bool.eq_iff_iff, decide_eq_true_iff, bne_iff_ne]; omega) | (rw [Bool.eq_iff_iff, decide_eq_true_iff, within_iff]; omega)
    ·have p27 := h27; try simp only [bs] at p27
     refine Run.skip ?_
     refine Run.blockEnd ?_
     refine Run.sr ?_
     refine Run.y (.pointer (some ⟨b1, 1, none⟩)) rfl (OpY.fieldAddr Tfo_71_1 rfl rfl) ?_
     refine Run.y (.int .i64 a) rfl (OpY.load1 Tone_3 rfl (Cells.blk (.head _) ⟨rfl, trivial⟩)) ?_
     refine Run.p (.int .i64 n) rfl rfl ?_
     refine Run.y (.int .i64 (n - 1)) rfl (OpY.sub rfl rfl rfl (by omega) (by omega)) ?_
     refine Run.q (v := .bool (within a 0 (n - 1))) rfl (OpQ.call (vs := [.int .i64 a, .int .i64 0, .int .i64 (n - 1)]) (caps := []) Tcall_73 rfl rfl (fun w hs => within_spec _ _ _ w)) ?_
     rcases Bool.eq_false_or_eq_true (within a 0 (n - 1)) with h55 | h55
     ·refine Run.q (v := .bool true) rfl (OpQ.y (OpY.moveB rfl h55)) ?_
      have p55 := h55; try simp only [bs] at p55
      refine Run.y (.pointer (some ⟨b1, 2, none⟩)) rfl (OpY.fieldAddr Tfo_71_2 rfl rfl) ?_
      refine Run.y (.int .i64 b) rfl (OpY.load1 Tone_3 rfl (Cells.blk (.head _) ⟨rfl, trivial⟩)) ?_
      refine Run.p (.bool (b == 0)) rfl rfl ?_
      refine Run.p (.bool (b == 0)) rfl rfl ?_
      refine Run.p (.bool (b == 0)) rfl rfl ?_
      refine Run.done ?_
      refine Run.ret ?_
      refine ⟨.bool (b == 0), [], Out.one rfl rfl, (Some'.weak (.nil _)), ?_⟩
      show _ = _; congr 1; rw [eq_comm]; simp only [within, Bool.and_eq_true, Bool.and_eq_false_iff, decide_eq_true_eq, decide_eq_false_iff_not, beq_iff_eq, Bool.not_eq_true', Bool.not_eq_false', bne_iff_ne, ne_eq, beq_eq_false_iff_ne, bne_eq_false_iff_eq] at *; unfold gateOk; first | (rw [decide_eq_true_iff]; omega) | (rw [decide_eq_false_iff_not]; omega) | (rw [Bool.eq_iff_iff, decide_eq_true_iff, beq_iff_eq]; omega) | (rw [Bool.eq_iff_iff, decide_eq_true_iff, bne_iff_ne]; omega) | (rw [Bool.eq_iff_iff, decide_eq_true_iff, within_iff]; omega)
     ·refine Run.q (v := .bool false) rfl (OpQ.y (OpY.moveB rfl h55)) ?_
      have p55 := h55; try simp only [bs] at p55
      refine Run.pass rfl ?_
      refine Run.pass rfl ?_
      refine Run.pass rfl ?_
      refine Run.p (.bool false) rfl rfl ?_
      refine Run.p (.bool false) rfl rfl ?_
      refine Run.done ?_
      refine Run.ret ?_
      refine ⟨.bool false, [], Out.one rfl rfl, (Some'.weak (.nil _)), ?_⟩
      show _ = _; congr 1; rw [eq_comm]; simp only [within, Bool.and_eq_true, Bool.and_eq_false_iff, decide_eq_true_eq, decide_eq_false_iff_not, beq_iff_eq, Bool.not_eq_true', Bool.not_eq_false', bne_iff_ne, ne_eq, beq_eq_false_iff_ne, bne_eq_false_iff_eq] at *; unfold gateOk; first | (rw [decide_eq_true_iff]; omega) | (rw [decide_eq_false_iff_not]; omega) | (rw [Bool.eq_iff_iff, decide_eq_true_iff, beq_iff_eq]; omega) | (rw [Bool.eq_iff_iff, decide_eq_true_iff, bne_iff_ne]; omega) | (rw [Bool.eq_iff_iff, decide_eq_true_iff, within_iff]; omega)

set_option maxHeartbeats 1000000 in
set_option maxRecDepth 20000 in
theorem validClosure_spec {N k a b : Int} {vg : Value} {w : World} (hN : 1 ≤ N ∧ N ≤ 5) {p : Nat} (hc : Sl w (.slice (some ⟨p, 0, none⟩) 1 1) 2 1 [.int .i64 N, vg]) : Calls Try.prog 107 #[.agg #[.int .i64 k, .int .i64 a, .int .i64 b], .pointer (some ⟨p, 0, none⟩)] w (Post No w fun v _ => v = .bool (!gateOk N k a b)) := by
 refine enter (n := 9) (args := [.agg #[.int .i64 k, .int .i64 a, .int .i64 b], .pointer (some ⟨p, 0, none⟩)]) Try.func107 rfl rfl (St.empty _ _) ?_
 refine Run.sr ?_
 refine Run.step rfl (OpStep.box (us := [.int .i64 k, .int .i64 a, .int .i64 b]) rfl fun b1 => ?_)
 refine Run.p (.bool false) rfl rfl ?_
 refine Run.dsr ?_
 refine Run.y (.pointer (some ⟨p, 0, none⟩)) rfl (OpY.fieldAddr Tfo_38_0 rfl rfl) ?_
 refine Run.y (.int .i64 N) rfl (OpY.load1 Tone_3 rfl (Cells.env (k := 0) hc rfl (by decide) ⟨rfl, trivial⟩)) ?_
 refine Run.y (.agg #[.int .i64 k, .int .i64 a, .int .i64 b]) rfl (OpY.loadN (cs := [.int .i64 k, .int .i64 a, .int .i64 b]) Tagg_71 rfl (Cells.blk (.head _) ⟨rfl, rfl, rfl, trivial⟩)) ?_
 refine Run.q (v := .bool (gateOk N k a b)) rfl (OpQ.call (vs := [.int .i64 N, .agg #[.int .i64 k, .int .i64 a, .int .i64 b]]) (caps := []) Tcall_108 rfl rfl (fun w hs => IsValidGate_spec hN w)) ?_
 refine Run.p (.bool (!(gateOk N k a b))) rfl rfl ?_
 refine Run.p (.bool (!(gateOk N k a b))) rfl rfl ?_
 refine Run.done ?_
 refine Run.ret ?_
 refine ⟨.bool (!(gateOk N k a b)), [], Out.one rfl rfl, (Some'.weak (.nil _)), ?_⟩
 rfl

set_option maxHeartbeats 1000000 in
set_option maxRecDepth 20000 in
theorem IndexFuncValid_spec {N : Int} {va vg : Value} {n : Nat} {xs : List Int} {w : World} (hN : 1 ≤ N ∧ N ≤ 5) (ha : Sl w va 3 n (ints xs)) {p : Nat} (hc : Sl w (.slice (some ⟨p, 0, none⟩) 1 1) 2 1 [.int .i64 N, vg]) : Calls Try.prog 129 #[va, .func (.func 107) #[] #[.pointer (some ⟨p, 0, none⟩)]] w (Post No w fun v _ => v = .int .i64 (findI (fun i => !gateAt N xs i) n)) := by
 have hxl := ha.len
 have hn := ha.le
 obtain ⟨A, c, rfl, _, _⟩ := ha.form0
 refine enter (n := 19) (args := [.slice A n c, .func (.func 107) #[] #[.pointer (some ⟨p, 0, none⟩)]]) Try.func129 rfl rfl (St.empty _ _) ?_
 refine Run.sr ?_
 refine Run.p (.int .i64 0) rfl rfl ?_
 refine Run.done ?_
 refine Run.seq ?_
 refine Run.sr ?_
 refine Run.p (.slice A n c) rfl rfl ?_
 refine Run.y (.int .i64 (((n : Nat) : Int))) rfl (OpY.len Tsl_36 rfl) ?_
 refine Run.p (.int .i64 0) rfl rfl ?_
 refine Run.done ?_
 refine Run.block ?_
 refine Run.loop (ι := Nat) [4, 5, 8, 9, 10, 11, 12, 13, 14, 15, 16, 17, 18] (fun k => [(8, .int .i64 (((k : Nat) : Int)))]) (fun k => []) (fun k => k ≤ n ∧ (∀ i, i < k → (!gateAt N xs i) = false)) (fun k => n - k) 0 ?_ ?_ ?_ ?_
 ·exact ⟨Nat.zero_le _, by first | trivial | (intro i hi; omega)⟩
 ·exact ⟨rfl, trivial⟩
 ·exact (Some'.weak (.nil _))
 ·rintro k fr hinv
  show Run _ _ (over _ _ [(8, .int .i64 (((k : Nat) : Int)))] fr) []
  try dsimp only at hinv
  refine Run.sr ?_
  refine Run.p (.bool (decide ((((k : Nat) : Int)) < (((n : Nat) : Int))))) rfl rfl ?_
  refine Run.done ?_
  refine Run.seq ?_
  refine Run.cond (b := decide ((((k : Nat) : Int)) < (((n : Nat) : Int)))) rfl (fun h9 => ?_) (fun h9 => ?_)
  ·have p9 := h9; try simp only [bs] at p9
   have hltk : k < n := by omega
   obtain ⟨b, o, rfl⟩ := ha.opn (by omega)
   refine Run.skip ?_
   refine Run.seq ?_
   refine Run.block ?_
   refine Run.sr ?_
   refine Run.p (.int .i64 (((k : Nat) : Int))) rfl rfl ?_
   refine Run.p (.int .i64 (((k : Nat) : Int))) rfl rfl ?_
   refine Run.dsr ?_
   refine Run.p (.func (.func 107) #[] #[.pointer (some ⟨p, 0, none⟩)]) rfl rfl ?_
   refine Run.p (.slice (some ⟨b, o, none⟩) n c) rfl rfl ?_
   refine Run.p (.int .i64 (((k : Nat) : Int))) rfl rfl ?_
   refine Run.y (.pointer (some ⟨b, o + k * 3, none⟩)) rfl (OpY.index (kk := k) Tsl_36 rfl rfl (by omega) (by omega) (by first | rfl | omega)) ?_
   refine Run.y (.agg #[.int .i64 (ix xs (k * 3)), .int .i64 (ix xs (k * 3 + 1)), .int .i64 (ix xs (k * 3 + 2))]) rfl (OpY.loadN (cs := [.int .i64 (ix xs (k * 3)), .int .i64 (ix xs (k * 3 + 1)), .int .i64 (ix xs (k * 3 + 2))]) Tagg_71 rfl (Cells.arg (k := k * 3) ha rfl (by omega) (pre3 (by omega)))) ?_
   refine Run.q (v := .bool (!gateOk N (ix xs (k * 3)) (ix xs (k * 3 + 1)) (ix xs (k * 3 + 2)))) rfl (OpQ.call (vs := [.agg #[.int .i64 (ix xs (k * 3)), .int .i64 (ix xs (k * 3 + 1)), .int .i64 (ix xs (k * 3 + 2))], .pointer (some ⟨p, 0, none⟩)]) (caps := [.pointer (some ⟨p, 0, none⟩)]) Tcall_107 rfl rfl (fun w hs => validClosure_spec hN (hs.sl hc))) ?_
   refine Run.done ?_
   refine Run.cond (b := !gateOk N (ix xs (k * 3)) (ix xs (k * 3 + 1)) (ix xs (k * 3 + 2))) rfl (fun h16 => ?_) (fun h16 => ?_)
   ·have p16 := h16; try simp only [bs] at p16
    refine Run.seq ?_
    have hres : findI (fun i => !gateAt N xs i) n = k := findI_hit hinv.2 h16 hltk
    refine Run.region ?_
    refine Run.p (.int .i64 (((k : Nat) : Int))) rfl rfl ?_
    refine Run.p (.int .i64 (((k : Nat) : Int))) rfl rfl ?_
    refine Run.done ?_
    refine Run.ret ?_
    refine ⟨.int .i64 (((k : Nat) : Int)), [], Out.one rfl rfl, (Some'.weak (.nil _)), ?_⟩
    show _ = _; rw [hres]
   ·have p16 := h16; try simp only [bs] at p16
    refine Run.skip ?_
    refine Run.blockEnd ?_
    have hgood : (!gateAt N xs k) = false := h16
    refine Run.region ?_
    refine Run.y (.int .i64 ((((k : Nat) : Int)) + 1)) rfl (OpY.add rfl rfl rfl (by omega) (by omega)) ?_
    refine Run.p (.int .i64 ((((k : Nat) : Int)) + 1)) rfl rfl ?_
    refine Run.done ?_
    refine Run.goal ⟨(by repeat (first | exact Same.refl _ _ | refine Same.put rfl ?_ | refine Same.over rfl rfl ?_)), k + 1, ?_, ?_, ?_, ?_⟩
    ·refine ⟨by omega, ?_⟩
     intro i hi
     rcases Nat.lt_succ_iff_lt_or_eq.1 hi with h | h
     ·exact hinv.2 i h
     ·rw [h]; exact hgood
    ·omega
    ·exact ⟨(by first | rfl | (congr 1; omega) | simp), trivial⟩
    ·exact (Some'.weak (.nil _))
  ·have p9 := h9; try simp only [bs] at p9
   have hknk : k = n := by omega
   have hres : findI (fun i => !gateAt N xs i) n = -1 := by rw [← hknk]; exact findI_none hinv.2
   refine Run.exit rfl ?_
   refine Run.sr ?_
   refine Run.p (.int .i64 (-1)) rfl rfl ?_
   refine Run.done ?_
   refine Run.ret ?_
   refine ⟨.int .i64 (-1), [], Out.one rfl rfl, (Some'.weak (.nil _)), ?_⟩
   show _ = _; rw [hres]

set_option maxHeartbeats 1000000 in
set_option maxRecDepth 20000 in
theorem ContainsFuncValid_spec {N : Int} {va vg : Value} {n : Nat} {xs : List Int} {w : World} (hN : 1 ≤ N ∧ N ≤ 5) (ha : Sl w va 3 n (ints xs)) {p : Nat} (hc : Sl w (.slice (some ⟨p, 0, none⟩) 1 1) 2 1 [.int .i64 N, vg]) : Calls Try.prog 106 #[va, .func (.func 107) #[] #[.pointer (some ⟨p, 0, none⟩)]] w (Post No w fun v _ => v = .bool (!allI (gateAt N xs) n)) := by
 refine enter (n := 9) (args := [va, .func (.func 107) #[] #[.pointer (some ⟨p, 0, none⟩)]]) Try.func106 rfl rfl (St.empty _ _) ?_
 refine Run.sr ?_
 refine Run.p (.bool false) rfl rfl ?_
 refine Run.dsr ?_
 refine Run.p (va) rfl rfl ?_
 refine Run.p (.func (.func 107) #[] #[.pointer (some ⟨p, 0, none⟩)]) rfl rfl ?_
 refine Run.q (v := .int .i64 (findI (fun i => !gateAt N xs i) n)) rfl (OpQ.call (vs := [va, .func (.func 107) #[] #[.pointer (some ⟨p, 0, none⟩)]]) (caps := []) Tcall_129 rfl rfl (fun w hs => IndexFuncValid_spec hN (hs.sl ha) (hs.sl hc))) ?_
 refine Run.p (.bool (decide ((findI (fun i => !gateAt N xs i) n) ≥ 0))) rfl rfl ?_
 refine Run.p (.bool (decide ((findI (fun i => !gateAt N xs i) n) ≥ 0))) rfl rfl ?_
 refine Run.done ?_
 refine Run.ret ?_
 refine ⟨.bool (decide ((findI (fun i => !gateAt N xs i) n) ≥ 0)), [], Out.one rfl rfl, (Some'.weak (.nil _)), ?_⟩
 show _ = _; rw [findI_ge, allI, Bool.not_not]

set_option maxHeartbeats 1000000 in
set_option maxRecDepth 20000 in
theorem IsValidCircuit_spec {N : Int} {va : Value} {n : Nat} {xs : List Int} {w : World} (ha : Sl w va 3 n (ints xs)) : Calls Try.prog 66 #[.agg #[.int .i64 N, va]] w (Post No w fun v _ => v = .bool (circOk N xs n)) := by
 have hxl := ha.len
 have hn := ha.le
 obtain ⟨A, c, rfl, _, _⟩ := ha.form0
 refine enter (n := 19) (args := [.agg #[.int .i64 N, .slice A n c]]) Try.func66 rfl rfl (St.empty _ _) ?_
 refine Run.sr ?_
 refine Run.step rfl (OpStep.box (us := [.int .i64 N, .slice A n c]) rfl fun b1 => ?_)
 refine Run.p (.bool false) rfl rfl ?_
 refine Run.dsr ?_
 refine Run.y (.pointer (some ⟨b1, 0, none⟩)) rfl (OpY.fieldAddr Tfo_38_0 rfl rfl) ?_
 refine Run.y (.int .i64 N) rfl (OpY.load1 Tone_3 rfl (Cells.blk (.head _) ⟨rfl, trivial⟩)) ?_
 refine Run.q (v := .bool (within N 1 5)) rfl (OpQ.call (vs := [.int .i64 N, .int .i64 1, .int .i64 5]) (caps := []) Tcall_73 rfl rfl (fun w hs => within_spec _ _ _ w)) ?_
 rcases Bool.eq_false_or_eq_true (within N 1 5) with h6 | h6
 ·refine Run.q (v := .bool true) rfl (OpQ.y (OpY.moveB rfl h6)) ?_
  have p6 := h6; try simp only [bs] at p6
  refine Run.y (.pointer (some ⟨b1, 1, none⟩)) rfl (OpY.fieldAddr Tfo_38_1 rfl rfl) ?_
  refine Run.y (.slice A n c) rfl (OpY.load1 Tone_36 rfl (Cells.blk (.head _) ⟨rfl, trivial⟩)) ?_
  refine Run.y (.int .i64 (((n : Nat) : Int))) rfl (OpY.len Tsl_36 rfl) ?_
  refine Run.p (.bool (decide ((((n : Nat) : Int)) ≤ 400))) rfl rfl ?_
  refine Run.p (.bool (decide ((((n : Nat) : Int)) ≤ 400))) rfl rfl ?_
  rcases Bool.eq_false_or_eq_true (decide ((((n : Nat) : Int)) ≤ 400)) with h12 | h12
  ·refine Run.q (v := .bool true) rfl (OpQ.y (OpY.moveB rfl h12)) ?_
   have p12 := h12; try simp only [bs] at p12
   refine Run.y (.pointer (some ⟨b1, 1, none⟩)) rfl (OpY.fieldAddr Tfo_38_1 rfl rfl) ?_
   refine Run.y (.slice A n c) rfl (OpY.load1 Tone_36 rfl (Cells.blk (.head _) ⟨rfl, trivial⟩)) ?_
   refine Run.y (.func (.func 107) #[] #[.pointer (some ⟨b1, 0, none⟩)]) rfl (OpY.makeFunc (caps := [.pointer (some ⟨b1, 0, none⟩)]) rfl) ?_
   refine Run.q (v := .bool (!allI (gateAt N xs) n)) rfl (OpQ.call (vs := [.slice A n c, .func (.func 107) #[] #[.pointer (some ⟨b1, 0, none⟩)]]) (caps := []) Tcall_106 rfl rfl (fun w hs => ContainsFuncValid_spec (within_iff.1 p6) (hs.sl ha) (hs.slBlk (.head _)))) ?_
   refine Run.p (.bool (!(!allI (gateAt N xs) n))) rfl rfl ?_
   refine Run.p (.bool (!(!allI (gateAt N xs) n))) rfl rfl ?_
   refine Run.p (.bool (!(!allI (gateAt N xs) n))) rfl rfl ?_
   refine Run.done ?_
   refine Run.ret ?_
   refine ⟨.bool (!(!allI (gateAt N xs) n)), [], Out.one rfl rfl, (Some'.weak (.nil _)), ?_⟩
   show _ = _; simp only [circOk] at *; simp_all; try omega
  ·refine Run.q (v := .bool false) rfl (OpQ.y (OpY.moveB rfl h12)) ?_
   have p12 := h12; try simp only [bs] at p12
   refine Run.pass rfl ?_
   refine Run.pass rfl ?_
   refine Run.pass rfl ?_
   refine Run.pass rfl ?_
   refine Run.pass rfl ?_
   refine Run.p (.bool false) rfl rfl ?_
   refine Run.p (.bool false) rfl rfl ?_
   refine Run.done ?_
   refine Run.ret ?_
   refine ⟨.bool false, [], Out.one rfl rfl, (Some'.weak (.nil _)), ?_⟩
   show _ = _; simp only [circOk] at *; simp_all; try omega
 ·refine Run.q (v := .bool false) rfl (OpQ.y (OpY.moveB rfl h6)) ?_
  have p6 := h6; try simp only [bs] at p6
  refine Run.pass rfl ?_
  refine Run.pass rfl ?_
  refine Run.pass rfl ?_
  refine Run.pass rfl ?_
  refine Run.p (.bool false) rfl rfl ?_
  refine Run.p (.bool false) rfl rfl ?_
  refine Run.pass rfl ?_
  refine Run.pass rfl ?_
  refine Run.pass rfl ?_
  refine Run.pass rfl ?_
  refine Run.pass rfl ?_
  refine Run.p (.bool false) rfl rfl ?_
  refine Run.p (.bool false) rfl rfl ?_
  refine Run.done ?_
  refine Run.ret ?_
  refine ⟨.bool false, [], Out.one rfl rfl, (Some'.weak (.nil _)), ?_⟩
  show _ = _; simp only [circOk] at *; simp_all; try omega

set_option maxHeartbeats 1000000 in
set_option maxRecDepth 20000 in
theorem l1Most_spec (a b : Int) (w : World) : Calls Try.prog 115 #[.int .i64 a, .int .i64 b] w (Post No w fun v _ => v = .int .i64 (max a b)) := by
 refine enter (n := 10) (args := [.int .i64 a, .int .i64 b]) Try.func115 rfl rfl (St.empty _ _) ?_
 refine Run.sr ?_
 refine Run.p (.int .i64 0) rfl rfl ?_
 refine Run.done ?_
 refine Run.seq ?_
 refine Run.sr ?_
 refine Run.p (.int .i64 a) rfl rfl ?_
 refine Run.p (.int .i64 b) rfl rfl ?_
 refine Run.p (.bool (decide (a > b))) rfl rfl ?_
 refine Run.done ?_
 refine Run.cond (b := decide (a > b)) rfl (fun h7 => ?_) (fun h7 => ?_)
 ·have p7 := h7; try simp only [bs] at p7
  refine Run.sr ?_
  refine Run.p (.int .i64 a) rfl rfl ?_
  refine Run.p (.int .i64 a) rfl rfl ?_
  refine Run.done ?_
  refine Run.ret ?_
  refine ⟨.int .i64 a, [], Out.one rfl rfl, (Some'.weak (.nil _)), ?_⟩
  show _ = _; congr 1; omega
 ·have p7 := h7; try simp only [bs] at p7
  refine Run.skip ?_
  refine Run.sr ?_
  refine Run.p (.int .i64 b) rfl rfl ?_
  refine Run.p (.int .i64 b) rfl rfl ?_
  refine Run.done ?_
  refine Run.ret ?_
  refine ⟨.int .i64 b, [], Out.one rfl rfl, (Some'.weak (.nil _)), ?_⟩
  show _ = _; congr 1; omega

end Go.Proofs.Yteehfidjofcfmaa
/- Walks: a circuit of gates. -/
set_option linter.unusedSimpArgs false
set_option linter.unusedVariables false
namespace Go.Proofs.Yteehfidjofcfmaa
open Go Go.RowKit
namespace CifT
theorem Tagg_38 : aggOf Try.prog 38 = some 2 := by kernel_rfl
theorem Tcall_66 : callable Try.prog 66 = true := by kernel_rfl
theorem Tsize_38 : (Try.prog.info? 38).map (·.size) = some 2 := by kernel_rfl
theorem Tsl_36 : sliceOf Try.prog 36 = some (71, 3, 24, [.int .i64 0, .int .i64 0, .int .i64 0]) := by kernel_rfl
theorem Tzero_38 : zeroOf Try.prog 38 = some [.int .i64 0, .slice none 0 0] := by kernel_rfl
end CifT
open CifT
set_option maxHeartbeats 1000000 in
set_option maxRecDepth 20000 in
theorem circuitIf_spec {va : Value} {N : Int} {m : Nat} {ys : List Int} {w : World} (hm : m ≤ 1000) (hok : circOk N ys m = true) (ha : Sl w va 3 m (ints ys)) : Calls Try.prog 52 #[.int .i64 N, va] w (Post No w fun v H => ∃ u, v = .tuple #[.agg #[.int .i64 N, u], .bool true] ∧ H = [.own u 71 3 m (ints ys)]) := by
 have hyl := ha.len
 refine enter (n := 17) (args := [.int .i64 N, va]) Try.func52 rfl rfl (St.empty _ _) ?_
 refine Run.sr ?_
 refine Run.step rfl (OpStep.alloc (zs := [.int .i64 0, .slice none 0 0]) Tzero_38 fun b1 => ?_)
 refine Run.p (.bool false) rfl rfl ?_
 refine Run.dsr ?_
 refine Run.p (.int .i64 N) rfl rfl ?_
 refine Run.step rfl (OpStep.buildSlice (us := []) Tsl_36 (by decide) (by decide) rfl rfl fun b2 => ?_)
 refine Run.p (va) rfl rfl ?_
 refine Run.step rfl (OpStep.append (H1 := []) (H2 := [.blk b1 38 [.int .i64 0, .slice none 0 0]]) (v := .slice (some ⟨b2, 0, none⟩) 0 0) (u := va) (n := 0) (m := m) (xs := []) (ys := ints ys) Tsl_36 (by decide) rfl rfl rfl rfl (fun w hs => hs.sl ha) (by exact ints_all _) (by omega) (by simp only [maxLen]; omega) fun av1 hnav1 => ?_)
 refine Run.weak (H' := [.own av1 71 3 m (ints ys), .blk b1 38 [.int .i64 0, .slice none 0 0]]) (Some'.weak (.takeEq (by simp) (.take (.nil _)))) ?_ ⟨_, _, rfl, fun _ => nofun, fun _ => nofun⟩
 refine Run.formOwn (.head _) (fun A_av11 c_av11 hv hcapc_av11 hmaxc_av11 => ?_) (fun _ _ _ => ⟨nofun, nofun, nofun⟩)
 subst hv
 refine Run.y (.agg #[.int .i64 N, .slice A_av11 m c_av11]) rfl (OpY.build (cs := [.int .i64 N, .slice A_av11 m c_av11]) (by kernel_rfl)) ?_
 refine Run.step rfl (OpStep.alloc (zs := [.int .i64 0, .slice none 0 0]) Tzero_38 fun b3 => ?_)
 refine Run.step rfl (OpStep.storeAll (us := [.int .i64 N, .slice A_av11 m c_av11]) Tsize_38 rfl rfl rfl (.here _) rfl ?_)
 refine Run.done ?_
 refine Run.seq ?_
 refine Run.sr ?_
 refine Run.y (.agg #[.int .i64 N, .slice A_av11 m c_av11]) rfl (OpY.loadN (cs := [.int .i64 N, .slice A_av11 m c_av11]) Tagg_38 rfl (Cells.blk (.head _) ⟨rfl, rfl, trivial⟩)) ?_
 refine Run.q (v := .bool true) rfl (OpQ.call (vs := [.agg #[.int .i64 N, .slice A_av11 m c_av11]]) (caps := []) Tcall_66 rfl rfl (fun w hs => (by have h := IsValidCircuit_spec (N := N) (hs.slOwn (.tail _ (List.Mem.head _))); rw [hok] at h; exact h))) ?_
 refine Run.p (.bool false) rfl rfl ?_
 refine Run.done ?_
 refine Run.cond (b := false) rfl (fun h => nomatch h) (fun _ => ?_)
 refine Run.skip ?_
 refine Run.sr ?_
 refine Run.y (.agg #[.int .i64 N, .slice A_av11 m c_av11]) rfl (OpY.loadN (cs := [.int .i64 N, .slice A_av11 m c_av11]) Tagg_38 rfl (Cells.blk (.head _) ⟨rfl, rfl, trivial⟩)) ?_
 refine Run.step rfl (OpStep.storeAll (us := [.int .i64 N, .slice A_av11 m c_av11]) Tsize_38 rfl rfl rfl (.there _ (.there _ (.here _))) rfl ?_)
 refine Run.p (.bool true) rfl rfl ?_
 refine Run.done ?_
 refine Run.ret ?_
 refine ⟨.tuple #[.agg #[.int .i64 N, .slice A_av11 m c_av11], .bool true], [.own (.slice A_av11 m c_av11) 71 3 m (ints ys)], Out.cell2 (cs := [.int .i64 N, .slice A_av11 m c_av11]) rfl Tagg_38 rfl (Cells.blk (.tail _ (.tail _ (List.Mem.head _))) ⟨rfl, rfl, trivial⟩) rfl, (Some'.weak (.skip (.take (.nil _)))), ?_⟩
 exact ⟨_, rfl, rfl⟩

end Go.Proofs.Yteehfidjofcfmaa
/- Plain laws: the table of distances of linear maps. -/
set_option linter.unusedSimpArgs false
set_option linter.unusedVariables false
namespace Go.Proofs.Yteehfidjofcfmaa
open Go Go.RowKit
abbrev BQ := (List Nat × Nat) × List Nat
theorem LW.len {n : Nat} {m p : List Nat} (h : LW n m p) (hl : m.length = n) (hb : ∀ i, i < n → nx m i < 2 ^ n) (hi : Indep m) : p.length ≤ n * (n + 3) := by
  obtain ⟨v, h1, h2, h3⟩ := reach_word (full_reach hl hb hi)
  rw [bev_dcw] at h3
  exact Nat.le_trans (sle_len (h.2.2 v h1 (congrArg Prod.fst h3))) h2

end Go.Proofs.Yteehfidjofcfmaa
/- Walks: shortest circuits of linear maps, by the program and by the reference. -/
set_option linter.unusedSimpArgs false
set_option linter.unusedVariables false
namespace Go.Proofs.Yteehfidjofcfmaa
open Go Go.RowKit
namespace SlxT
theorem Tagg_28 : aggOf Try.prog 28 = some 1 := by kernel_rfl
theorem Tcall_92 : callable Try.prog 92 = true := by kernel_rfl
theorem Tfo_28_0 : fieldOff Try.prog 28 0 = some 0 := by kernel_rfl
theorem Tint_96 : Try.prog.underlying 96 = some (.int .u64) := by kernel_rfl
theorem Tone_22 : oneOf Try.prog 22 = true := by kernel_rfl
theorem Tone_3 : oneOf Try.prog 3 = true := by kernel_rfl
theorem Tsize_28 : (Try.prog.info? 28).map (·.size) = some 1 := by kernel_rfl
theorem Tsize_3 : (Try.prog.info? 3).map (·.size) = some 1 := by kernel_rfl
theorem Tsl_22 : sliceOf Try.prog 22 = some (3, 1, 8, [.int .i64 0]) := by kernel_rfl
theorem Tsome_3 : (Try.prog.underlying 3).isSome = true := by kernel_rfl
theorem Tzero_28 : zeroOf Try.prog 28 = some [.slice none 0 0] := by kernel_rfl
end SlxT
open SlxT
theorem OpY.quoI {E : Env} {f : Fr} {H : List Res} {d : Option Tmp} {ty : TypeId} {pos : String} {after : Array Edge} {gd : Option (Nat × Bool)} {t t' : TypeId} {x y : Operand} {A B q : Int} (hx : f.eval x = .int .i64 A) (hy : f.eval y = .int .i64 B) (hb : B ≠ 0) (h : A.tdiv B = q) (hq : -9223372036854775808 ≤ q ∧ q ≤ 9223372036854775807) :
    OpY E ⟨d, .binOp .quo t x y t', ty, pos, after, gd⟩ f H (.int .i64 q) := by
  intro w _
  have hw : IntKind.i64.wrap q = q := by rw [IntKind.wrap_i64]; omega
  simp [execOp, hx, hy, eqGuard, binOp, Op.intDiv, hb, h, hw]
theorem OpY.quoNat {E : Env} {f : Fr} {H : List Res} {d : Option Tmp} {ty : TypeId} {pos : String} {after : Array Edge} {gd : Option (Nat × Bool)} {t t' : TypeId} {x y : Operand} {a b : Nat} (hx : f.eval x = .int .i64 (a : Int)) (hy : f.eval y = .int .i64 (b : Int)) (ha : a < 9223372036854775808) (hb : 0 < b) :
    OpY E ⟨d, .binOp .quo t x y t', ty, pos, after, gd⟩ f H (.int .i64 ((a / b : Nat) : Int)) := by
  have hle : a / b ≤ a := Nat.div_le_self _ _
  refine OpY.quoI hx hy (by omega) rfl ?_
  obtain ⟨q, hq⟩ : ∃ q, q = a / b := ⟨_, rfl⟩
  rw [← hq] at hle ⊢
  omega
theorem OpY.remNat {E : Env} {f : Fr} {H : List Res} {d : Option Tmp} {ty : TypeId} {pos : String} {after : Array Edge} {gd : Option (Nat × Bool)} {t t' : TypeId} {x y : Operand} {a b : Nat} (hx : f.eval x = .int .i64 (a : Int)) (hy : f.eval y = .int .i64 (b : Int)) (hb : 0 < b) :
    OpY E ⟨d, .binOp .rem t x y t', ty, pos, after, gd⟩ f H (.int .i64 ((a % b : Nat) : Int)) := by
  have h := OpY.rem (E := E) (H := H) (d := d) (ty := ty) (pos := pos) (after := after) (gd := gd) (t := t) (t' := t') hx hy (by omega) (by omega)
  rwa [show ((a : Int) % (b : Int)) = ((a % b : Nat) : Int) from rfl] at h
theorem lin_facts {xs : List Int} {n : Nat} (hl : xs.length = n) (h : linOk xs n = true) : 1 ≤ n ∧ n ≤ 5 ∧ nl (nats xs) = xs ∧ (nats xs).length = n ∧ (∀ i, nx (nats xs) i < 2 ^ n) ∧ Indep (nats xs) := by
  simp only [linOk, Bool.and_eq_true, decide_eq_true_eq, within_iff, Bool.not_eq_true'] at h
  obtain ⟨⟨⟨h1, h2⟩, h3⟩, h4⟩ := h
  obtain ⟨h5, h6⟩ := rows_in hl h3
  have hnl : (nats xs).length = n := by rw [nats, List.length_map, hl]
  have hn5 : n ≤ 5 := by omega
  refine ⟨by omega, hn5, h5, hnl, fun i => nx_lt h6 i, ?_⟩
  refine (rkS_full (k := 10) fun x hx => Nat.lt_of_lt_of_le (h6 x hx) (Nat.pow_le_pow_right (by omega) (by omega))).1 ?_
  rw [h4, hnl]
theorem gateOk_cx {n a b : Nat} (ha : a < n) (hb : b < n) (hab : a ≠ b) : gateOk n 9 a b = true := decide_eq_true (.inr (.inl ⟨by omega, by omega, by omega, by omega, by omega, by omega, by omega⟩))
theorem circ_cx {n : Nat} {w : List (Nat × Nat)} (hn : 1 ≤ n ∧ n ≤ 5) (hw : WOk n w) (hl : w.length ≤ 400) : circOk n (flCX w) w.length = true := by
  simp only [circOk, Bool.and_eq_true, decide_eq_true_eq, within_iff]
  refine ⟨⟨⟨by omega, by omega⟩, hl⟩, allI_iff.2 fun i hi => ?_⟩
  obtain ⟨h1, h2, h3⟩ := flCX_get hi
  have hg : gat w i ∈ w := by
    have : gat w i = w[i] := by simp [gat, List.getD, hi]
    rw [this]; exact List.getElem_mem hi
  obtain ⟨g1, g2, g3⟩ := hw _ hg
  simp only [gateAt, ix, List.getD, h1, h2, h3, Option.getD_some]
  exact gateOk_cx g1 g2 g3
theorem dcw_len (n : Nat) (p : List Nat) : (dcw n p).length = p.length := by simp [dcw]
theorem pow16 {n : Nat} (h : n ≤ 4) : 2 ^ n ≤ 16 := Nat.pow_le_pow_right (n := 2) (by omega) h
end Go.Proofs.Yteehfidjofcfmaa
/- Plain laws: networks: every map and every set of masks is reached. -/
set_option linter.unusedSimpArgs false
set_option linter.unusedVariables false
namespace Go.Proofs.Yteehfidjofcfmaa
open Go Go.RowKit
/-- Masks from 1 to 2 ^ n - 1, each greater than the one before it. -/
def mskAt (n : Nat) (ms : List Int) (i : Nat) : Bool := within (ix ms i) 1 (((2 ^ n : Nat) : Int) - 1) && decide (0 < i → ix ms (i - 1) < ix ms i)
def mskOk (n : Nat) (ms : List Int) (k : Nat) : Bool := within (n : Int) 1 5 && allI (mskAt n ms) k
theorem msk_at {n k : Nat} {ms : List Int} (h : mskOk n ms k = true) {i : Nat} (hi : i < k) : 1 ≤ ix ms i ∧ ix ms i < ((2 ^ n : Nat) : Int) ∧ (0 < i → ix ms (i - 1) < ix ms i) := by
  simp only [mskOk, Bool.and_eq_true] at h
  have h1 := allI_iff.1 h.2 i hi
  simp only [mskAt, Bool.and_eq_true, within_iff, decide_eq_true_eq] at h1
  exact ⟨h1.1.1, by omega, h1.2⟩
theorem msk_lt {n k : Nat} {ms : List Int} (h : mskOk n ms k = true) : ∀ {i j : Nat}, i < j → j < k → ix ms i < ix ms j := by
  intro i j hij hj
  induction j with
  | zero => omega
  | succ j ih =>
    have h1 := (msk_at h hj).2.2 (by omega)
    rw [show j + 1 - 1 = j by omega] at h1
    rcases Nat.lt_or_eq_of_le (Nat.lt_succ_iff.1 hij) with h2 | h2
    · exact Int.lt_trans (ih h2 (by omega)) h1
    · subst h2; exact h1
theorem msk_low {n k : Nat} {ms : List Int} (h : mskOk n ms k = true) : ∀ {i : Nat}, i < k → (i : Int) + 1 ≤ ix ms i := by
  intro i hi
  induction i with
  | zero => exact (msk_at h hi).1
  | succ i ih =>
    have h1 := ih (by omega)
    have h2 := msk_lt h (show i < i + 1 by omega) hi
    omega
theorem msk_len {n k : Nat} {ms : List Int} (h : mskOk n ms k = true) : k < 2 ^ n := by
  rcases Nat.eq_zero_or_pos k with h0 | h0
  · rw [h0]; exact Nat.two_pow_pos n
  · have h1 := msk_low h (show k - 1 < k by omega)
    have h2 := (msk_at h (show k - 1 < k by omega)).2.1
    omega
theorem msk_inj {n k : Nat} {ms : List Int} (h : mskOk n ms k = true) {i j : Nat} (hi : i < k) (hj : j < k) (e : ix ms i = ix ms j) : i = j := by
  rcases Nat.lt_trichotomy i j with h1 | h1 | h1
  · have := msk_lt h h1 hj; omega
  · exact h1
  · have := msk_lt h h1 hi; omega
/-- What is noted contains every mask that is a row. -/
def Noted (ms : List Int) (l : List Nat) (f : Nat) : Prop := ∀ i, i < ms.length → (∃ j, j < l.length ∧ ((nx l j : Nat) : Int) = ix ms i) → f.testBit i = true
theorem findI_sat {p : Nat → Bool} : ∀ {n : Nat}, 0 ≤ findI p n → p (findI p n).toNat = true
  | 0, h => by simp [findI] at h
  | n + 1, h => by
    rw [findI] at h ⊢
    split at h
    · rename_i ha
      rw [if_pos ha]
      exact findI_sat h
    · rename_i ha
      rw [if_neg ha]
      split at h
      · rename_i hp; rw [if_pos hp]; simpa using hp
      · omega
theorem apx_bit {n f : Nat} {ms : List Int} {x : Int} (h : mskOk n ms ms.length = true) {i : Nat} (hi : i < ms.length) : (apx f ms x).testBit i = (f.testBit i || decide (ix ms i = x)) := by
  unfold apx
  by_cases h0 : 0 ≤ findI (fun i => decide (ix ms i = x)) ms.length
  · rw [if_pos h0, Nat.testBit_or, Nat.testBit_two_pow]
    obtain ⟨j, hj⟩ : ∃ j : Nat, findI (fun i => decide (ix ms i = x)) ms.length = j := ⟨(findI (fun i => decide (ix ms i = x)) ms.length).toNat, by omega⟩
    have hjl : j < ms.length := by have := findI_ltn h0; omega
    have hjx : ix ms j = x := by
      have := findI_sat h0
      rw [hj, Int.toNat_natCast] at this
      simpa using this
    rw [hj, Int.toNat_natCast]
    congr 1
    rw [Bool.eq_iff_iff, decide_eq_true_eq, decide_eq_true_eq]
    constructor
    · rintro rfl; exact hjx
    · intro e; exact msk_inj h hjl hi (hjx.trans e.symm)
  · rw [if_neg h0]
    have hno : ∀ k, k < ms.length → decide (ix ms k = x) = false := fun k hk => by
      cases hd : decide (ix ms k = x) with
      | false => rfl
      | true => exact absurd (findI_nonneg.2 (anyI_iff.2 ⟨k, hk, hd⟩)) h0
    rw [hno i hi, Bool.or_false]
theorem noted_step {n : Nat} {ms : List Int} {l : List Nat} {f : Nat} (h : mskOk n ms ms.length = true) (hk : Noted ms l f) (e : Nat) : Noted ms (lstep n ms (l, f) e).1 (lstep n ms (l, f) e).2 := by
  intro i hi hj
  obtain ⟨j, hj, hx⟩ := hj
  simp only [lstep] at hj hx ⊢
  rw [apx_bit h hi]
  have hjl : j < l.length := by simpa [cx] using hj
  by_cases hje : e % n = j
  · subst hje; rw [decide_eq_true hx.symm, Bool.or_true]
  · rw [nx_cx hjl, if_neg hje] at hx
    rw [hk i hi ⟨j, hjl, hx⟩, Bool.true_or]
theorem apF_bit {n : Nat} {ms : List Int} (h : mskOk n ms ms.length = true) {i : Nat} (hi : i < ms.length) : ∀ {q : Nat}, (∃ j, j < q ∧ ((2 ^ j : Nat) : Int) = ix ms i) → (apF ms q).testBit i = true
  | 0, ⟨j, hj, _⟩ => by omega
  | q + 1, ⟨j, hj, he⟩ => by
    rw [apF, apx_bit h hi]
    by_cases hjq : j = q
    · subst hjq; rw [decide_eq_true he.symm, Bool.or_true]
    · rw [apF_bit h hi (q := q) ⟨j, by omega, he⟩, Bool.true_or]
theorem noted_id {n : Nat} {ms : List Int} (h : mskOk n ms ms.length = true) : Noted ms (idL n) (apF ms n) := by
  intro i hi hj
  obtain ⟨j, hj, he⟩ := hj
  have hjn : j < n := by simpa [idL] using hj
  rw [nx_idL hjn] at he
  exact apF_bit h hi ⟨j, hjn, he⟩
theorem bev_fst (n : Nat) (ms : List Int) : ∀ (v : List Nat) (k : List Nat × Nat), (bev (lstep n ms) k v).1 = cxs k.1 (dcw n v)
  | [], _ => rfl
  | e :: v, k => by
    have := bev_fst n ms v (lstep n ms k e)
    simp only [bev, List.foldl_cons] at this ⊢
    rw [this]; rfl
theorem bev_app {K : Type} (step : K → Nat → K) (s : K) (u v : List Nat) : bev step s (u ++ v) = bev step (bev step s u) v := by simp [bev, List.foldl_append]
/-- What a word keeps. -/
theorem bev_keep {n : Nat} {ms : List Int} (h : mskOk n ms ms.length = true) : ∀ (v : List Nat) (k : List Nat × Nat), mK n ms k → Noted ms k.1 k.2 →
    mK n ms (bev (lstep n ms) k v) ∧ Noted ms (bev (lstep n ms) k v).1 (bev (lstep n ms) k v).2 ∧ ∀ i, i < ms.length → k.2.testBit i = true → (bev (lstep n ms) k v).2.testBit i = true
  | [], _, h1, h2 => ⟨h1, h2, fun _ _ h => h⟩
  | e :: v, k, h1, h2 => by
    have h3 : mK n ms (lstep n ms k e) := mK_step e h1
    have h4 : Noted ms (lstep n ms k e).1 (lstep n ms k e).2 := noted_step h h2 e
    obtain ⟨g1, g2, g3⟩ := bev_keep h v (lstep n ms k e) h3 h4
    refine ⟨g1, g2, fun i hi hb => g3 i hi ?_⟩
    simp only [lstep]
    rw [apx_bit h hi, hb, Bool.true_or]
/-- A map with a given row. -/
theorem row_word {n x : Nat} (hx0 : 0 < x) (hx : x < 2 ^ n) : ∃ w k, WOk n w ∧ w.length ≤ n ∧ k < n ∧ nx (cxs (idL n) w) k = x := by
  have hne : ∃ k, x.testBit k = true := by
    refine Classical.byContradiction fun hn => ?_
    have : x = 0 := Nat.eq_of_testBit_eq fun j => by
      cases hb : x.testBit j with
      | false => simp
      | true => exact absurd ⟨j, hb⟩ hn
    omega
  obtain ⟨k, hk⟩ := hne
  have hkn : k < n := Classical.byContradiction fun hn => by
    have := Nat.testBit_lt_two_pow (Nat.lt_of_lt_of_le hx (Nat.pow_le_pow_right (by omega) (show n ≤ k by omega)))
    rw [hk] at this; cases this
  have key : ∀ t, t ≤ n → ∃ w, WOk n w ∧ w.length ≤ t ∧ (∀ j, j < n → j ≠ k → nx (cxs (idL n) w) j = 2 ^ j) ∧ ∀ b, (nx (cxs (idL n) w) k).testBit b = (decide (b = k) || (decide (b < t) && x.testBit b)) := by
    intro t
    induction t with
    | zero => exact fun _ => ⟨[], fun e he => (by cases he), Nat.le_refl _, fun j hj _ => nx_idL hj, fun b => by
        show (nx (idL n) k).testBit b = _
        rw [nx_idL hkn, Nat.testBit_two_pow]
        by_cases hb : b = k
        · subst hb; simp
        · have hb' : ¬ k = b := fun e => hb e.symm
          simp [hb, hb']⟩
    | succ t ih =>
      intro ht
      obtain ⟨w, h1, h2, h3, h4⟩ := ih (by omega)
      by_cases hc : t ≠ k ∧ x.testBit t = true
      · have hlen : (cxs (idL n) w).length = n := by rw [cxs_length, idL_length]
        have hE : cxs (idL n) (w ++ [(t, k)]) = cx (cxs (idL n) w) (t, k) := by rw [cxs_append]; rfl
        refine ⟨w ++ [(t, k)], fun e he => ?_, by simp; omega, fun j hj hjk => ?_, fun b => ?_⟩
        · rcases List.mem_append.1 he with he | he
          · exact h1 e he
          · simp only [List.mem_singleton] at he; subst he; exact ⟨by omega, hkn, hc.1⟩
        · rw [hE, nx_cx (by rw [hlen]; exact hj), if_neg (fun e => hjk e.symm), h3 j hj hjk]
        · rw [hE, nx_cx (by rw [hlen]; exact hkn), if_pos rfl, Nat.testBit_xor, h4 b, h3 t (by omega) hc.1, Nat.testBit_two_pow]
          by_cases hbt : b = t
          · subst hbt
            have : ¬ b = k := hc.1
            simp [this, hc.2]
          · have h5 : ¬ t = b := fun e => hbt e.symm
            have h6 : decide (b < t + 1) = decide (b < t) := by rw [Bool.eq_iff_iff, decide_eq_true_eq, decide_eq_true_eq]; omega
            simp [h5, h6]
      · refine ⟨w, h1, by omega, h3, fun b => ?_⟩
        rw [h4 b]
        by_cases hbt : b = t
        · subst hbt
          by_cases hbk : b = k
          · simp [hbk]
          · have : x.testBit b = false := by
              cases hb : x.testBit b with
              | false => rfl
              | true => exact absurd ⟨hbk, hb⟩ hc
            simp [this]
        · have h6 : decide (b < t + 1) = decide (b < t) := by rw [Bool.eq_iff_iff, decide_eq_true_eq, decide_eq_true_eq]; omega
          rw [h6]
  obtain ⟨w, h1, h2, _, h4⟩ := key n (Nat.le_refl _)
  refine ⟨w, k, h1, h2, hkn, Nat.eq_of_testBit_eq fun b => ?_⟩
  rw [h4 b]
  by_cases hbk : b = k
  · subst hbk; simp [hk]
  · by_cases hbn : b < n
    · simp [hbk, hbn]
    · have := Nat.testBit_lt_two_pow (Nat.lt_of_lt_of_le hx (Nat.pow_le_pow_right (by omega) (show n ≤ b by omega)))
      simp [hbk, this]
/-- Every mask can be visited. -/
theorem nw_visit {n : Nat} {ms : List Int} (h : mskOk n ms ms.length = true) : ∀ t, t ≤ ms.length → ∃ v f, BW (lok n) (n * n) v ∧ v.length ≤ t * (2 * n) ∧ bev (lstep n ms) (idL n, apF ms n) v = (idL n, f) ∧ ∀ i, i < t → f.testBit i = true
  | 0, _ => ⟨[], apF ms n, fun e he => (by cases he), by simp, rfl, fun i hi => by omega⟩
  | t + 1, ht => by
    obtain ⟨v, f, h1, h2, h3, h4⟩ := nw_visit h t (by omega)
    obtain ⟨g1, g2, _⟩ := msk_at h (show t < ms.length by omega)
    obtain ⟨x, hx⟩ : ∃ x : Nat, (x : Int) = ix ms t := ⟨(ix ms t).toNat, by omega⟩
    obtain ⟨w, k, k1, k2, k3, k4⟩ := row_word (n := n) (x := x) (by omega) (by omega)
    obtain ⟨u, u1, u2, u3⟩ := word_of k1
    have k1r : WOk n w.reverse := fun e he => k1 e (List.mem_reverse.1 he)
    obtain ⟨u', u1', u2', u3'⟩ := word_of k1r
    have hkey := bev_keep h v (idL n, apF ms n) (mK_id n ms) (noted_id h)
    rw [h3] at hkey
    obtain ⟨c1, c2, c3⟩ := bev_keep h u (idL n, f) hkey.1 hkey.2.1
    obtain ⟨d1, d2, d3⟩ := bev_keep h u' _ c1 c2
    have e1 : (bev (lstep n ms) (idL n, f) u).1 = cxs (idL n) w := by rw [bev_fst]; simp only [dcw]; rw [u3]
    have e2 : (bev (lstep n ms) (bev (lstep n ms) (idL n, f) u) u').1 = idL n := by
      rw [bev_fst, e1]
      simp only [dcw]
      rw [u3', cxs_back w (idL n) (idL_length n) k1]
    have ht' : (bev (lstep n ms) (idL n, f) u).2.testBit t = true := by
      refine c2 t (by omega) ⟨k, ?_, ?_⟩
      · rw [e1, cxs_length, idL_length]; exact k3
      · rw [e1, k4]; exact hx
    refine ⟨v ++ (u ++ u'), (bev (lstep n ms) (bev (lstep n ms) (idL n, f) u) u').2, fun e he => ?_, ?_, ?_, fun i hi => ?_⟩
    · rcases List.mem_append.1 he with he | he
      · exact h1 e he
      · rcases List.mem_append.1 he with he | he
        · exact u1 e he
        · exact u1' e he
    · have hr : w.reverse.length = w.length := List.length_reverse
      rw [List.length_append, List.length_append, u2, u2', hr, Nat.add_mul]; omega
    · rw [bev_app, h3, bev_app]; exact Prod.ext e2 rfl
    · by_cases hit : i = t
      · subst hit; exact d3 i (by omega) ht'
      · exact d3 i (by omega) (c3 i (by omega) (h4 i (by omega)))
theorem nw_reach {n : Nat} {ms : List Int} {m : List Nat} (h : mskOk n ms ms.length = true) (hl : m.length = n) (hb : ∀ i, i < n → nx m i < 2 ^ n) (hi : Indep m) :
    ∃ v, BW (lok n) (n * n) v ∧ v.length ≤ ms.length * (2 * n) + n * (n + 3) ∧ bev (lstep n ms) (idL n, apF ms n) v = (m, 2 ^ ms.length - 1) := by
  obtain ⟨v, f, h1, h2, h3, h4⟩ := nw_visit h ms.length (Nat.le_refl _)
  obtain ⟨w, k1, k2, k3⟩ := full_reach hl hb hi
  obtain ⟨u, u1, u2, u3⟩ := word_of k1
  have hkey := bev_keep h v (idL n, apF ms n) (mK_id n ms) (noted_id h)
  rw [h3] at hkey
  obtain ⟨c1, c2, c3⟩ := bev_keep h u (idL n, f) hkey.1 hkey.2.1
  refine ⟨v ++ u, fun e he => ?_, by rw [List.length_append, u2]; omega, ?_⟩
  · rcases List.mem_append.1 he with he | he
    · exact h1 e he
    · exact u1 e he
  · rw [bev_app, h3]
    refine Prod.ext ?_ (Nat.eq_of_testBit_eq fun i => ?_)
    · rw [bev_fst]; simp only [dcw]; rw [u3, k3]
    · simp only [Nat.testBit_two_pow_sub_one]
      by_cases hil : i < ms.length
      · rw [c3 i hil (h4 i hil), decide_eq_true hil]
      · rw [decide_eq_false hil]
        exact Nat.testBit_lt_two_pow (Nat.lt_of_lt_of_le c1.2.2 (Nat.pow_le_pow_right (by omega) (by omega)))
/-- The queue stays small. -/
def cdM (k : List Nat × Nat) : Nat := cdN k.1 k.1.length * 128 + k.2
theorem mQ_small {n : Nat} {ms : List Int} (h3 : n ≤ 3) (hm : ms.length ≤ 7) (i : Nat) : (mQ n ms i).length ≤ 1000000 := by
  refine Nat.le_trans (bfs_small (p := mK n ms) (code := cdM) (M := 524288) (fun k e h _ _ => mK_step e h) (mK_id n ms) (fun k h => ?_) (fun k k' h h' e => ?_) i) (by decide)
  · have h1 : cdN k.1 k.1.length < 4096 := Nat.lt_of_lt_of_le (cdN_lt (fun j => Nat.lt_of_lt_of_le (h.2.1 j) (pow16 (by omega))) _) (by rw [h.1]; exact Nat.le_trans (Nat.pow_le_pow_right (by omega) h3) (by decide))
    have h2 : k.2 < 128 := Nat.lt_of_lt_of_le h.2.2 (Nat.le_trans (Nat.pow_le_pow_right (by omega) hm) (by decide))
    simp only [cdM]; omega
  · have h2 : k.2 < 128 := Nat.lt_of_lt_of_le h.2.2 (Nat.le_trans (Nat.pow_le_pow_right (by omega) hm) (by decide))
    have h2' : k'.2 < 128 := Nat.lt_of_lt_of_le h'.2.2 (Nat.le_trans (Nat.pow_le_pow_right (by omega) hm) (by decide))
    simp only [cdM] at e
    have h4 := code_inj (h.1.trans h'.1.symm) (fun j => Nat.lt_of_lt_of_le (h.2.1 j) (pow16 (by omega))) (fun j => Nat.lt_of_lt_of_le (h'.2.1 j) (pow16 (by omega))) (by omega)
    refine Prod.ext h4 ?_
    rw [h4] at e; omega
theorem mQ_found {n : Nat} {ms : List Int} {m : List Nat} (h : mskOk n ms ms.length = true) (hl : m.length = n) (hb : ∀ i, i < n → nx m i < 2 ^ n) (hi : Indep m) {i : Nat} (hq : (mQ n ms i).length ≤ i) : (m, 2 ^ ms.length - 1) ∈ (mQ n ms i).map (·.1) := by
  obtain ⟨v, h1, _, h3⟩ := nw_reach h hl hb hi
  obtain ⟨y, hy, h5, _⟩ := bfs_min (step := lstep n ms) (ok := lok n) (E := n * n) (s := (idL n, apF ms n)) hq v h1
  rw [h3] at h5
  exact List.mem_map.2 ⟨y, hy, h5⟩
/-- An entry's path is the same in all queues; it is not longer than any word to its key. -/
theorem mQ_one {n i j : Nat} {ms : List Int} {k : List Nat × Nat} {p q : List Nat} (hp : (k, p) ∈ mQ n ms i) (hq : (k, q) ∈ mQ n ms j) : p = q := by
  obtain ⟨t, ht⟩ := bfs_le (step := lstep n ms) (ok := lok n) (E := n * n) (s := (idL n, apF ms n)) (i := i) (j := max i j) (Nat.le_max_left _ _)
  obtain ⟨u, hu⟩ := bfs_le (step := lstep n ms) (ok := lok n) (E := n * n) (s := (idL n, apF ms n)) (i := j) (j := max i j) (Nat.le_max_right _ _)
  have h1 : (k, p) ∈ bfs (lstep n ms) (lok n) (n * n) (idL n, apF ms n) (max i j) := by rw [ht]; exact List.mem_append.2 (.inl hp)
  have h2 : (k, q) ∈ bfs (lstep n ms) (lok n) (n * n) (idL n, apF ms n) (max i j) := by rw [hu]; exact List.mem_append.2 (.inl hq)
  exact (Prod.ext_iff.1 (bfs_one h1 h2 rfl)).2
theorem mQ_len {n i : Nat} {ms : List Int} {m : List Nat} (h3 : n ≤ 3) (h : mskOk n ms ms.length = true) (hl : m.length = n) (hb : ∀ i, i < n → nx m i < 2 ^ n) (hi : Indep m) {p : List Nat} (hp : ((m, 2 ^ ms.length - 1), p) ∈ mQ n ms i) : p.length ≤ 60 := by
  have hm7 : ms.length ≤ 7 := by have := msk_len h; have h8 : 2 ^ n ≤ 2 ^ 3 := Nat.pow_le_pow_right (by omega) h3; omega
  obtain ⟨v, h1, h2, h4⟩ := nw_reach h hl hb hi
  obtain ⟨y, hy, h5, h6⟩ := bfs_min (step := lstep n ms) (ok := lok n) (E := n * n) (s := (idL n, apF ms n)) (i := 1000000) (mQ_small h3 hm7 _) v h1
  rw [h4] at h5
  have h7 : p = y.2 := mQ_one hp (j := 1000000) (by rw [← h5]; exact hy)
  have h8 := sle_len h6
  rw [← h7] at h8
  have h9 : ms.length * (2 * n) ≤ 7 * 6 := Nat.mul_le_mul hm7 (by omega)
  have h10 : n * (n + 3) ≤ 3 * 6 := Nat.mul_le_mul h3 (by omega)
  omega

end Go.Proofs.Yteehfidjofcfmaa
/- Walks: shortest circuits of linear maps, by the program. -/
set_option linter.unusedSimpArgs false
set_option linter.unusedVariables false
namespace Go.Proofs.Yteehfidjofcfmaa
open Go Go.RowKit
namespace SliT
theorem Tagg_28 : aggOf Try.prog 28 = some 1 := by kernel_rfl
theorem Tagg_38 : aggOf Try.prog 38 = some 2 := by kernel_rfl
theorem Tcall_35 : callable Try.prog 35 = true := by kernel_rfl
theorem Tcall_52 : callable Try.prog 52 = true := by kernel_rfl
theorem Tcall_53 : callable Try.prog 53 = true := by kernel_rfl
theorem Tfo_28_0 : fieldOff Try.prog 28 0 = some 0 := by kernel_rfl
theorem Tfo_38_1 : fieldOff Try.prog 38 1 = some 1 := by kernel_rfl
theorem Tone_22 : oneOf Try.prog 22 = true := by kernel_rfl
theorem Tone_36 : oneOf Try.prog 36 = true := by kernel_rfl
theorem Tsize_38 : (Try.prog.info? 38).map (·.size) = some 2 := by kernel_rfl
theorem Tsl_22 : sliceOf Try.prog 22 = some (3, 1, 8, [.int .i64 0]) := by kernel_rfl
theorem Tsl_36 : sliceOf Try.prog 36 = some (71, 3, 24, [.int .i64 0, .int .i64 0, .int .i64 0]) := by kernel_rfl
theorem Tzero_38 : zeroOf Try.prog 38 = some [.int .i64 0, .slice none 0 0] := by kernel_rfl
end SliT
open SliT
end Go.Proofs.Yteehfidjofcfmaa
/- Walks: the reference's distances of linear maps. -/
set_option linter.unusedSimpArgs false
set_option linter.unusedVariables false
namespace Go.Proofs.Yteehfidjofcfmaa
open Go Go.RowKit
namespace DisT
theorem Tagg_28 : aggOf Try.prog 28 = some 1 := by kernel_rfl
theorem Tcall_70 : callable Try.prog 70 = true := by kernel_rfl
theorem Tcall_71 : callable Try.prog 71 = true := by kernel_rfl
theorem Tfo_28_0 : fieldOff Try.prog 28 0 = some 0 := by kernel_rfl
theorem Tone_22 : oneOf Try.prog 22 = true := by kernel_rfl
theorem Tone_3 : oneOf Try.prog 3 = true := by kernel_rfl
theorem Tsize_28 : (Try.prog.info? 28).map (·.size) = some 1 := by kernel_rfl
theorem Tsize_3 : (Try.prog.info? 3).map (·.size) = some 1 := by kernel_rfl
theorem Tsl_22 : sliceOf Try.prog 22 = some (3, 1, 8, [.int .i64 0]) := by kernel_rfl
theorem Tzero_28 : zeroOf Try.prog 28 = some [.slice none 0 0] := by kernel_rfl
end DisT
open DisT
end Go.Proofs.Yteehfidjofcfmaa
/- Walks: shortest circuits of linear maps, by the reference. -/
set_option linter.unusedSimpArgs false
set_option linter.unusedVariables false
namespace Go.Proofs.Yteehfidjofcfmaa
open Go Go.RowKit
namespace SlyT
theorem Tagg_28 : aggOf Try.prog 28 = some 1 := by kernel_rfl
theorem Tone_3 : oneOf Try.prog 3 = true := by kernel_rfl
theorem Tsl_22 : sliceOf Try.prog 22 = some (3, 1, 8, [.int .i64 0]) := by kernel_rfl
end SlyT
open SlyT
end Go.Proofs.Yteehfidjofcfmaa
/- Walks: the laws' own functions on linear maps. -/
set_option linter.unusedSimpArgs false
set_option linter.unusedVariables false
namespace Go.Proofs.Yteehfidjofcfmaa
open Go Go.RowKit
namespace LieT
theorem Tagg_28 : aggOf Try.prog 28 = some 1 := by kernel_rfl
theorem Tfo_28_0 : fieldOff Try.prog 28 0 = some 0 := by kernel_rfl
theorem Tone_22 : oneOf Try.prog 22 = true := by kernel_rfl
theorem Tsize_22 : (Try.prog.info? 22).map (·.size) = some 1 := by kernel_rfl
theorem Tsize_28 : (Try.prog.info? 28).map (·.size) = some 1 := by kernel_rfl
theorem Tzero_28 : zeroOf Try.prog 28 = some [.slice none 0 0] := by kernel_rfl
end LieT
open LieT
end Go.Proofs.Yteehfidjofcfmaa
/- Walks: valid masks; shortest networks by the program. -/
set_option linter.unusedSimpArgs false
set_option linter.unusedVariables false
namespace Go.Proofs.Yteehfidjofcfmaa
open Go Go.RowKit
namespace NwsT
theorem Tcall_100 : callable Try.prog 100 = true := by kernel_rfl
theorem Tcall_121 : callable Try.prog 121 = true := by kernel_rfl
theorem Tcall_73 : callable Try.prog 73 = true := by kernel_rfl
theorem Tint_96 : Try.prog.underlying 96 = some (.int .u64) := by kernel_rfl
theorem Tone_3 : oneOf Try.prog 3 = true := by kernel_rfl
theorem Tsl_22 : sliceOf Try.prog 22 = some (3, 1, 8, [.int .i64 0]) := by kernel_rfl
theorem Tsome_3 : (Try.prog.underlying 3).isSome = true := by kernel_rfl
end NwsT
open NwsT
theorem mask_pow {n : Nat} (h : within (n : Int) 1 5 = true) : ∃ q : Nat, q = 2 ^ n ∧ q ≤ 32 := by
  have := within_iff.1 h
  exact ⟨_, rfl, Nat.pow_le_pow_right (n := 2) (by omega) (show n ≤ 5 by omega)⟩
def rsAt (lo hi : Int) (xs : List Int) (i : Nat) : Bool := within (ix xs i) lo hi && decide (0 < i → ix xs (i - 1) < ix xs i)
def nwB (n : Nat) (xs ms : List Int) : Bool := decide (n ≤ 3) && linOk xs n && mskOk n ms ms.length
noncomputable def nwP (n : Nat) (m : List Nat) (ms : List Int) : List Nat := @Classical.epsilon _ ⟨[]⟩ fun p => ∃ i, ((m, 2 ^ ms.length - 1), p) ∈ mQ n ms i
noncomputable def nwG (n : Nat) (xs ms : List Int) : List Nat := if nwB n xs ms = true then nwP n (nats xs) ms else []
def nwN (n : Nat) (xs ms : List Int) : Int := if nwB n xs ms = true then n else 0
theorem nwP_spec {n i : Nat} {m p : List Nat} {ms : List Int} (h : ((m, 2 ^ ms.length - 1), p) ∈ mQ n ms i) : nwP n m ms = p := by
  obtain ⟨j, hj⟩ := @Classical.epsilon_spec_aux _ ⟨[]⟩ (fun p => ∃ i, ((m, 2 ^ ms.length - 1), p) ∈ mQ n ms i) ⟨p, i, h⟩
  exact mQ_one hj h
theorem nw_bad {n : Nat} {xs ms : List Int} (h : nwB n xs ms = false) : nwG n xs ms = [] ∧ nwN n xs ms = 0 := by simp [nwG, nwN, h]
theorem nw_good {n : Nat} {xs ms : List Int} (h : nwB n xs ms = true) : nwN n xs ms = n := by simp [nwN, h]
structure NwOk (n : Nat) (xs ms : List Int) : Prop where
  n3 : n ≤ 3
  n1 : 1 ≤ n
  nl : nl (nats xs) = xs
  ml : (nats xs).length = n
  mb : ∀ i, nx (nats xs) i < 2 ^ n
  mi : Indep (nats xs)
  mks : mskOk n ms ms.length = true
  m7 : ms.length ≤ 7
  fd : ∀ i, (mQ n ms i).length ≤ i → (nats xs, 2 ^ ms.length - 1) ∈ (mQ n ms i).map (·.1)
  one : ∀ i p, ((nats xs, 2 ^ ms.length - 1), p) ∈ mQ n ms i → p = nwG n xs ms
  len : (nwG n xs ms).length ≤ 60
  bw : BW (lok n) (n * n) (nwG n xs ms)
theorem nw_ok {n : Nat} {xs ms : List Int} (hl : xs.length = n) (h : nwB n xs ms = true) : NwOk n xs ms := by
  obtain ⟨⟨h3, hk⟩, hm⟩ : (n ≤ 3 ∧ linOk xs n = true) ∧ mskOk n ms ms.length = true := by simpa [nwB] using h
  obtain ⟨h1, h5, hnl, hml, hmb, hmi⟩ := lin_facts hl hk
  have hm7 : ms.length ≤ 7 := by have := msk_len hm; have h8 : 2 ^ n ≤ 2 ^ 3 := Nat.pow_le_pow_right (by omega) h3; omega
  have hfd : ∀ i, (mQ n ms i).length ≤ i → (nats xs, 2 ^ ms.length - 1) ∈ (mQ n ms i).map (·.1) := fun i hi => mQ_found hm hml (fun i _ => hmb i) hmi hi
  have hone : ∀ i p, ((nats xs, 2 ^ ms.length - 1), p) ∈ mQ n ms i → p = nwG n xs ms := fun i p hp => by rw [nwG, if_pos h, nwP_spec hp]
  obtain ⟨B, hB⟩ : ∃ B : Nat, B = 1000000 := ⟨_, rfl⟩
  obtain ⟨y, hy, he⟩ := List.mem_map.1 (hfd B (by rw [hB]; exact mQ_small h3 hm7 _))
  have hy2 : ((nats xs, 2 ^ ms.length - 1), y.2) ∈ mQ n ms B := by rw [← he]; exact hy
  have hG := hone _ _ hy2
  refine ⟨h3, h1, hnl, hml, hmb, hmi, hm, hm7, hfd, hone, ?_, ?_⟩
  · rw [← hG]; exact mQ_len h3 hm hml (fun i _ => hmb i) hmi hy2
  · rw [← hG]; exact (bfs_inv (step := lstep n ms) (ok := lok n) (E := n * n) (s := (idL n, apF ms n)) B).okw y hy
theorem nw_le {n : Nat} {xs ms : List Int} (hl : xs.length = n) : (nwG n xs ms).length ≤ 60 := by
  cases hb : nwB n xs ms with
  | true => exact (nw_ok hl hb).len
  | false => rw [(nw_bad hb).1]; simp

set_option maxHeartbeats 1000000 in
set_option maxRecDepth 20000 in
theorem l1Rising_spec {va : Value} {n : Nat} {xs : List Int} {lo hi : Int} {w : World} (ha : Sl w va 1 n (ints xs)) : Calls Try.prog 121 #[va, .int .i64 lo, .int .i64 hi] w (Post No w fun v _ => v = .bool (allI (rsAt lo hi xs) n)) := by
 have hxl := ha.len
 have hn := ha.le
 obtain ⟨A, c, rfl, _, _⟩ := ha.form0
 refine enter (n := 35) (args := [.slice A n c, .int .i64 lo, .int .i64 hi]) Try.func121 rfl rfl (St.empty _ _) ?_
 refine Run.sr ?_
 refine Run.p (.bool false) rfl rfl ?_
 refine Run.done ?_
 refine Run.seq ?_
 refine Run.sr ?_
 refine Run.p (.slice A n c) rfl rfl ?_
 refine Run.y (.int .i64 (((n : Nat) : Int))) rfl (OpY.len Tsl_22 rfl) ?_
 refine Run.p (.int .i64 0) rfl rfl ?_
 refine Run.done ?_
 refine Run.block ?_
 refine Run.loop (ι := Nat) [6, 7, 8, 11, 12, 13, 14, 15, 16, 17, 18, 19, 20, 21, 22, 23, 24, 25, 26, 27, 28, 29, 30, 31, 32, 33, 34] (fun k => [(11, .int .i64 (((k : Nat) : Int)))]) (fun k => []) (fun k => k ≤ n ∧ (∀ i, i < k → rsAt lo hi xs i = true)) (fun k => n - k) 0 ?_ ?_ ?_ ?_
 ·exact ⟨Nat.zero_le _, by first | trivial | (intro i hi; omega)⟩
 ·exact ⟨rfl, trivial⟩
 ·exact (Some'.weak (.nil _))
 ·rintro k fr hinv
  show Run _ _ (over _ _ [(11, .int .i64 (((k : Nat) : Int)))] fr) []
  try dsimp only at hinv
  refine Run.sr ?_
  refine Run.p (.bool (decide ((((k : Nat) : Int)) < (((n : Nat) : Int))))) rfl rfl ?_
  refine Run.done ?_
  refine Run.seq ?_
  refine Run.cond (b := decide ((((k : Nat) : Int)) < (((n : Nat) : Int)))) rfl (fun h12 => ?_) (fun h12 => ?_)
  ·have p12 := h12; try simp only [bs] at p12
   have hltk : k < n := by omega
   obtain ⟨b, o, rfl⟩ := ha.opn (by omega)
   refine Run.skip ?_
   refine Run.seq ?_
   refine Run.block ?_
   refine Run.sr ?_
   refine Run.p (.int .i64 (((k : Nat) : Int))) rfl rfl ?_
   refine Run.y (.pointer (some ⟨b, o + k, none⟩)) rfl (OpY.index (kk := k) Tsl_22 rfl rfl (by omega) (by omega) (by first | rfl | omega)) ?_
   refine Run.y (.int .i64 (ix xs (k))) rfl (OpY.load1 Tone_3 rfl (Cells.arg (k := k) ha rfl (by omega) (pre1 (by omega)))) ?_
   refine Run.p (.int .i64 (((k : Nat) : Int))) rfl rfl ?_
   refine Run.p (.int .i64 (ix xs (k))) rfl rfl ?_
   refine Run.dsr ?_
   refine Run.p (.int .i64 (ix xs (k))) rfl rfl ?_
   refine Run.p (.int .i64 lo) rfl rfl ?_
   refine Run.p (.int .i64 hi) rfl rfl ?_
   refine Run.q (v := .bool (within (ix xs k) lo hi)) rfl (OpQ.call (vs := [.int .i64 (ix xs (k)), .int .i64 lo, .int .i64 hi]) (caps := []) Tcall_100 rfl rfl (fun w hs => l1In_spec _ _ _ w)) ?_
   refine Run.p (.bool (!(within (ix xs k) lo hi))) rfl rfl ?_
   rcases Bool.eq_false_or_eq_true (!(within (ix xs k) lo hi)) with h21 | h21
   ·refine Run.q (v := .bool true) rfl (OpQ.y (OpY.moveB rfl h21)) ?_
    have p21 := h21; try simp only [bs] at p21
    refine Run.pass rfl ?_
    refine Run.pass rfl ?_
    refine Run.pass rfl ?_
    refine Run.pass rfl ?_
    refine Run.pass rfl ?_
    refine Run.pass rfl ?_
    refine Run.pass rfl ?_
    refine Run.pass rfl ?_
    refine Run.pass rfl ?_
    refine Run.pass rfl ?_
    refine Run.pass rfl ?_
    refine Run.p (.bool true) rfl rfl ?_
    refine Run.done ?_
    refine Run.cond (b := true) rfl (fun _ => ?_) (fun h => nomatch h)
    refine Run.seq ?_
    have hres : allI (rsAt lo hi xs) n = false := by
     refine allI_false hltk ?_
     simp only [rsAt, Bool.and_eq_false_iff, decide_eq_false_iff_not]
     simp_all <;> omega
    refine Run.region ?_
    refine Run.p (.bool false) rfl rfl ?_
    refine Run.done ?_
    refine Run.ret ?_
    refine ⟨.bool false, [], Out.one rfl rfl, (Some'.weak (.nil _)), ?_⟩
    show _ = _; rw [hres]
   ·refine Run.q (v := .bool false) rfl (OpQ.y (OpY.moveB rfl h21)) ?_
    have p21 := h21; try simp only [bs] at p21
    refine Run.p (.int .i64 (((k : Nat) : Int))) rfl rfl ?_
    refine Run.p (.bool (decide ((((k : Nat) : Int)) > 0))) rfl rfl ?_
    rcases Bool.eq_false_or_eq_true (decide ((((k : Nat) : Int)) > 0)) with h24 | h24
    ·refine Run.q (v := .bool true) rfl (OpQ.y (OpY.moveB rfl h24)) ?_
     have p24 := h24; try simp only [bs] at p24
     refine Run.p (.slice (some ⟨b, o, none⟩) n c) rfl rfl ?_
     refine Run.p (.int .i64 (((k : Nat) : Int))) rfl rfl ?_
     refine Run.y (.int .i64 ((((k : Nat) : Int)) - 1)) rfl (OpY.sub rfl rfl rfl (by omega) (by omega)) ?_
     refine Run.y (.pointer (some ⟨b, o + (k - 1), none⟩)) rfl (OpY.index (kk := (k - 1)) Tsl_22 rfl rfl (by omega) (by omega) (by first | rfl | omega)) ?_
     refine Run.y (.int .i64 (ix xs ((k - 1)))) rfl (OpY.load1 Tone_3 rfl (Cells.arg (k := (k - 1)) ha rfl (by omega) (pre1 (by omega)))) ?_
     refine Run.p (.int .i64 (ix xs (k))) rfl rfl ?_
     refine Run.p (.bool (decide ((ix xs ((k - 1))) ≥ (ix xs (k))))) rfl rfl ?_
     refine Run.p (.bool (decide ((ix xs ((k - 1))) ≥ (ix xs (k))))) rfl rfl ?_
     refine Run.p (.bool (decide ((ix xs ((k - 1))) ≥ (ix xs (k))))) rfl rfl ?_
     refine Run.done ?_
     refine Run.cond (b := decide ((ix xs ((k - 1))) ≥ (ix xs (k)))) rfl (fun h33 => ?_) (fun h33 => ?_)
     ·have p33 := h33; try simp only [bs] at p33
      refine Run.seq ?_
      have hres : allI (rsAt lo hi xs) n = false := by
       refine allI_false hltk ?_
       simp only [rsAt, Bool.and_eq_false_iff, decide_eq_false_iff_not]
       simp_all <;> omega
      refine Run.region ?_
      refine Run.p (.bool false) rfl rfl ?_
      refine Run.done ?_
      refine Run.ret ?_
      refine ⟨.bool false, [], Out.one rfl rfl, (Some'.weak (.nil _)), ?_⟩
      show _ = _; rw [hres]
     ·have p33 := h33; try simp only [bs] at p33
      refine Run.skip ?_
      refine Run.blockEnd ?_
      have hgood : rsAt lo hi xs k = true := by
       simp only [rsAt, Bool.and_eq_true, decide_eq_true_eq]
       refine ⟨?_, ?_⟩ <;> simp_all <;> omega
      refine Run.region ?_
      refine Run.y (.int .i64 ((((k : Nat) : Int)) + 1)) rfl (OpY.add rfl rfl rfl (by omega) (by omega)) ?_
      refine Run.p (.int .i64 ((((k : Nat) : Int)) + 1)) rfl rfl ?_
      refine Run.done ?_
      refine Run.goal ⟨(by repeat (first | exact Same.refl _ _ | refine Same.put rfl ?_ | refine Same.over rfl rfl ?_)), k + 1, ?_, ?_, ?_, ?_⟩
      ·refine ⟨by omega, ?_⟩
       intro i hi
       rcases Nat.lt_succ_iff_lt_or_eq.1 hi with h | h
       ·exact hinv.2 i h
       ·rw [h]; exact hgood
      ·omega
      ·exact ⟨(by first | rfl | (congr 1; omega) | simp), trivial⟩
      ·exact (Some'.weak (.nil _))
    ·refine Run.q (v := .bool false) rfl (OpQ.y (OpY.moveB rfl h24)) ?_
     have p24 := h24; try simp only [bs] at p24
     refine Run.pass rfl ?_
     refine Run.pass rfl ?_
     refine Run.pass rfl ?_
     refine Run.pass rfl ?_
     refine Run.pass rfl ?_
     refine Run.pass rfl ?_
     refine Run.pass rfl ?_
     refine Run.p (.bool false) rfl rfl ?_
     refine Run.p (.bool false) rfl rfl ?_
     refine Run.done ?_
     refine Run.cond (b := false) rfl (fun h => nomatch h) (fun _ => ?_)
     refine Run.skip ?_
     refine Run.blockEnd ?_
     have hgood : rsAt lo hi xs k = true := by
      simp only [rsAt, Bool.and_eq_true, decide_eq_true_eq]
      refine ⟨?_, ?_⟩ <;> simp_all <;> omega
     refine Run.region ?_
     refine Run.y (.int .i64 ((((k : Nat) : Int)) + 1)) rfl (OpY.add rfl rfl rfl (by omega) (by omega)) ?_
     refine Run.p (.int .i64 ((((k : Nat) : Int)) + 1)) rfl rfl ?_
     refine Run.done ?_
     refine Run.goal ⟨(by repeat (first | exact Same.refl _ _ | refine Same.put rfl ?_ | refine Same.over rfl rfl ?_)), k + 1, ?_, ?_, ?_, ?_⟩
     ·refine ⟨by omega, ?_⟩
      intro i hi
      rcases Nat.lt_succ_iff_lt_or_eq.1 hi with h | h
      ·exact hinv.2 i h
      ·rw [h]; exact hgood
     ·omega
     ·exact ⟨(by first | rfl | (congr 1; omega) | simp), trivial⟩
     ·exact (Some'.weak (.nil _))
  ·have p12 := h12; try simp only [bs] at p12
   have hknk : k = n := by omega
   have hres : allI (rsAt lo hi xs) n = true := allI_iff.2 (by rw [← hknk]; exact hinv.2)
   refine Run.exit rfl ?_
   refine Run.sr ?_
   refine Run.p (.bool true) rfl rfl ?_
   refine Run.done ?_
   refine Run.ret ?_
   refine ⟨.bool true, [], Out.one rfl rfl, (Some'.weak (.nil _)), ?_⟩
   show _ = _; rw [hres]

set_option maxHeartbeats 1000000 in
set_option maxRecDepth 20000 in
theorem l14Masks_spec {n : Nat} {vm : Value} {mn : Nat} {ms : List Int} {w : World} (hms : Sl w vm 1 mn (ints ms)) : Calls Try.prog 83 #[.int .i64 (n : Int), vm] w (Post No w fun v _ => v = .bool (mskOk n ms mn)) := by
 refine enter (n := 15) (args := [.int .i64 (((n : Nat) : Int)), vm]) Try.func83 rfl rfl (St.empty _ _) ?_
 refine Run.sr ?_
 refine Run.p (.bool false) rfl rfl ?_
 refine Run.dsr ?_
 refine Run.p (.int .i64 (((n : Nat) : Int))) rfl rfl ?_
 refine Run.q (v := .bool (within (n : Int) 1 5)) rfl (OpQ.call (vs := [.int .i64 (((n : Nat) : Int)), .int .i64 1, .int .i64 5]) (caps := []) Tcall_100 rfl rfl (fun w hs => l1In_spec _ _ _ w)) ?_
 rcases Bool.eq_false_or_eq_true (within (n : Int) 1 5) with h7 | h7
 ·refine Run.q (v := .bool true) rfl (OpQ.y (OpY.moveB rfl h7)) ?_
  have p7 := h7; try simp only [bs] at p7
  have hw : within (n : Int) 1 5 = true := by simpa using h7
  obtain ⟨q, hq, hq32⟩ := mask_pow hw
  have hn5 := within_iff.1 hw
  refine Run.p (vm) rfl rfl ?_
  refine Run.p (.int .i64 (((n : Nat) : Int))) rfl rfl ?_
  refine Run.y (.int .u64 (((n : Nat) : Int))) rfl (OpY.convIntEq Tsome_3 Tint_96 rfl (by rw [IntKind.wrap_u64]; omega)) ?_
  refine Run.y (.int .i64 (((q : Nat) : Int))) rfl (OpY.shlOne rfl rfl rfl (by omega) hq) ?_
  refine Run.y (.int .i64 ((((q : Nat) : Int)) - 1)) rfl (OpY.sub rfl rfl rfl (by omega) (by omega)) ?_
  refine Run.q (v := .bool (allI (rsAt 1 (((q : Nat) : Int) - 1) ms) mn)) rfl (OpQ.call (vs := [vm, .int .i64 1, .int .i64 ((((q : Nat) : Int)) - 1)]) (caps := []) Tcall_121 rfl rfl (fun w hs => l1Rising_spec (hs.sl hms))) ?_
  refine Run.p (.bool (allI (rsAt 1 (((q : Nat) : Int) - 1) ms) mn)) rfl rfl ?_
  refine Run.p (.bool (allI (rsAt 1 (((q : Nat) : Int) - 1) ms) mn)) rfl rfl ?_
  refine Run.done ?_
  refine Run.ret ?_
  refine ⟨.bool (allI (rsAt 1 (((q : Nat) : Int) - 1) ms) mn), [], Out.one rfl rfl, (Some'.weak (.nil _)), ?_⟩
  show _ = _; simp only [mskOk]; first | (rw [hw, Bool.true_and, hq]; rfl) | simp_all
 ·refine Run.q (v := .bool false) rfl (OpQ.y (OpY.moveB rfl h7)) ?_
  have p7 := h7; try simp only [bs] at p7
  refine Run.pass rfl ?_
  refine Run.pass rfl ?_
  refine Run.pass rfl ?_
  refine Run.pass rfl ?_
  refine Run.pass rfl ?_
  refine Run.pass rfl ?_
  refine Run.p (.bool false) rfl rfl ?_
  refine Run.p (.bool false) rfl rfl ?_
  refine Run.done ?_
  refine Run.ret ?_
  refine ⟨.bool false, [], Out.one rfl rfl, (Some'.weak (.nil _)), ?_⟩
  show _ = _; simp only [mskOk]; first | (rw [hw, Bool.true_and, hq]; rfl) | simp_all

set_option maxHeartbeats 1000000 in
set_option maxRecDepth 20000 in
theorem areMasks_spec {n : Nat} {vm : Value} {mn : Nat} {ms : List Int} {w : World} (hms : Sl w vm 1 mn (ints ms)) : Calls Try.prog 57 #[.int .i64 (n : Int), vm] w (Post No w fun v _ => v = .bool (mskOk n ms mn)) := by
 have hml0 := hms.len
 have hmn := hms.le
 obtain ⟨Am, cm, rfl, _, _⟩ := hms.form0
 refine enter (n := 37) (args := [.int .i64 (((n : Nat) : Int)), .slice Am mn cm]) Try.func57 rfl rfl (St.empty _ _) ?_
 refine Run.sr ?_
 refine Run.p (.bool false) rfl rfl ?_
 refine Run.done ?_
 refine Run.seq ?_
 refine Run.sr ?_
 refine Run.p (.int .i64 (((n : Nat) : Int))) rfl rfl ?_
 refine Run.q (v := .bool (within (n : Int) 1 5)) rfl (OpQ.call (vs := [.int .i64 (((n : Nat) : Int)), .int .i64 1, .int .i64 5]) (caps := []) Tcall_73 rfl rfl (fun w hs => within_spec _ _ _ w)) ?_
 refine Run.p (.bool (!(within (n : Int) 1 5))) rfl rfl ?_
 refine Run.done ?_
 refine Run.cond (b := !(within (n : Int) 1 5)) rfl (fun h9 => ?_) (fun h9 => ?_)
 ·have p9 := h9; try simp only [bs] at p9
  have hres : mskOk n ms mn = false := by
   have hw : within (n : Int) 1 5 = false := by simpa using h9
   rw [mskOk, hw, Bool.false_and]
  refine Run.sr ?_
  refine Run.p (.bool false) rfl rfl ?_
  refine Run.done ?_
  refine Run.ret ?_
  refine ⟨.bool false, [], Out.one rfl rfl, (Some'.weak (.nil _)), ?_⟩
  show _ = _; first | (rw [hres]; done) | (rw [hres]) | simp_all [mskOk]
 ·have p9 := h9; try simp only [bs] at p9
  have hw : within (n : Int) 1 5 = true := by simpa using h9
  obtain ⟨q, hq, hq32⟩ := mask_pow hw
  have hn5 := within_iff.1 hw
  refine Run.skip ?_
  refine Run.seq ?_
  refine Run.sr ?_
  refine Run.p (.slice Am mn cm) rfl rfl ?_
  refine Run.y (.int .i64 (((mn : Nat) : Int))) rfl (OpY.len Tsl_22 rfl) ?_
  refine Run.p (.int .i64 0) rfl rfl ?_
  refine Run.done ?_
  refine Run.block ?_
  refine Run.loop (ι := Nat) [4, 5, 6, 12, 13, 14, 15, 16, 17, 18, 19, 20, 21, 22, 23, 24, 25, 26, 27, 28, 29, 30, 31, 32, 33, 34, 35, 36] (fun k => [(12, .int .i64 (((k : Nat) : Int)))]) (fun k => []) (fun k => k ≤ mn ∧ (∀ i, i < k → mskAt n ms i = true)) (fun k => mn - k) 0 ?_ ?_ ?_ ?_
  ·exact ⟨Nat.zero_le _, by first | trivial | (intro i hi; omega)⟩
  ·exact ⟨rfl, trivial⟩
  ·exact (Some'.weak (.nil _))
  ·rintro k fr hinv
   show Run _ _ (over _ _ [(12, .int .i64 (((k : Nat) : Int)))] fr) []
   try dsimp only at hinv
   refine Run.sr ?_
   refine Run.p (.bool (decide ((((k : Nat) : Int)) < (((mn : Nat) : Int))))) rfl rfl ?_
   refine Run.done ?_
   refine Run.seq ?_
   refine Run.cond (b := decide ((((k : Nat) : Int)) < (((mn : Nat) : Int)))) rfl (fun h13 => ?_) (fun h13 => ?_)
   ·have p13 := h13; try simp only [bs] at p13
    have hltk : k < mn := by omega
    obtain ⟨b, o, rfl⟩ := hms.opn (by omega)
    refine Run.skip ?_
    refine Run.seq ?_
    refine Run.block ?_
    refine Run.sr ?_
    refine Run.p (.int .i64 (((k : Nat) : Int))) rfl rfl ?_
    refine Run.y (.pointer (some ⟨b, o + k, none⟩)) rfl (OpY.index (kk := k) Tsl_22 rfl rfl (by omega) (by omega) (by first | rfl | omega)) ?_
    refine Run.y (.int .i64 (ix ms (k))) rfl (OpY.load1 Tone_3 rfl (Cells.arg (k := k) hms rfl (by omega) (pre1 (by omega)))) ?_
    refine Run.p (.int .i64 (((k : Nat) : Int))) rfl rfl ?_
    refine Run.p (.int .i64 (ix ms (k))) rfl rfl ?_
    refine Run.dsr ?_
    refine Run.p (.int .i64 (ix ms (k))) rfl rfl ?_
    refine Run.p (.int .i64 (((n : Nat) : Int))) rfl rfl ?_
    refine Run.y (.int .i64 (((q : Nat) : Int))) rfl (OpY.shlOne rfl rfl rfl (by omega) hq) ?_
    refine Run.y (.int .i64 ((((q : Nat) : Int)) - 1)) rfl (OpY.sub rfl rfl rfl (by omega) (by omega)) ?_
    refine Run.q (v := .bool (within (ix ms k) 1 (((q : Nat) : Int) - 1))) rfl (OpQ.call (vs := [.int .i64 (ix ms (k)), .int .i64 1, .int .i64 ((((q : Nat) : Int)) - 1)]) (caps := []) Tcall_73 rfl rfl (fun w hs => within_spec _ _ _ w)) ?_
    refine Run.p (.bool (!(within (ix ms k) 1 (((q : Nat) : Int) - 1)))) rfl rfl ?_
    rcases Bool.eq_false_or_eq_true (!(within (ix ms k) 1 (((q : Nat) : Int) - 1))) with h23 | h23
    ·refine Run.q (v := .bool true) rfl (OpQ.y (OpY.moveB rfl h23)) ?_
     have p23 := h23; try simp only [bs] at p23
     refine Run.pass rfl ?_
     refine Run.pass rfl ?_
     refine Run.pass rfl ?_
     refine Run.pass rfl ?_
     refine Run.pass rfl ?_
     refine Run.pass rfl ?_
     refine Run.pass rfl ?_
     refine Run.pass rfl ?_
     refine Run.pass rfl ?_
     refine Run.pass rfl ?_
     refine Run.pass rfl ?_
     refine Run.p (.bool true) rfl rfl ?_
     refine Run.done ?_
     refine Run.cond (b := true) rfl (fun _ => ?_) (fun h => nomatch h)
     refine Run.seq ?_
     have hres : mskOk n ms mn = false := by
      rw [mskOk, hw, Bool.true_and]
      refine allI_false hltk ?_
      simp only [mskAt, ← hq, Bool.and_eq_false_iff, decide_eq_false_iff_not]
      simp_all <;> omega
     refine Run.region ?_
     refine Run.p (.bool false) rfl rfl ?_
     refine Run.done ?_
     refine Run.ret ?_
     refine ⟨.bool false, [], Out.one rfl rfl, (Some'.weak (.nil _)), ?_⟩
     show _ = _; first | (rw [hres]; done) | (rw [hres]) | simp_all [mskOk]
    ·refine Run.q (v := .bool false) rfl (OpQ.y (OpY.moveB rfl h23)) ?_
     have p23 := h23; try simp only [bs] at p23
     refine Run.p (.int .i64 (((k : Nat) : Int))) rfl rfl ?_
     refine Run.p (.bool (decide ((((k : Nat) : Int)) > 0))) rfl rfl ?_
     rcases Bool.eq_false_or_eq_true (decide ((((k : Nat) : Int)) > 0)) with h26 | h26
     ·refine Run.q (v := .bool true) rfl (OpQ.y (OpY.moveB rfl h26)) ?_
      have p26 := h26; try simp only [bs] at p26
      refine Run.p (.slice (some ⟨b, o, none⟩) mn cm) rfl rfl ?_
      refine Run.p (.int .i64 (((k : Nat) : Int))) rfl rfl ?_
      refine Run.y (.int .i64 ((((k : Nat) : Int)) - 1)) rfl (OpY.sub rfl rfl rfl (by omega) (by omega)) ?_
      refine Run.y (.pointer (some ⟨b, o + (k - 1), none⟩)) rfl (OpY.index (kk := (k - 1)) Tsl_22 rfl rfl (by omega) (by omega) (by first | rfl | omega)) ?_
      refine Run.y (.int .i64 (ix ms ((k - 1)))) rfl (OpY.load1 Tone_3 rfl (Cells.arg (k := (k - 1)) hms rfl (by omega) (pre1 (by omega)))) ?_
      refine Run.p (.int .i64 (ix ms (k))) rfl rfl ?_
      refine Run.p (.bool (decide ((ix ms ((k - 1))) ≥ (ix ms (k))))) rfl rfl ?_
      refine Run.p (.bool (decide ((ix ms ((k - 1))) ≥ (ix ms (k))))) rfl rfl ?_
      refine Run.p (.bool (decide ((ix ms ((k - 1))) ≥ (ix ms (k))))) rfl rfl ?_
      refine Run.done ?_
      refine Run.cond (b := decide ((ix ms ((k - 1))) ≥ (ix ms (k)))) rfl (fun h35 => ?_) (fun h35 => ?_)
      ·have p35 := h35; try simp only [bs] at p35
       refine Run.seq ?_
       have hres : mskOk n ms mn = false := by
        rw [mskOk, hw, Bool.true_and]
        refine allI_false hltk ?_
        simp only [mskAt, ← hq, Bool.and_eq_false_iff, decide_eq_false_iff_not]
        simp_all <;> omega
       refine Run.region ?_
       refine Run.p (.bool false) rfl rfl ?_
       refine Run.done ?_
       refine Run.ret ?_
       refine ⟨.bool false, [], Out.one rfl rfl, (Some'.weak (.nil _)), ?_⟩
       show _ = _; first | (rw [hres]; done) | (rw [hres]) | simp_all [mskOk]
      ·have p35 := h35; try simp only [bs] at p35
       refine Run.skip ?_
       refine Run.blockEnd ?_
       have hgood : mskAt n ms k = true := by
        simp only [mskAt, ← hq, Bool.and_eq_true, decide_eq_true_eq]
        refine ⟨?_, ?_⟩ <;> simp_all <;> omega
       refine Run.region ?_
       refine Run.y (.int .i64 ((((k : Nat) : Int)) + 1)) rfl (OpY.add rfl rfl rfl (by omega) (by omega)) ?_
       refine Run.p (.int .i64 ((((k : Nat) : Int)) + 1)) rfl rfl ?_
       refine Run.done ?_
       refine Run.goal ⟨(by repeat (first | exact Same.refl _ _ | refine Same.put rfl ?_ | refine Same.over rfl rfl ?_)), k + 1, ?_, ?_, ?_, ?_⟩
       ·refine ⟨by omega, ?_⟩
        intro i hi
        rcases Nat.lt_succ_iff_lt_or_eq.1 hi with h | h
        ·exact hinv.2 i h
        ·rw [h]; exact hgood
       ·omega
       ·exact ⟨(by first | rfl | (congr 1; omega) | simp), trivial⟩
       ·exact (Some'.weak (.nil _))
     ·refine Run.q (v := .bool false) rfl (OpQ.y (OpY.moveB rfl h26)) ?_
      have p26 := h26; try simp only [bs] at p26
      refine Run.pass rfl ?_
      refine Run.pass rfl ?_
      refine Run.pass rfl ?_
      refine Run.pass rfl ?_
      refine Run.pass rfl ?_
      refine Run.pass rfl ?_
      refine Run.pass rfl ?_
      refine Run.p (.bool false) rfl rfl ?_
      refine Run.p (.bool false) rfl rfl ?_
      refine Run.done ?_
      refine Run.cond (b := false) rfl (fun h => nomatch h) (fun _ => ?_)
      refine Run.skip ?_
      refine Run.blockEnd ?_
      have hgood : mskAt n ms k = true := by
       simp only [mskAt, ← hq, Bool.and_eq_true, decide_eq_true_eq]
       refine ⟨?_, ?_⟩ <;> simp_all <;> omega
      refine Run.region ?_
      refine Run.y (.int .i64 ((((k : Nat) : Int)) + 1)) rfl (OpY.add rfl rfl rfl (by omega) (by omega)) ?_
      refine Run.p (.int .i64 ((((k : Nat) : Int)) + 1)) rfl rfl ?_
      refine Run.done ?_
      refine Run.goal ⟨(by repeat (first | exact Same.refl _ _ | refine Same.put rfl ?_ | refine Same.over rfl rfl ?_)), k + 1, ?_, ?_, ?_, ?_⟩
      ·refine ⟨by omega, ?_⟩
       intro i hi
       rcases Nat.lt_succ_iff_lt_or_eq.1 hi with h | h
       ·exact hinv.2 i h
       ·rw [h]; exact hgood
      ·omega
      ·exact ⟨(by first | rfl | (congr 1; omega) | simp), trivial⟩
      ·exact (Some'.weak (.nil _))
   ·have p13 := h13; try simp only [bs] at p13
    have hknk : k = mn := by omega
    have hres : mskOk n ms mn = true := by rw [mskOk, hw, Bool.true_and]; exact allI_iff.2 (by rw [← hknk]; exact hinv.2)
    refine Run.exit rfl ?_
    refine Run.sr ?_
    refine Run.p (.bool true) rfl rfl ?_
    refine Run.done ?_
    refine Run.ret ?_
    refine ⟨.bool true, [], Out.one rfl rfl, (Some'.weak (.nil _)), ?_⟩
    show _ = _; first | (rw [hres]; done) | (rw [hres]) | simp_all [mskOk]

end Go.Proofs.Yteehfidjofcfmaa
/- Walks: parts of the Gray network, of the program. -/
set_option linter.unusedSimpArgs false
set_option linter.unusedVariables false
namespace Go.Proofs.Yteehfidjofcfmaa
open Go Go.RowKit
namespace GraT
theorem Tcall_111 : callable Try.prog 111 = true := by kernel_rfl
theorem Tcall_120 : callable Try.prog 120 = true := by kernel_rfl
theorem Tcall_132 : callable Try.prog 132 = true := by kernel_rfl
theorem Tcall_74 : callable Try.prog 74 = true := by kernel_rfl
theorem Tfo_129_0 : fieldOff Try.prog 129 0 = some 0 := by kernel_rfl
theorem Tfo_129_1 : fieldOff Try.prog 129 1 = some 1 := by kernel_rfl
theorem Tone_22 : oneOf Try.prog 22 = true := by kernel_rfl
theorem Tone_3 : oneOf Try.prog 3 = true := by kernel_rfl
theorem Tsl_22 : sliceOf Try.prog 22 = some (3, 1, 8, [.int .i64 0]) := by kernel_rfl
end GraT
open GraT
/-- A list of qubits as a set. -/
def fm : List Nat → Nat
  | [] => 0
  | j :: l => fm l ||| 2 ^ j
theorem fm_bit (l : List Nat) (i : Nat) : (fm l).testBit i = decide (i ∈ l) := by
  induction l with
  | nil => simp [fm]
  | cons j l ih =>
    rw [fm, Nat.testBit_or, ih, Nat.testBit_two_pow]
    by_cases e : i = j
    · subst e; simp
    · rw [show decide (j = i) = false from decide_eq_false fun h => e h.symm, Bool.or_false]
      simp [e]
theorem fm_lt {l : List Nat} {n : Nat} (h : ∀ j ∈ l, j < n) : fm l < 2 ^ n := by
  induction l with
  | nil => exact Nat.two_pow_pos n
  | cons j l ih => exact Nat.or_lt_two_pow (ih fun i hi => h i (by simp [hi])) (Nat.pow_lt_pow_right (by omega) (h j (by simp)))
theorem fm_range (n : Nat) : fm (List.range n) = 2 ^ n - 1 := by
  refine Nat.eq_of_testBit_eq fun i => ?_
  rw [fm_bit, Nat.testBit_two_pow_sub_one]
  simp
theorem fm_erase {l : List Nat} (hn : l.Nodup) (b : Nat) : fm (l.erase b) = fm l ^^^ (fm l &&& 2 ^ b) := by
  refine Nat.eq_of_testBit_eq fun i => ?_
  rw [Nat.testBit_xor, Nat.testBit_and, fm_bit, fm_bit, Nat.testBit_two_pow]
  have := hn.mem_erase_iff (a := i) (b := b)
  by_cases e : b = i
  · subst e; simp [this]
  · have e2 : i ≠ b := fun h => e h.symm
    simp [this, e, e2]
theorem bitI_natG (m b : Nat) : bitI (m : Int) b = m.testBit b := by
  have h := bitI_nl [m] 0 b
  simpa [nl, ix, nx, List.getD] using h
theorem bits_andNot_nat {a b : Nat} (ha : a < 9223372036854775808) (hb : b < 9223372036854775808) : bits .andNot .i64 (a : Int) (b : Int) = ((a ^^^ (a &&& b) : Nat) : Int) := by
  have h1 : a ^^^ (a &&& b) < 9223372036854775808 := Nat.xor_lt_two_pow (n := 63) ha (Nat.and_lt_two_pow (n := 63) _ hb)
  have h2 : (BitVec.ofInt 64 (a : Int) &&& ~~~ BitVec.ofInt 64 (b : Int)).toNat = a ^^^ (a &&& b) := by
    refine Nat.eq_of_testBit_eq fun i => ?_
    rw [Nat.testBit_xor, Nat.testBit_and]
    by_cases hi : i < 64
    · have e1 : (BitVec.ofInt 64 (a : Int)).getLsbD i = a.testBit i := by
        rw [BitVec.getLsbD, BitVec.toNat_ofInt]; congr 1; omega
      have e2 : (BitVec.ofInt 64 (b : Int)).getLsbD i = b.testBit i := by
        rw [BitVec.getLsbD, BitVec.toNat_ofInt]; congr 1; omega
      show (BitVec.ofInt 64 (a : Int) &&& ~~~ BitVec.ofInt 64 (b : Int)).getLsbD i = _
      rw [BitVec.getLsbD_and, BitVec.getLsbD_not, e1, e2]
      simp only [hi, decide_true, Bool.true_and]
      cases a.testBit i <;> cases b.testBit i <;> rfl
    · have h3 : a.testBit i = false := Nat.testBit_lt_two_pow (Nat.lt_of_lt_of_le ha (show 2 ^ 63 ≤ 2 ^ i from Nat.pow_le_pow_right (by omega) (by omega)))
      rw [h3]
      exact Nat.testBit_lt_two_pow (Nat.lt_of_lt_of_le (BitVec.isLt _) (Nat.pow_le_pow_right (by omega) (by omega)))
  show IntKind.i64.wrap ((BitVec.ofInt 64 (a : Int) &&& ~~~ BitVec.ofInt 64 (b : Int)).toNat : Int) = _
  rw [h2, IntKind.wrap_i64]; omega
theorem OpY.andNotNat {E : Env} {f : Fr} {H : List Res} {d : Option Tmp} {ty : TypeId} {pos : String} {after : Array Edge} {gd : Option (Nat × Bool)} {t t' : TypeId} {x y : Operand} {m n q : Nat} (hx : f.eval x = .int .i64 (m : Nat)) (hy : f.eval y = .int .i64 (n : Nat)) (hm : m < 9223372036854775808) (hn : n < 9223372036854775808) (hq : m ^^^ (m &&& n) = q) :
    OpY E ⟨d, .binOp .andNot t x y t', ty, pos, after, gd⟩ f H (.int .i64 (q : Int)) := by
  have := OpY.andNot (E := E) (H := H) (d := d) (ty := ty) (pos := pos) (after := after) (gd := gd) (t := t) (t' := t') hx hy
  rw [bits_andNot_nat hm hn, hq] at this
  exact this
theorem st1_take {vs : List Nat} {k : Nat} (h : k < vs.length) (j : Nat) : st1 (vs.take (k + 1)) j = st1 (vs.take k) j ++ if (nx vs k).testBit j then [nx vs k] else [] := by
  have e : nx vs k = vs[k] := by simp [nx, List.getD, h]
  rw [← List.take_append_getElem h, st1, List.filter_append, e]
  simp only [st1, List.filter_cons, List.filter_nil]
theorem st0_take {vs : List Nat} {k : Nat} (h : k < vs.length) (j : Nat) : st0 (vs.take (k + 1)) j = st0 (vs.take k) j ++ if (nx vs k).testBit j then [] else [nx vs k] := by
  have e : nx vs k = vs[k] := by simp [nx, List.getD, h]
  rw [← List.take_append_getElem h, st0, List.filter_append, e]
  simp only [st0, List.filter_cons, List.filter_nil]
  cases vs[k].testBit j <;> rfl
theorem st1_le (vs : List Nat) (j : Nat) : (st1 vs j).length ≤ vs.length := List.length_filter_le _ _
theorem st0_le (vs : List Nat) (j : Nat) : (st0 vs j).length ≤ vs.length := List.length_filter_le _ _
theorem nl_snoc (l : List Nat) (x : Nat) : nl (l ++ [x]) = nl l ++ [(x : Int)] := by simp [nl]
/-- The free qubits below k. -/
def frK (fr : List Nat) (k : Nat) : List Nat := (List.range k).filter fun j => decide (j ∈ fr)
theorem frK_succ (fr : List Nat) (k : Nat) : frK fr (k + 1) = frK fr k ++ if k ∈ fr then [k] else [] := by
  unfold frK
  rw [List.range_succ, List.filter_append]
  simp only [List.filter_cons, List.filter_nil, decide_eq_true_eq]
theorem asc_eq : ∀ {a b : List Nat}, a.Pairwise (· < ·) → b.Pairwise (· < ·) → (∀ x, x ∈ a ↔ x ∈ b) → a = b
  | [], [], _, _, _ => rfl
  | [], y :: b, _, _, h => absurd ((h y).2 (by simp)) (by simp)
  | x :: a, [], _, _, h => absurd ((h x).1 (by simp)) (by simp)
  | x :: a, y :: b, ha, hb, h => by
    obtain ⟨ha1, ha2⟩ := List.pairwise_cons.1 ha
    obtain ⟨hb1, hb2⟩ := List.pairwise_cons.1 hb
    have hxy : x = y := by
      rcases List.mem_cons.1 ((h x).1 (by simp)) with h1 | h1
      · exact h1
      · rcases List.mem_cons.1 ((h y).2 (by simp)) with h2 | h2
        · exact h2.symm
        · have := ha1 y h2
          have := hb1 x h1
          omega
    subst hxy
    congr 1
    refine asc_eq ha2 hb2 fun z => ?_
    have hz := h z
    simp only [List.mem_cons] at hz
    constructor
    · intro hm
      rcases hz.1 (.inr hm) with h1 | h1
      · have := ha1 z hm; omega
      · exact h1
    · intro hm
      rcases hz.2 (.inr hm) with h1 | h1
      · have := hb1 z hm; omega
      · exact h1
theorem all_nl (vs : List Nat) (j : Nat) : (!anyI (fun i => !bitI (ix (nl vs) i) j) vs.length) = vs.all fun v => v.testBit j := by
  rw [Bool.eq_iff_iff, List.all_eq_true]
  constructor
  · intro h v hv
    obtain ⟨i, hi, rfl⟩ := List.getElem_of_mem hv
    cases hb : vs[i].testBit j with
    | true => rfl
    | false =>
      have h2 : anyI (fun i => !bitI (ix (nl vs) i) j) vs.length = true := by
        refine anyI_true hi ?_
        rw [bitI_nl, show nx vs i = vs[i] by simp [nx, List.getD, hi], hb]; rfl
      rw [h2] at h; cases h
  · intro h
    rw [anyI_false fun i hi => ?_]; rfl
    rw [bitI_nl, show nx vs i = vs[i] by simp [nx, List.getD, hi], h _ (List.getElem_mem hi)]; rfl
theorem frK_all {fr : List Nat} {k : Nat} (hs : fr.Pairwise (· < ·)) (hl : ∀ j ∈ fr, j < k) : frK fr k = fr := by
  refine asc_eq (List.pairwise_lt_range.sublist List.filter_sublist) hs fun x => ?_
  simp only [frK, List.mem_filter, List.mem_range, decide_eq_true_eq]
  exact ⟨fun h => h.2, fun h => ⟨hl x h, h⟩⟩

set_option maxHeartbeats 1000000 in
set_option maxRecDepth 20000 in
theorem inAllClo_spec {x : Int} {j p : Nat} {w : World} (hj : j ≤ 62) (hc : Sl w (.slice (some ⟨p, 0, none⟩) 1 1) 1 1 [.int .i64 ↑j]) : Calls Try.prog 132 #[.int .i64 x, .pointer (some ⟨p, 0, none⟩)] w (Post No w fun v _ => v = .bool (!bitI x j)) := by
 refine enter (n := 9) (args := [.int .i64 x, .pointer (some ⟨p, 0, none⟩)]) Try.func132 rfl rfl (St.empty _ _) ?_
 refine Run.sr ?_
 refine Run.p (.bool false) rfl rfl ?_
 refine Run.dsr ?_
 refine Run.p (.int .i64 x) rfl rfl ?_
 refine Run.y (.int .i64 (((j : Nat) : Int))) rfl (OpY.load1 Tone_3 rfl (Cells.env (k := 0) hc rfl (by decide) ⟨rfl, trivial⟩)) ?_
 refine Run.y (.int .i64 (x >>> j)) rfl (OpY.shr rfl rfl (by first | rfl | omega) (by omega)) ?_
 refine Run.y (.int .i64 ((x >>> j) % 2)) rfl (OpY.and1 rfl rfl) ?_
 refine Run.p (.bool (((x >>> j) % 2) == 0)) rfl rfl ?_
 refine Run.p (.bool (((x >>> j) % 2) == 0)) rfl rfl ?_
 refine Run.done ?_
 refine Run.ret ?_
 refine ⟨.bool (((x >>> j) % 2) == 0), [], Out.one rfl rfl, (Some'.weak (.nil _)), ?_⟩
 show _ = _
 unfold bitI
 have h2 := Int.emod_two_eq (x >>> j)
 rcases h2 with h2 | h2 <;> simp [h2]

set_option maxHeartbeats 1000000 in
set_option maxRecDepth 20000 in
theorem IndexFuncInAll_spec {j p : Nat} {va : Value} {n : Nat} {xs : List Int} {w : World} (ha : Sl w va 1 n (ints xs)) (hj : j ≤ 62) (hc : Sl w (.slice (some ⟨p, 0, none⟩) 1 1) 1 1 [.int .i64 ↑j]) : Calls Try.prog 111 #[va, .func (.func 132) #[] #[.pointer (some ⟨p, 0, none⟩)]] w (Post No w fun v _ => v = .int .i64 (findI (fun i => !bitI (ix xs i) j) n)) := by
 have hxl := ha.len
 have hn := ha.le
 obtain ⟨A, c, rfl, _, _⟩ := ha.form0
 refine enter (n := 19) (args := [.slice A n c, .func (.func 132) #[] #[.pointer (some ⟨p, 0, none⟩)]]) Try.func111 rfl rfl (St.empty _ _) ?_
 refine Run.sr ?_
 refine Run.p (.int .i64 0) rfl rfl ?_
 refine Run.done ?_
 refine Run.seq ?_
 refine Run.sr ?_
 refine Run.p (.slice A n c) rfl rfl ?_
 refine Run.y (.int .i64 (((n : Nat) : Int))) rfl (OpY.len Tsl_22 rfl) ?_
 refine Run.p (.int .i64 0) rfl rfl ?_
 refine Run.done ?_
 refine Run.block ?_
 refine Run.loop (ι := Nat) [4, 5, 8, 9, 10, 11, 12, 13, 14, 15, 16, 17, 18] (fun k => [(8, .int .i64 (((k : Nat) : Int)))]) (fun k => []) (fun k => k ≤ n ∧ (∀ i, i < k → (!bitI (ix xs i) j) = false)) (fun k => n - k) 0 ?_ ?_ ?_ ?_
 ·exact ⟨Nat.zero_le _, by first | trivial | (intro i hi; omega)⟩
 ·exact ⟨rfl, trivial⟩
 ·exact (Some'.weak (.nil _))
 ·rintro k fr hinv
  show Run _ _ (over _ _ [(8, .int .i64 (((k : Nat) : Int)))] fr) []
  try dsimp only at hinv
  refine Run.sr ?_
  refine Run.p (.bool (decide ((((k : Nat) : Int)) < (((n : Nat) : Int))))) rfl rfl ?_
  refine Run.done ?_
  refine Run.seq ?_
  refine Run.cond (b := decide ((((k : Nat) : Int)) < (((n : Nat) : Int)))) rfl (fun h9 => ?_) (fun h9 => ?_)
  ·have p9 := h9; try simp only [bs] at p9
   have hltk : k < n := by omega
   obtain ⟨b, o, rfl⟩ := ha.opn (by omega)
   refine Run.skip ?_
   refine Run.seq ?_
   refine Run.block ?_
   refine Run.sr ?_
   refine Run.p (.int .i64 (((k : Nat) : Int))) rfl rfl ?_
   refine Run.p (.int .i64 (((k : Nat) : Int))) rfl rfl ?_
   refine Run.dsr ?_
   refine Run.p (.func (.func 132) #[] #[.pointer (some ⟨p, 0, none⟩)]) rfl rfl ?_
   refine Run.p (.slice (some ⟨b, o, none⟩) n c) rfl rfl ?_
   refine Run.p (.int .i64 (((k : Nat) : Int))) rfl rfl ?_
   refine Run.y (.pointer (some ⟨b, o + k, none⟩)) rfl (OpY.index (kk := k) Tsl_22 rfl rfl (by omega) (by omega) (by first | rfl | omega)) ?_
   refine Run.y (.int .i64 (ix xs (k))) rfl (OpY.load1 Tone_3 rfl (Cells.arg (k := k) ha rfl (by omega) (pre1 (by omega)))) ?_
   refine Run.q (v := .bool (!bitI (ix xs (k)) j)) rfl (OpQ.call (vs := [.int .i64 (ix xs (k)), .pointer (some ⟨p, 0, none⟩)]) (caps := [.pointer (some ⟨p, 0, none⟩)]) Tcall_132 rfl rfl (fun w hs => inAllClo_spec hj (hs.sl hc))) ?_
   refine Run.done ?_
   refine Run.cond (b := !bitI (ix xs (k)) j) rfl (fun h16 => ?_) (fun h16 => ?_)
   ·have p16 := h16; try simp only [bs] at p16
    refine Run.seq ?_
    have hres : findI (fun i => !bitI (ix xs i) j) n = k := findI_hit hinv.2 h16 hltk
    refine Run.region ?_
    refine Run.p (.int .i64 (((k : Nat) : Int))) rfl rfl ?_
    refine Run.p (.int .i64 (((k : Nat) : Int))) rfl rfl ?_
    refine Run.done ?_
    refine Run.ret ?_
    refine ⟨.int .i64 (((k : Nat) : Int)), [], Out.one rfl rfl, (Some'.weak (.nil _)), ?_⟩
    show _ = _; rw [hres]
   ·have p16 := h16; try simp only [bs] at p16
    refine Run.skip ?_
    refine Run.blockEnd ?_
    have hgood : (!bitI (ix xs k) j) = false := h16
    refine Run.region ?_
    refine Run.y (.int .i64 ((((k : Nat) : Int)) + 1)) rfl (OpY.add rfl rfl rfl (by omega) (by omega)) ?_
    refine Run.p (.int .i64 ((((k : Nat) : Int)) + 1)) rfl rfl ?_
    refine Run.done ?_
    refine Run.goal ⟨(by repeat (first | exact Same.refl _ _ | refine Same.put rfl ?_ | refine Same.over rfl rfl ?_)), k + 1, ?_, ?_, ?_, ?_⟩
    ·refine ⟨by omega, ?_⟩
     intro i hi
     rcases Nat.lt_succ_iff_lt_or_eq.1 hi with h | h
     ·exact hinv.2 i h
     ·rw [h]; exact hgood
    ·omega
    ·exact ⟨(by first | rfl | (congr 1; omega) | simp), trivial⟩
    ·exact (Some'.weak (.nil _))
  ·have p9 := h9; try simp only [bs] at p9
   have hknk : k = n := by omega
   have hres : findI (fun i => !bitI (ix xs i) j) n = -1 := by rw [← hknk]; exact findI_none hinv.2
   refine Run.exit rfl ?_
   refine Run.sr ?_
   refine Run.p (.int .i64 (-1)) rfl rfl ?_
   refine Run.done ?_
   refine Run.ret ?_
   refine ⟨.int .i64 (-1), [], Out.one rfl rfl, (Some'.weak (.nil _)), ?_⟩
   show _ = _; rw [hres]

set_option maxHeartbeats 1000000 in
set_option maxRecDepth 20000 in
theorem ContainsFuncInAll_spec {j p : Nat} {va : Value} {n : Nat} {xs : List Int} {w : World} (ha : Sl w va 1 n (ints xs)) (hj : j ≤ 62) (hc : Sl w (.slice (some ⟨p, 0, none⟩) 1 1) 1 1 [.int .i64 ↑j]) : Calls Try.prog 74 #[va, .func (.func 132) #[] #[.pointer (some ⟨p, 0, none⟩)]] w (Post No w fun v _ => v = .bool (anyI (fun i => !bitI (ix xs i) j) n)) := by
 refine enter (n := 9) (args := [va, .func (.func 132) #[] #[.pointer (some ⟨p, 0, none⟩)]]) Try.func74 rfl rfl (St.empty _ _) ?_
 refine Run.sr ?_
 refine Run.p (.bool false) rfl rfl ?_
 refine Run.dsr ?_
 refine Run.p (va) rfl rfl ?_
 refine Run.p (.func (.func 132) #[] #[.pointer (some ⟨p, 0, none⟩)]) rfl rfl ?_
 refine Run.q (v := .int .i64 (findI (fun i => !bitI (ix xs i) j) n)) rfl (OpQ.call (vs := [va, .func (.func 132) #[] #[.pointer (some ⟨p, 0, none⟩)]]) (caps := []) Tcall_111 rfl rfl (fun w hs => IndexFuncInAll_spec (hs.sl ha) hj (hs.sl hc))) ?_
 refine Run.p (.bool (decide ((findI (fun i => !bitI (ix xs i) j) n) ≥ 0))) rfl rfl ?_
 refine Run.p (.bool (decide ((findI (fun i => !bitI (ix xs i) j) n) ≥ 0))) rfl rfl ?_
 refine Run.done ?_
 refine Run.ret ?_
 refine ⟨.bool (decide ((findI (fun i => !bitI (ix xs i) j) n) ≥ 0)), [], Out.one rfl rfl, (Some'.weak (.nil _)), ?_⟩
 show _ = _; rw [findI_ge]

set_option maxHeartbeats 1000000 in
set_option maxRecDepth 20000 in
theorem inAll_spec {va : Value} {vs : List Nat} {j : Nat} {w : World} (hj : j ≤ 62) (ha : Sl w va 1 vs.length (ints (nl vs))) : Calls Try.prog 117 #[va, .int .i64 ((j : Nat) : Int)] w (Post No w fun v _ => v = .bool (vs.all fun v => v.testBit j)) := by
 refine enter (n := 9) (args := [va, .int .i64 (((j : Nat) : Int))]) Try.func117 rfl rfl (St.empty _ _) ?_
 refine Run.sr ?_
 refine Run.step rfl (OpStep.box (us := [.int .i64 (((j : Nat) : Int))]) rfl fun b1 => ?_)
 refine Run.p (.bool false) rfl rfl ?_
 refine Run.dsr ?_
 refine Run.p (va) rfl rfl ?_
 refine Run.y (.func (.func 132) #[] #[.pointer (some ⟨b1, 0, none⟩)]) rfl (OpY.makeFunc (caps := [.pointer (some ⟨b1, 0, none⟩)]) rfl) ?_
 refine Run.q (v := .bool (anyI (fun i => !bitI (ix (nl vs) i) j) vs.length)) rfl (OpQ.call (vs := [va, .func (.func 132) #[] #[.pointer (some ⟨b1, 0, none⟩)]]) (caps := []) Tcall_74 rfl rfl (fun w hs => ContainsFuncInAll_spec (hs.sl ha) hj (hs.slBlk (.head _)))) ?_
 refine Run.p (.bool (!(anyI (fun i => !bitI (ix (nl vs) i) j) vs.length))) rfl rfl ?_
 refine Run.p (.bool (!(anyI (fun i => !bitI (ix (nl vs) i) j) vs.length))) rfl rfl ?_
 refine Run.done ?_
 refine Run.ret ?_
 refine ⟨.bool (!(anyI (fun i => !bitI (ix (nl vs) i) j) vs.length)), [], Out.one rfl rfl, (Some'.weak (.nil _)), ?_⟩
 show _ = _; rw [all_nl]

set_option maxHeartbeats 1000000 in
set_option maxRecDepth 20000 in
theorem split_spec {va : Value} {vs : List Nat} {j : Nat} {w : World} (hj : j ≤ 62) (hlen : vs.length ≤ 1000) (ha : Sl w va 1 vs.length (ints (nl vs))) : Calls Try.prog 120 #[va, .int .i64 ((j : Nat) : Int)] w (Post No w fun v H => ∃ v1 v0, v = .tuple #[v1, v0] ∧ H = [.own v1 3 1 (st1 vs j).length (ints (nl (st1 vs j))), .own v0 3 1 (st0 vs j).length (ints (nl (st0 vs j)))]) := by
 have hll := nl_length vs
 obtain ⟨A, c, rfl, _, _⟩ := ha.form0
 refine enter (n := 34) (args := [.slice A (vs.length) c, .int .i64 (((j : Nat) : Int))]) Try.func120 rfl rfl (St.empty _ _) ?_
 refine Run.sr ?_
 refine Run.p (.slice none 0 0) rfl rfl ?_
 refine Run.p (.slice none 0 0) rfl rfl ?_
 refine Run.dsr ?_
 refine Run.step rfl (OpStep.buildSlice (us := []) Tsl_22 (by decide) (by decide) rfl rfl fun b1 => ?_)
 refine Run.step rfl (OpStep.buildSlice (us := []) Tsl_22 (by decide) (by decide) rfl rfl fun b2 => ?_)
 refine Run.p (.slice (some ⟨b1, 0, none⟩) 0 0) rfl rfl ?_
 refine Run.p (.slice (some ⟨b2, 0, none⟩) 0 0) rfl rfl ?_
 refine Run.done ?_
 show Run _ _ _ [.own (.slice (some ⟨b2, 0, none⟩) 0 0) 3 1 ((st0 (vs.take 0) j).length) (ints (nl (st0 (vs.take 0) j))), .own (.slice (some ⟨b1, 0, none⟩) 0 0) 3 1 ((st1 (vs.take 0) j).length) (ints (nl (st1 (vs.take 0) j)))]
 refine Run.seq ?_
 refine Run.sr ?_
 refine Run.p (.slice A (vs.length) c) rfl rfl ?_
 refine Run.y (.int .i64 (((vs.length : Nat) : Int))) rfl (OpY.len Tsl_22 rfl) ?_
 refine Run.p (.int .i64 0) rfl rfl ?_
 refine Run.done ?_
 refine Run.block ?_
 refine Run.loop (ι := Nat × Value × Value) [6, 7, 9, 14, 15, 16, 17, 18, 19, 20, 21, 22, 23, 24, 25, 26, 27, 28, 29, 30, 31] (fun ⟨k, v1, v0⟩ => [(6, v1), (7, v0), (14, .int .i64 (((k : Nat) : Int)))]) (fun ⟨k, v1, v0⟩ => [.own v0 3 1 ((st0 (vs.take k) j).length) (ints (nl (st0 (vs.take k) j))), .own v1 3 1 ((st1 (vs.take k) j).length) (ints (nl (st1 (vs.take k) j)))]) (fun ⟨k, v1, v0⟩ => k ≤ vs.length ∧ (True)) (fun ⟨k, v1, v0⟩ => vs.length - k) (0, .slice (some ⟨b1, 0, none⟩) 0 0, .slice (some ⟨b2, 0, none⟩) 0 0) ?_ ?_ ?_ ?_
 ·exact ⟨Nat.zero_le _, by first | trivial | (intro i hi; omega)⟩
 ·exact ⟨rfl, rfl, rfl, trivial⟩
 ·exact ((Weak.refl _).trans (Some'.weak (.takeEq (by first | rfl | (rw [hold]) | simp) (.takeEq (by first | rfl | (rw [hold]) | simp) (.nil _)))))
 ·rintro ⟨k, v1, v0⟩ fr hinv
  show Run _ _ (over _ _ [(6, v1), (7, v0), (14, .int .i64 (((k : Nat) : Int)))] fr) [.own v0 3 1 ((st0 (vs.take k) j).length) (ints (nl (st0 (vs.take k) j))), .own v1 3 1 ((st1 (vs.take k) j).length) (ints (nl (st1 (vs.take k) j)))]
  try dsimp only at hinv
  refine Run.sr ?_
  refine Run.p (.bool (decide ((((k : Nat) : Int)) < (((vs.length : Nat) : Int))))) rfl rfl ?_
  refine Run.done ?_
  refine Run.seq ?_
  refine Run.cond (b := decide ((((k : Nat) : Int)) < (((vs.length : Nat) : Int)))) rfl (fun h15 => ?_) (fun h15 => ?_)
  ·have p15 := h15; try simp only [bs] at p15
   have hltk : k < vs.length := by omega
   obtain ⟨b, o, rfl⟩ := ha.opn (by omega)
   have h1k := st1_le (vs.take k) j
   have h0k := st0_le (vs.take k) j
   have htk : (vs.take k).length ≤ vs.length := by rw [List.length_take]; omega
   refine Run.skip ?_
   refine Run.seq ?_
   refine Run.block ?_
   refine Run.sr ?_
   refine Run.y (.pointer (some ⟨b, o + k, none⟩)) rfl (OpY.index (kk := k) Tsl_22 rfl rfl (by omega) (by omega) (by first | rfl | omega)) ?_
   refine Run.y (.int .i64 (ix (nl vs) (k))) rfl (OpY.load1 Tone_3 rfl (Cells.arg (k := k) ha rfl (by omega) (pre1 (by omega)))) ?_
   refine Run.p (.int .i64 (ix (nl vs) (k))) rfl rfl ?_
   refine Run.dsr ?_
   refine Run.p (.int .i64 (ix (nl vs) (k))) rfl rfl ?_
   refine Run.p (.int .i64 (((j : Nat) : Int))) rfl rfl ?_
   refine Run.y (.int .i64 ((ix (nl vs) (k)) >>> j)) rfl (OpY.shr rfl rfl (by first | rfl | omega) (by omega)) ?_
   refine Run.y (.int .i64 (((ix (nl vs) (k)) >>> j) % 2)) rfl (OpY.and1 rfl rfl) ?_
   refine Run.p (.bool ((((ix (nl vs) (k)) >>> j) % 2) == 1)) rfl rfl ?_
   refine Run.done ?_
   refine Run.cond (b := (((ix (nl vs) (k)) >>> j) % 2) == 1) rfl (fun h22 => ?_) (fun h22 => ?_)
   ·have p22 := h22; try simp only [bs] at p22
    have hbit : (nx vs k).testBit j = true := by rw [← bitI_nl]; exact bitI_true p22
    have hnew : st1 (vs.take (k + 1)) j = st1 (vs.take k) j ++ [nx vs k] := by rw [st1_take (by omega), if_pos hbit]
    have hold : st0 (vs.take (k + 1)) j = st0 (vs.take k) j := by rw [st0_take (by omega), if_pos hbit, List.append_nil]
    refine Run.region ?_
    refine Run.p (v1) rfl rfl ?_
    refine Run.p (.int .i64 (ix (nl vs) (k))) rfl rfl ?_
    refine Run.step rfl (OpStep.buildSlice (us := [.int .i64 (ix (nl vs) (k))]) Tsl_22 (by decide) (by decide) ⟨rfl, [.int .i64 (ix (nl vs) (k))], _, rfl, rfl, rfl, rfl⟩ rfl fun b3 => ?_)
    refine Run.step rfl (OpStep.append (H1 := [.own (.slice (some ⟨b3, 0, none⟩) 1 1) 3 1 1 ([.int .i64 (ix (nl vs) (k))]), .own v0 3 1 ((st0 (vs.take k) j).length) (ints (nl (st0 (vs.take k) j)))]) (H2 := []) (v := v1) (u := .slice (some ⟨b3, 0, none⟩) 1 1) (n := (st1 (vs.take k) j).length) (m := 1) (xs := ints (nl (st1 (vs.take k) j))) (ys := [.int .i64 (ix (nl vs) (k))]) Tsl_22 (by decide) rfl rfl rfl rfl (fun w hs => hs.slOwn (.head _)) (by simp [Value.oneCell']) (by omega) (by simp only [maxLen]; omega) fun av1 hnav1 => ?_)
    refine Run.weak (H' := [.own (.slice (some ⟨b3, 0, none⟩) 1 1) 3 1 1 ([.int .i64 (ix (nl vs) (k))]), .own v0 3 1 ((st0 (vs.take k) j).length) (ints (nl (st0 (vs.take k) j))), .own av1 3 1 ((st1 (vs.take (k + 1)) j).length) (ints (nl (st1 (vs.take (k + 1)) j)))]) (Some'.weak (.take (.take (.takeEq (by rw [hnew, nl_snoc, ints_append, List.length_append, ix_nl]; rfl) (.nil _))))) ?_ ⟨_, _, rfl, fun _ => nofun, fun _ => nofun⟩
    refine Run.p (av1) rfl rfl ?_
    refine Run.done ?_
    refine Run.blockEnd ?_
    refine Run.region ?_
    refine Run.y (.int .i64 ((((k : Nat) : Int)) + 1)) rfl (OpY.add rfl rfl rfl (by omega) (by omega)) ?_
    refine Run.p (.int .i64 ((((k : Nat) : Int)) + 1)) rfl rfl ?_
    refine Run.done ?_
    refine Run.goal ⟨(by repeat (first | exact Same.refl _ _ | refine Same.put rfl ?_ | refine Same.over rfl rfl ?_)), (k + 1, av1, v0), ?_, ?_, ?_, ?_⟩
    ·refine ⟨by omega, ?_⟩
     trivial
    ·show vs.length - (k + 1) < vs.length - k; omega
    ·exact ⟨(by first | rfl | (congr 1; omega) | simp), (by first | rfl | (congr 1; omega) | simp), (by first | rfl | (congr 1; omega) | simp), trivial⟩
    ·exact ((Weak.selF [1, 1]).trans (Some'.weak (.takeEq (by first | rfl | (rw [hold]) | simp) (.takeEq (by first | rfl | (rw [hold]) | simp) (.nil _)))))
   ·have p22 := h22; try simp only [bs] at p22
    have hbit : (nx vs k).testBit j = false := by rw [← bitI_nl]; exact bitI_ne1 p22
    have hnew : st0 (vs.take (k + 1)) j = st0 (vs.take k) j ++ [nx vs k] := by rw [st0_take (by omega), if_neg (by rw [hbit]; decide)]
    have hold : st1 (vs.take (k + 1)) j = st1 (vs.take k) j := by rw [st1_take (by omega), if_neg (by rw [hbit]; decide), List.append_nil]
    refine Run.region ?_
    refine Run.p (v0) rfl rfl ?_
    refine Run.p (.int .i64 (ix (nl vs) (k))) rfl rfl ?_
    refine Run.step rfl (OpStep.buildSlice (us := [.int .i64 (ix (nl vs) (k))]) Tsl_22 (by decide) (by decide) ⟨rfl, [.int .i64 (ix (nl vs) (k))], _, rfl, rfl, rfl, rfl⟩ rfl fun b4 => ?_)
    refine Run.step rfl (OpStep.append (H1 := [.own (.slice (some ⟨b4, 0, none⟩) 1 1) 3 1 1 ([.int .i64 (ix (nl vs) (k))])]) (H2 := [.own v1 3 1 ((st1 (vs.take k) j).length) (ints (nl (st1 (vs.take k) j)))]) (v := v0) (u := .slice (some ⟨b4, 0, none⟩) 1 1) (n := (st0 (vs.take k) j).length) (m := 1) (xs := ints (nl (st0 (vs.take k) j))) (ys := [.int .i64 (ix (nl vs) (k))]) Tsl_22 (by decide) rfl rfl rfl rfl (fun w hs => hs.slOwn (.head _)) (by simp [Value.oneCell']) (by omega) (by simp only [maxLen]; omega) fun av2 hnav2 => ?_)
    refine Run.weak (H' := [.own (.slice (some ⟨b4, 0, none⟩) 1 1) 3 1 1 ([.int .i64 (ix (nl vs) (k))]), .own av2 3 1 ((st0 (vs.take (k + 1)) j).length) (ints (nl (st0 (vs.take (k + 1)) j))), .own v1 3 1 ((st1 (vs.take k) j).length) (ints (nl (st1 (vs.take k) j)))]) (Some'.weak (.take (.takeEq (by rw [hnew, nl_snoc, ints_append, List.length_append, ix_nl]; rfl) (.take (.nil _))))) ?_ ⟨_, _, rfl, fun _ => nofun, fun _ => nofun⟩
    refine Run.p (av2) rfl rfl ?_
    refine Run.done ?_
    refine Run.blockEnd ?_
    refine Run.region ?_
    refine Run.y (.int .i64 ((((k : Nat) : Int)) + 1)) rfl (OpY.add rfl rfl rfl (by omega) (by omega)) ?_
    refine Run.p (.int .i64 ((((k : Nat) : Int)) + 1)) rfl rfl ?_
    refine Run.done ?_
    refine Run.goal ⟨(by repeat (first | exact Same.refl _ _ | refine Same.put rfl ?_ | refine Same.over rfl rfl ?_)), (k + 1, v1, av2), ?_, ?_, ?_, ?_⟩
    ·refine ⟨by omega, ?_⟩
     trivial
    ·show vs.length - (k + 1) < vs.length - k; omega
    ·exact ⟨(by first | rfl | (congr 1; omega) | simp), (by first | rfl | (congr 1; omega) | simp), (by first | rfl | (congr 1; omega) | simp), trivial⟩
    ·exact ((Weak.selF [1, 1]).trans (Some'.weak (.takeEq (by first | rfl | (rw [hold]) | simp) (.takeEq (by first | rfl | (rw [hold]) | simp) (.nil _)))))
  ·have p15 := h15; try simp only [bs] at p15
   have hknk : k = vs.length := by omega
   have hfin : vs.take k = vs := by rw [List.take_of_length_le (by omega)]
   refine Run.exit rfl ?_
   refine Run.sr ?_
   refine Run.p (v1) rfl rfl ?_
   refine Run.p (v0) rfl rfl ?_
   refine Run.p (v1) rfl rfl ?_
   refine Run.p (v0) rfl rfl ?_
   refine Run.done ?_
   refine Run.ret ?_
   refine ⟨.tuple #[v1, v0], [.own v1 3 1 ((st1 (vs.take k) j).length) (ints (nl (st1 (vs.take k) j))), .own v0 3 1 ((st0 (vs.take k) j).length) (ints (nl (st0 (vs.take k) j)))], Out.two rfl rfl rfl, ((Weak.selF [1, 0]).trans (Some'.weak (.take (.take (.nil _))))), ?_⟩
   exact ⟨_, _, rfl, by rw [hfin]⟩

set_option maxHeartbeats 1000000 in
set_option maxRecDepth 20000 in
theorem branchOn_spec {va : Value} {vs fq : List Nat} {t : Int} {w : World} (hlen : vs.length ≤ 1000) (hs5 : fq.Pairwise (· < ·)) (h5 : ∀ j ∈ fq, j < 5) (ha : Sl w va 1 vs.length (ints (nl vs))) : Calls Try.prog 119 #[.agg #[va, .int .i64 ((fm fq : Nat) : Int), .int .i64 t]] w (Post No w fun v _ => v = .int .i64 (brn vs fq)) := by
 obtain ⟨A, c, rfl, _, _⟩ := ha.form0
 refine enter (n := 37) (args := [.agg #[.slice A (vs.length) c, .int .i64 (((fm fq : Nat) : Int)), .int .i64 t]]) Try.func119 rfl rfl (St.empty _ _) ?_
 refine Run.sr ?_
 refine Run.step rfl (OpStep.box (us := [.slice A (vs.length) c, .int .i64 (((fm fq : Nat) : Int)), .int .i64 t]) rfl fun b1 => ?_)
 refine Run.p (.int .i64 0) rfl rfl ?_
 refine Run.dsr ?_
 refine Run.p (.int .i64 (-1)) rfl rfl ?_
 refine Run.p (.int .i64 (-1)) rfl rfl ?_
 refine Run.done ?_
 refine Run.seq ?_
 refine Run.sr ?_
 refine Run.p (.int .i64 0) rfl rfl ?_
 refine Run.done ?_
 refine Run.block ?_
 refine Run.loop (ι := Nat × Int × Int) [3, 4, 5, 6, 7, 8, 9, 10, 11, 12, 13, 14, 15, 16, 17, 18, 19, 20, 21, 22, 23, 24, 25, 26, 27, 28, 29, 30, 31, 32, 33, 34, 35] (fun ⟨k, bst, most⟩ => [(3, .int .i64 bst), (4, .int .i64 most), (9, .int .i64 (((k : Nat) : Int)))]) (fun ⟨k, bst, most⟩ => [.blk b1 129 [.slice A (vs.length) c, .int .i64 (((fm fq : Nat) : Int)), .int .i64 t]]) (fun ⟨k, bst, most⟩ => k ≤ 5 ∧ (frK fq k).foldl (brF vs) (-1, -1) = (bst, most) ∧ (-1 ≤ most ∧ most ≤ 1000)) (fun ⟨k, bst, most⟩ => 5 - k) (0, -1, -1) ?_ ?_ ?_ ?_
 ·exact ⟨Nat.zero_le _, rfl, by omega⟩
 ·exact ⟨rfl, rfl, rfl, trivial⟩
 ·exact (Some'.weak (.take (.nil _)))
 ·rintro ⟨k, bst, most⟩ fr hinv
  show Run _ _ (over _ _ [(3, .int .i64 bst), (4, .int .i64 most), (9, .int .i64 (((k : Nat) : Int)))] fr) [.blk b1 129 [.slice A (vs.length) c, .int .i64 (((fm fq : Nat) : Int)), .int .i64 t]]
  try dsimp only at hinv
  refine Run.sr ?_
  refine Run.p (.bool (decide ((((k : Nat) : Int)) < 5))) rfl rfl ?_
  refine Run.done ?_
  refine Run.seq ?_
  refine Run.cond (b := decide ((((k : Nat) : Int)) < 5)) rfl (fun h10 => ?_) (fun h10 => ?_)
  ·have p10 := h10; try simp only [bs] at p10
   have hszl : szJ vs k ≤ 1000 := by have h1 := st1_le vs k; have h0 := st0_le vs k; simp only [szJ]; omega
   have hk5 : k < 5 := by omega
   obtain ⟨_, hb, hm⟩ := hinv
   refine Run.skip ?_
   refine Run.seq ?_
   refine Run.block ?_
   refine Run.sr ?_
   refine Run.p (.int .i64 (((k : Nat) : Int))) rfl rfl ?_
   refine Run.p (.int .i64 (((k : Nat) : Int))) rfl rfl ?_
   refine Run.done ?_
   refine Run.seq ?_
   refine Run.sr ?_
   refine Run.y (.pointer (some ⟨b1, 1, none⟩)) rfl (OpY.fieldAddr Tfo_129_1 rfl rfl) ?_
   refine Run.y (.int .i64 (((fm fq : Nat) : Int))) rfl (OpY.load1 Tone_3 rfl (Cells.blk (.head _) ⟨rfl, trivial⟩)) ?_
   refine Run.p (.int .i64 (((k : Nat) : Int))) rfl rfl ?_
   refine Run.y (.int .i64 ((((fm fq : Nat) : Int)) >>> k)) rfl (OpY.shr rfl rfl (by first | rfl | omega) (by omega)) ?_
   refine Run.y (.int .i64 (((((fm fq : Nat) : Int)) >>> k) % 2)) rfl (OpY.and1 rfl rfl) ?_
   refine Run.p (.bool ((((((fm fq : Nat) : Int)) >>> k) % 2) == 0)) rfl rfl ?_
   refine Run.done ?_
   refine Run.cond (b := (((((fm fq : Nat) : Int)) >>> k) % 2) == 0) rfl (fun h17 => ?_) (fun h17 => ?_)
   ·have p17 := h17; try simp only [bs] at p17
    have hno : k ∉ fq := by
     intro h
     have h1 := bitI_natG (fm fq) k
     rw [fm_bit, decide_eq_true h] at h1
     exact absurd h1 (by rw [bitI_false p17]; decide)
    have hnx : frK fq (k + 1) = frK fq k := by rw [frK_succ, if_neg hno, List.append_nil]
    refine Run.exit rfl ?_
    refine Run.region ?_
    refine Run.y (.int .i64 ((((k : Nat) : Int)) + 1)) rfl (OpY.add rfl rfl rfl (by omega) (by omega)) ?_
    refine Run.p (.int .i64 ((((k : Nat) : Int)) + 1)) rfl rfl ?_
    refine Run.done ?_
    refine Run.goal ⟨(by repeat (first | exact Same.refl _ _ | refine Same.put rfl ?_ | refine Same.over rfl rfl ?_)), (k + 1, bst, most), ?_, ?_, ?_, ?_⟩
    ·first | exact ⟨hk5, by rw [hnx]; exact hb, hm⟩ | exact ⟨hk5, by rw [hnx, hb]; exact hgo, by omega⟩
    ·show 5 - (k + 1) < 5 - k; omega
    ·exact ⟨(by first | rfl | (congr 1; omega) | simp), (by first | rfl | (congr 1; omega) | simp), (by first | rfl | (congr 1; omega) | simp), trivial⟩
    ·exact (Some'.weak (.take (.nil _)))
   ·have p17 := h17; try simp only [bs] at p17
    have hyes : k ∈ fq := by
     have h1 := bitI_natG (fm fq) k
     rw [fm_bit, bitI_ne p17] at h1
     exact of_decide_eq_true h1.symm
    have hnx : (frK fq (k + 1)).foldl (brF vs) (-1, -1) = brF vs ((frK fq k).foldl (brF vs) (-1, -1)) k := by rw [frK_succ, if_pos hyes, List.foldl_append]; rfl
    refine Run.skip ?_
    refine Run.sr ?_
    refine Run.y (.pointer (some ⟨b1, 0, none⟩)) rfl (OpY.fieldAddr Tfo_129_0 rfl rfl) ?_
    refine Run.y (.slice A (vs.length) c) rfl (OpY.load1 Tone_22 rfl (Cells.blk (.head _) ⟨rfl, trivial⟩)) ?_
    refine Run.p (.int .i64 (((k : Nat) : Int))) rfl rfl ?_
    refine Run.step rfl (OpStep.call (vs := [.slice A (vs.length) c, .int .i64 (((k : Nat) : Int))]) (caps := []) Tcall_120 rfl rfl (fun w hs => split_spec (by omega) hlen (hs.sl ha)) ?_)
    rintro _ _ ⟨u1, u0, rfl, rfl⟩
    show Run _ _ (putF _ _ _ (.tuple #[u1, u0])) [.own u1 3 1 ((st1 vs k).length) (ints (nl (st1 vs k))), .own u0 3 1 ((st0 vs k).length) (ints (nl (st0 vs k))), .blk b1 129 [.slice A (vs.length) c, .int .i64 (((fm fq : Nat) : Int)), .int .i64 t]]
    refine Run.p (.tuple #[u1, u0]) rfl rfl ?_
    refine Run.p (u1) rfl rfl ?_
    refine Run.p (u0) rfl rfl ?_
    refine Run.p (u1) rfl rfl ?_
    refine Run.p (u0) rfl rfl ?_
    refine Run.dsr ?_
    refine Run.p (u1) rfl rfl ?_
    refine Run.formOwn (.head _) (fun A_u11 c_u11 hv hcapc_u11 hmaxc_u11 => ?_) (fun _ _ _ => ⟨nofun, nofun, nofun⟩)
    subst hv
    refine Run.y (.int .i64 ((((st1 vs k).length : Nat) : Int))) rfl (OpY.len Tsl_22 rfl) ?_
    refine Run.p (u0) rfl rfl ?_
    refine Run.formOwn (.tail _ (List.Mem.head _)) (fun A_u01 c_u01 hv hcapc_u01 hmaxc_u01 => ?_) (fun _ _ _ => ⟨nofun, nofun, nofun⟩)
    subst hv
    refine Run.y (.int .i64 ((((st0 vs k).length : Nat) : Int))) rfl (OpY.len Tsl_22 rfl) ?_
    refine Run.y (.int .i64 (max ((((st1 vs k).length : Nat) : Int)) ((((st0 vs k).length : Nat) : Int)))) rfl (OpY.max rfl rfl) ?_
    refine Run.p (.int .i64 (max ((((st1 vs k).length : Nat) : Int)) ((((st0 vs k).length : Nat) : Int)))) rfl rfl ?_
    refine Run.dsr ?_
    rw [show max ((((st1 vs k).length : Nat) : Int)) ((((st0 vs k).length : Nat) : Int)) = ((szJ vs k : Nat) : Int) from by simp only [szJ]; omega]
    refine Run.p (.int .i64 (((szJ vs k : Nat) : Int))) rfl rfl ?_
    refine Run.p (.int .i64 most) rfl rfl ?_
    refine Run.p (.bool (decide ((((szJ vs k : Nat) : Int)) > most))) rfl rfl ?_
    refine Run.done ?_
    refine Run.cond (b := decide ((((szJ vs k : Nat) : Int)) > most)) rfl (fun h32 => ?_) (fun h32 => ?_)
    ·have p32 := h32; try simp only [bs] at p32
     have hgo : brF vs (bst, most) k = ((k : Int), ((szJ vs k : Nat) : Int)) := by unfold brF; rw [if_pos p32]
     refine Run.region ?_
     refine Run.p (.int .i64 (((k : Nat) : Int))) rfl rfl ?_
     refine Run.p (.int .i64 (((szJ vs k : Nat) : Int))) rfl rfl ?_
     refine Run.p (.int .i64 (((k : Nat) : Int))) rfl rfl ?_
     refine Run.p (.int .i64 (((szJ vs k : Nat) : Int))) rfl rfl ?_
     refine Run.done ?_
     refine Run.blockEnd ?_
     refine Run.region ?_
     refine Run.y (.int .i64 ((((k : Nat) : Int)) + 1)) rfl (OpY.add rfl rfl rfl (by omega) (by omega)) ?_
     refine Run.p (.int .i64 ((((k : Nat) : Int)) + 1)) rfl rfl ?_
     refine Run.done ?_
     refine Run.goal ⟨(by repeat (first | exact Same.refl _ _ | refine Same.put rfl ?_ | refine Same.over rfl rfl ?_)), (k + 1, ((k : Nat) : Int), ((szJ vs k : Nat) : Int)), ?_, ?_, ?_, ?_⟩
     ·first | exact ⟨hk5, by rw [hnx]; exact hb, hm⟩ | exact ⟨hk5, by rw [hnx, hb]; exact hgo, by omega⟩
     ·show 5 - (k + 1) < 5 - k; omega
     ·exact ⟨(by first | rfl | (congr 1; omega) | simp), (by first | rfl | (congr 1; omega) | simp), (by first | rfl | (congr 1; omega) | simp), trivial⟩
     ·exact (Some'.weak (.skip (.skip (.take (.nil _)))))
    ·have p32 := h32; try simp only [bs] at p32
     have hgo : brF vs (bst, most) k = (bst, most) := by unfold brF; rw [if_neg (by simpa using p32)]
     refine Run.skip ?_
     refine Run.blockEnd ?_
     refine Run.region ?_
     refine Run.y (.int .i64 ((((k : Nat) : Int)) + 1)) rfl (OpY.add rfl rfl rfl (by omega) (by omega)) ?_
     refine Run.p (.int .i64 ((((k : Nat) : Int)) + 1)) rfl rfl ?_
     refine Run.done ?_
     refine Run.goal ⟨(by repeat (first | exact Same.refl _ _ | refine Same.put rfl ?_ | refine Same.over rfl rfl ?_)), (k + 1, bst, most), ?_, ?_, ?_, ?_⟩
     ·first | exact ⟨hk5, by rw [hnx]; exact hb, hm⟩ | exact ⟨hk5, by rw [hnx, hb]; exact hgo, by omega⟩
     ·show 5 - (k + 1) < 5 - k; omega
     ·exact ⟨(by first | rfl | (congr 1; omega) | simp), (by first | rfl | (congr 1; omega) | simp), (by first | rfl | (congr 1; omega) | simp), trivial⟩
     ·exact (Some'.weak (.skip (.skip (.take (.nil _)))))
  ·have p10 := h10; try simp only [bs] at p10
   obtain ⟨_, hb, hm⟩ := hinv
   have hk5 : k = 5 := by omega
   rw [hk5, frK_all hs5 h5] at hb
   refine Run.exit rfl ?_
   refine Run.sr ?_
   refine Run.p (.int .i64 bst) rfl rfl ?_
   refine Run.p (.int .i64 bst) rfl rfl ?_
   refine Run.done ?_
   refine Run.ret ?_
   refine ⟨.int .i64 bst, [], Out.one rfl rfl, (Some'.weak (.nil _)), ?_⟩
   show _ = _; rw [brn, hb]

end Go.Proofs.Yteehfidjofcfmaa
/- Plain laws: the stack of the Gray network as it lies in memory. -/
set_option linter.unusedSimpArgs false
set_option linter.unusedVariables false
namespace Go.Proofs.Yteehfidjofcfmaa
open Go Go.RowKit
/-- A task: the slice of its vectors, its free qubits as they lie in memory, the task. -/
abbrev TZ := Value × (Value × GT)
def tcell (z : TZ) : List Value := [z.1, z.2.1, .int .i64 z.2.2.2.2]
def tcells (zs : List TZ) : List Value := (zs.map tcell).flatten
abbrev gts (zs : List TZ) : List GT := zs.map fun z => z.2.2
def nm2 (z : TZ) : Value × Value := (z.1, z.2.1)
theorem tcells_length : ∀ zs : List TZ, (tcells zs).length = zs.length * 3
  | [] => rfl
  | z :: zs => by
    have := tcells_length zs
    simp only [tcells, List.map_cons, List.flatten_cons, List.length_append, List.length_cons, tcell, List.length_nil] at this ⊢
    omega
theorem tcells_append (zs ys : List TZ) : tcells (zs ++ ys) = tcells zs ++ tcells ys := by simp [tcells]
theorem preT {zs : List TZ} {i : Nat} {z : TZ} (h : zs[i]? = some z) : Pre (tcells zs) (i * 3) (tcell z) := by
  obtain ⟨hi, he⟩ := List.getElem?_eq_some_iff.1 h
  have e : zs = zs.take i ++ z :: zs.drop (i + 1) := by rw [← he, List.getElem_cons_drop, List.take_append_drop]
  refine Pre.of fun j v hv => ?_
  have hj : j < (tcell z).length := (List.getElem?_eq_some_iff.1 hv).1
  have hl : (tcells (zs.take i)).length = i * 3 := by rw [tcells_length, List.length_take, Nat.min_eq_left (by omega)]
  have e2 : tcells zs = tcells (zs.take i) ++ (tcell z ++ tcells (zs.drop (i + 1))) := by
    conv => lhs; rw [e]
    rw [tcells_append]
    simp [tcells]
  rw [e2, List.getElem?_append_right (by omega), hl, show i * 3 + j - i * 3 = j by omega, List.getElem?_append_left hj]
  exact hv
theorem tcells_take {zs : List TZ} {m : Nat} (h : m ≤ zs.length) : (tcells zs).take (m * 3) = tcells (zs.take m) := by
  have e : tcells zs = tcells (zs.take m) ++ tcells (zs.drop m) := by rw [← tcells_append, List.take_append_drop]
  have hl : (tcells (zs.take m)).length = m * 3 := by rw [tcells_length, List.length_take, Nat.min_eq_left h]
  rw [e, ← hl, List.take_left]
def tm (z : TZ) : Value × Nat × List Value := (z.1, z.2.2.1.length, ints (nl z.2.2.1))
def tg (zs : List TZ) : List (Value × Nat × List Value) := zs.map tm
theorem tg_mem {zs : List TZ} {i : Nat} {z : TZ} (h : zs[i]? = some z) : tm z ∈ tg zs := List.mem_map.2 ⟨z, List.mem_of_getElem? h, rfl⟩
theorem Weak.tgTake {H : List Res} {e : TypeId} {A B : List TZ} {z : TZ} : Weak (.grp e 1 (tg (A ++ z :: B)) :: H) (.own z.1 e 1 z.2.2.1.length (ints (nl z.2.2.1)) :: .grp e 1 (tg (A ++ B)) :: H) := by
  have h := Weak.grpTakeR (H := H) (e := e) (size := 1) (p := tm z) (A := tg A) (B := tg B)
  have e1 : tg (A ++ z :: B) = tg A ++ tm z :: tg B := by simp [tg]
  have e2 : tg (A ++ B) = tg A ++ tg B := by simp [tg]
  rw [e1, e2]; exact h
theorem Weak.tgPut {H : List Res} {e : TypeId} {A B : List TZ} {z : TZ} : Weak (.own z.1 e 1 z.2.2.1.length (ints (nl z.2.2.1)) :: .grp e 1 (tg (A ++ B)) :: H) (.grp e 1 (tg (A ++ z :: B)) :: H) := by
  have e1 : (tg (z :: (A ++ B))).Perm (tg (A ++ z :: B)) := (List.perm_middle (a := z) (l₁ := A) (l₂ := B)).symm.map _
  exact Weak.grpIn.trans (Weak.grpPerm e1)
theorem Weak.tgSnoc {H : List Res} {e : TypeId} {A : List TZ} {z : TZ} : Weak (.own z.1 e 1 z.2.2.1.length (ints (nl z.2.2.1)) :: .grp e 1 (tg A) :: H) (.grp e 1 (tg (A ++ [z])) :: H) := by
  have h := Weak.tgPut (H := H) (e := e) (A := A) (B := []) (z := z)
  rwa [List.append_nil] at h
theorem snoc_take {α : Type} {l : List α} {m : Nat} {z : α} (hm : l.length = m + 1) (h : l[m]? = some z) : l = l.take m ++ [z] := by
  obtain ⟨hi, he⟩ := List.getElem?_eq_some_iff.1 h
  rw [← he]
  have h1 := (List.take_append_getElem hi)
  rw [h1, List.take_of_length_le (by omega)]
theorem Weak.tgInit {H : List Res} {e : TypeId} {zs : List TZ} {m : Nat} (hm : zs.length = m + 1) : Weak (.grp e 1 (tg zs) :: H) (.grp e 1 (tg (zs.take m)) :: H) := by
  have hz : zs[m]? = some zs[m] := List.getElem?_eq_getElem (by omega)
  have h := Weak.tgTake (H := H) (e := e) (A := zs.take m) (B := []) (z := zs[m])
  rw [← snoc_take hm hz, List.append_nil] at h
  exact h.trans (Weak.drop (Weak.refl _))
def addZ (j t : Nat) (z : TZ) : TZ := (z.1, (z.2.1, addT j t z.2.2))
theorem tcells_add (j t : Nat) (zs : List TZ) : tcells (zs.map (addZ j t)) = tcells zs := by
  simp only [tcells, List.map_map]; congr 1
theorem gts_add (j t : Nat) (zs : List TZ) : gts (zs.map (addZ j t)) = (gts zs).map (addT j t) := by
  simp only [gts, List.map_map]; congr 1
theorem nm_add (j t : Nat) (zs : List TZ) : (zs.map (addZ j t)).map nm2 = zs.map nm2 := by
  simp only [List.map_map]; congr 1
def mixZ (j t i : Nat) (zs : List TZ) : List TZ := (zs.take i).map (addZ j t) ++ zs.drop i
theorem mixZ_zero (j t : Nat) (zs : List TZ) : mixZ j t 0 zs = zs := by simp [mixZ]
theorem mixZ_all (j t : Nat) (zs : List TZ) : mixZ j t zs.length zs = zs.map (addZ j t) := by simp [mixZ]
theorem mixZ_at {j t i : Nat} {zs : List TZ} {z : TZ} (h : zs[i]? = some z) : mixZ j t i zs = (zs.take i).map (addZ j t) ++ z :: zs.drop (i + 1) ∧ mixZ j t (i + 1) zs = (zs.take i).map (addZ j t) ++ addZ j t z :: zs.drop (i + 1) := by
  obtain ⟨hi, he⟩ := List.getElem?_eq_some_iff.1 h
  constructor
  · rw [mixZ, ← he, List.getElem_cons_drop]
  · rw [mixZ, ← List.take_append_getElem hi, he]; simp
def mixV (j t k : Nat) (vs : List Nat) : List Nat := (vs.take k).map (addV j t) ++ vs.drop k
theorem mixV_zero (j t : Nat) (vs : List Nat) : mixV j t 0 vs = vs := by simp [mixV]
theorem mixV_all (j t : Nat) (vs : List Nat) : mixV j t vs.length vs = vs.map (addV j t) := by simp [mixV]
theorem mixV_length (j t : Nat) (vs : List Nat) : ∀ k, (mixV j t k vs).length = vs.length := by
  intro k; simp only [mixV, List.length_append, List.length_map, List.length_take, List.length_drop]; omega
theorem mixV_nx {j t k : Nat} {vs : List Nat} (h : k < vs.length) : nx (mixV j t k vs) k = nx vs k := by
  have hl : ((vs.take k).map (addV j t)).length = k := by simp; omega
  simp only [nx, mixV, List.getD]
  rw [List.getElem?_append_right (by omega), hl, Nat.sub_self, List.getElem?_drop]; rfl
theorem mixV_set {j t k : Nat} {vs : List Nat} (h : k < vs.length) : (mixV j t k vs).set k (addV j t (nx vs k)) = mixV j t (k + 1) vs := by
  have hl : ((vs.take k).map (addV j t)).length = k := by simp; omega
  have e1 : vs.drop k = vs[k] :: vs.drop (k + 1) := (List.getElem_cons_drop h).symm
  have e2 : nx vs k = vs[k] := by simp [nx, List.getD, h]
  simp only [mixV]
  rw [List.set_append_right (i := k) (h := by omega), hl, Nat.sub_self, e1, List.set_cons_zero, ← List.take_append_getElem h, e2, List.map_append]; simp only [List.map_cons, List.map_nil, List.append_assoc, List.singleton_append]
theorem mixV_keep {j t k : Nat} {vs : List Nat} (h : k < vs.length) (hb : (nx vs k).testBit t = false) : mixV j t (k + 1) vs = mixV j t k vs := by
  have h1 := mixV_set (j := j) (t := t) h
  have hl := mixV_length j t vs k
  rw [← h1]
  refine List.ext_getElem (by simp) fun i h2 h3 => ?_
  rw [List.getElem_set]
  split
  · rename_i e; subst e
    have h4 := mixV_nx (j := j) (t := t) h
    simp only [nx, List.getD, List.getElem?_eq_getElem h3, Option.getD_some] at h4
    rw [h4, addV, if_neg (by rw [hb]; decide)]; rfl
  · rfl
theorem ints_nl_set (vs : List Nat) (k v : Nat) : ints ((nl vs).set k ((v : Nat) : Int)) = ints (nl (vs.set k v)) := by
  simp only [nl, List.map_set]
/-- The gates below j of the task on top; none while it has no target. -/
def gz (t : Int) (j : Nat) (s : GS) : GS := if 0 ≤ t then gj t.toNat j s else s
theorem gadd_gz (n : Nat) (G : List (Nat × Nat)) (S : List GT) (vs fq : List Nat) (t : Int) : gadd n G S (vs, fq, t) = gz t n (G, S, vs) := rfl
theorem gz_zero (t : Int) (s : GS) : gz t 0 s = s := by unfold gz; split <;> rfl
theorem gz_neg {t : Int} (h : ¬ 0 ≤ t) (j : Nat) (s : GS) : gz t j s = s := if_neg h
theorem gz_go {t j : Nat} {s : GS} (hne : j ≠ t) (ha : ((gz (t : Int) j s).2.2.all fun v => v.testBit j) = true) : gz (t : Int) (j + 1) s = ((gz (t : Int) j s).1 ++ [(j, t)], (gz (t : Int) j s).2.1.map (addT j t), (gz (t : Int) j s).2.2.map (addV j t)) := by
  have h0 : (0 : Int) ≤ (t : Int) := Int.natCast_nonneg _
  simp only [gz, if_pos h0, Int.toNat_natCast] at ha ⊢
  rw [gj, if_pos ⟨hne, ha⟩]
theorem gz_pass {t j : Nat} {s : GS} (h : j = t ∨ ((gz (t : Int) j s).2.2.all fun v => v.testBit j) = false) : gz (t : Int) (j + 1) s = gz (t : Int) j s := by
  have h0 : (0 : Int) ≤ (t : Int) := Int.natCast_nonneg _
  simp only [gz, if_pos h0, Int.toNat_natCast] at h ⊢
  rw [gj, if_neg]
  rintro ⟨h1, h2⟩
  rcases h with h | h
  · exact h1 h
  · rw [h2] at h; cases h
theorem gz_ok {n : Nat} {ms : List Nat} {G : List (Nat × Nat)} {S : List GT} {vs fq : List Nat} {t : Int} (h : GI n ms G (S ++ [(vs, fq, t)])) (hv : vs ≠ []) {j : Nat} (hj : j ≤ n) :
    GI n ms (gz t j (G, S, vs)).1 ((gz t j (G, S, vs)).2.1 ++ [((gz t j (G, S, vs)).2.2, fq, t)]) ∧ (gz t j (G, S, vs)).2.2 ≠ [] ∧ (gz t j (G, S, vs)).1.length ≤ G.length + j := by
  unfold gz
  by_cases ht : 0 ≤ t
  · rw [if_pos ht]
    obtain ⟨k, rfl⟩ : ∃ k : Nat, t = k := ⟨t.toNat, by omega⟩
    rw [Int.toNat_natCast]
    obtain ⟨h1, h2, _, _, h5⟩ := gj_ok h hv j hj
    exact ⟨h1, h2, by omega⟩
  · rw [if_neg ht]
    exact ⟨h, hv, by show G.length ≤ _; omega⟩
theorem gj_keep (t : Nat) (s : GS) : ∀ j, (gj t j s).2.2.length = s.2.2.length ∧ (gj t j s).2.1.map (fun T => (T.1.length, T.2)) = s.2.1.map (fun T => (T.1.length, T.2))
  | 0 => ⟨rfl, rfl⟩
  | j + 1 => by
    obtain ⟨h1, h2⟩ := gj_keep t s j
    rw [gj]; split
    · refine ⟨by simpa using h1, ?_⟩
      rw [← h2, List.map_map]
      simp only [Function.comp_def, addT, List.length_map]
    · exact ⟨h1, h2⟩
theorem gz_keep (t : Int) (j : Nat) (s : GS) : (gz t j s).2.2.length = s.2.2.length ∧ (gz t j s).2.1.map (fun T => (T.1.length, T.2)) = s.2.1.map (fun T => (T.1.length, T.2)) := by
  unfold gz; split
  · exact gj_keep _ s j
  · exact ⟨rfl, rfl⟩
def tgt (t : Int) (b : Nat) : Int := if t < 0 then (b : Int) else t
theorem gstp_nil (n : Nat) (G : List (Nat × Nat)) (S : List GT) (fq : List Nat) (t : Int) : gstp n G S ([], fq, t) = (G, S) := by rw [gstp, if_pos rfl]
theorem gstp_stop {n : Nat} {G : List (Nat × Nat)} {S : List GT} {vs fq : List Nat} {t : Int} (hv : vs ≠ []) (hb : brn (gz t n (G, S, vs)).2.2 fq < 0) : gstp n G S (vs, fq, t) = ((gz t n (G, S, vs)).1, (gz t n (G, S, vs)).2.1) := by
  rw [gstp, if_neg hv, gfin, gadd_gz, if_pos hb]
theorem gstp_go {n b : Nat} {G : List (Nat × Nat)} {S : List GT} {vs fq : List Nat} {t : Int} (hv : vs ≠ []) (hb : brn (gz t n (G, S, vs)).2.2 fq = (b : Int)) : gstp n G S (vs, fq, t) = ((gz t n (G, S, vs)).1, (gz t n (G, S, vs)).2.1 ++ [(st1 (gz t n (G, S, vs)).2.2 b, fq.erase b, tgt t b), (st0 (gz t n (G, S, vs)).2.2 b, fq.erase b, t)]) := by
  rw [gstp, if_neg hv, gfin, gadd_gz]
  simp only [hb]
  rw [if_neg (by omega), Int.toNat_natCast]; rfl
/-- Where the search stands. -/
structure GrI (n : Nat) (ms : List Nat) (G : List (Nat × Nat)) (S : List GT) (f : Nat) : Prop where
  gi : GI n ms G S
  run : (grun n f (G, S)).1 = gG n ms
  fu : mu S ≤ f
  len : G.length + 4 * mu S ≤ 252
  asc : ∀ T ∈ S, T.2.1.Pairwise (· < ·)
  vl : ∀ T ∈ S, T.1.length ≤ 1000
theorem mu_len : ∀ S : List GT, S.length ≤ mu S
  | [] => by simp
  | T :: S => by
    have h1 := mu_len S
    have h2 : 2 ^ (T.2.1.length + 1) = 2 * 2 ^ T.2.1.length := by rw [Nat.pow_succ]; omega
    have h3 : 0 < 2 ^ T.2.1.length := Nat.two_pow_pos _
    have e : mu (T :: S) = 2 ^ (T.2.1.length + 1) - 1 + mu S := by simp [mu]
    rw [e, List.length_cons]; omega
theorem GrI.start {n : Nat} {ms : List Nat} (hms : ∀ m ∈ ms, 1 ≤ m ∧ m < 2 ^ n) (h5 : n ≤ 5) (hl : ms.length ≤ 1000) : GrI n ms [] [(ms, List.range n, -1)] (2 ^ (n + 1)) := by
  have hmu : mu [(ms, List.range n, (-1 : Int))] = 2 ^ (n + 1) - 1 := by simp [mu]
  have hp : 2 ^ (n + 1) ≤ 64 := Nat.pow_le_pow_right (n := 2) (by omega) (show n + 1 ≤ 6 by omega)
  have hp0 : 0 < 2 ^ (n + 1) := Nat.two_pow_pos _
  refine ⟨gI_ok fun m hm => (hms m hm).2, rfl, by rw [hmu]; exact Nat.sub_le _ _, by simp only [List.length_nil]; omega, ?_, ?_⟩
  · intro T hT
    simp only [List.mem_singleton] at hT; subst hT
    exact List.pairwise_lt_range
  · intro T hT
    simp only [List.mem_singleton] at hT; subst hT
    exact hl
theorem GrI.next {n f : Nat} {ms : List Nat} {G : List (Nat × Nat)} {S : List GT} {x : GT} (hms : ∀ m ∈ ms, 1 ≤ m) (h5 : n ≤ 5) (h : GrI n ms G (S ++ [x]) (f + 1)) : GrI n ms (gstp n G S x).1 (gstp n G S x).2 f := by
  obtain ⟨h1, h2, h3⟩ := gstp_ok hms h5 h.gi
  have h4 := h.fu
  have h5 := h.len
  have hrun := h.run
  rw [grun_snoc] at hrun
  have key : ∀ T ∈ (gstp n G S x).2, T.2.1.Pairwise (· < ·) ∧ T.1.length ≤ 1000 := by
    obtain ⟨vs, fq, t⟩ := x
    have hS : ∀ T ∈ S, T.2.1.Pairwise (· < ·) ∧ T.1.length ≤ 1000 := fun T hT => ⟨h.asc T (by simp [hT]), h.vl T (by simp [hT])⟩
    have hx := h.asc (vs, fq, t) (by simp)
    have hxl := h.vl (vs, fq, t) (by simp)
    simp only at hx hxl
    have hk := gz_keep t n (G, S, vs)
    have hG : ∀ T ∈ (gz t n (G, S, vs)).2.1, T.2.1.Pairwise (· < ·) ∧ T.1.length ≤ 1000 := by
      intro T hT
      have hm : (T.1.length, T.2) ∈ S.map (fun T => (T.1.length, T.2)) := by
        have := hk.2
        simp only at this
        rw [← this]; exact List.mem_map.2 ⟨T, hT, rfl⟩
      obtain ⟨U, hU, he⟩ := List.mem_map.1 hm
      injection he with e1 e2
      rw [← e1, ← e2]; exact hS U hU
    by_cases hv : vs = []
    · subst hv; rw [gstp_nil]; exact hS
    · rcases Int.lt_or_le (brn (gz t n (G, S, vs)).2.2 fq) 0 with hb | hb
      · rw [gstp_stop hv hb]; exact hG
      · obtain ⟨b, hb⟩ := Int.eq_ofNat_of_zero_le hb
        rw [gstp_go hv hb]
        intro T hT
        rcases List.mem_append.1 hT with hT | hT
        · exact hG T hT
        · have hl := hk.1
          simp only at hl
          simp only [List.mem_cons, List.not_mem_nil, or_false] at hT
          rcases hT with rfl | rfl
          · exact ⟨hx.sublist List.erase_sublist, Nat.le_trans (st1_le _ _) (by omega)⟩
          · exact ⟨hx.sublist List.erase_sublist, Nat.le_trans (st0_le _ _) (by omega)⟩
  exact ⟨h1, hrun, by omega, by omega, fun T hT => (key T hT).1, fun T hT => (key T hT).2⟩
theorem GrI.pos {n f : Nat} {ms : List Nat} {G : List (Nat × Nat)} {S : List GT} (h : GrI n ms G S f) (hS : 0 < S.length) : ∃ k, f = k + 1 := by
  have h1 := mu_len S
  have h2 := h.fu
  exact ⟨f - 1, by omega⟩
theorem GrI.done {n f : Nat} {ms : List Nat} {G : List (Nat × Nat)} (h : GrI n ms G [] f) : G = gG n ms := by
  have := h.run
  rw [grun_nil] at this; exact this
/-- Inside a round: the tasks below and the one on top after the gates below j. -/
structure LpI (fq : List Nat) (t : Int) (zs : List TZ) (s : GS) (G2 : List (Nat × Nat)) (zs2 : List TZ) : Prop where
  g : G2 = s.1
  nms : zs2.map nm2 = zs.map nm2
  ts : gts zs2 = s.2.1 ++ [(s.2.2, fq, t)]
theorem LpI.len {fq : List Nat} {t : Int} {zs : List TZ} {s : GS} {G2 : List (Nat × Nat)} {zs2 : List TZ} (h : LpI fq t zs s G2 zs2) : zs2.length = zs.length := by
  have := congrArg List.length h.nms; simpa using this
theorem LpI.at {fq : List Nat} {t : Int} {zs : List TZ} {s : GS} {G2 : List (Nat × Nat)} {zs2 : List TZ} {m : Nat} {zv zf : Value} {T : GT} (h : LpI fq t zs s G2 zs2) (hm : zs.length = m + 1) (hz : zs[m]? = some (zv, (zf, T))) : zs2[m]? = some (zv, (zf, (s.2.2, fq, t))) := by
  have hl := h.len
  have h1 : (zs2.map nm2)[m]? = some (zv, zf) := by rw [h.nms, List.getElem?_map, hz]; rfl
  have h2 : (gts zs2)[m]? = some (s.2.2, fq, t) := by
    have hl2 : s.2.1.length = m := by have := congrArg List.length h.ts; simp at this; omega
    rw [h.ts, List.getElem?_append_right (by omega), hl2, Nat.sub_self]; rfl
  rw [List.getElem?_eq_getElem (show m < zs2.length by omega)]
  rw [List.getElem?_map, List.getElem?_eq_getElem (show m < zs2.length by omega)] at h1 h2
  simp only [Option.map_some, Option.some.injEq, nm2, Prod.mk.injEq] at h1 h2
  obtain ⟨h3, h4⟩ := h1
  rw [Option.some.injEq]
  exact Prod.ext h3 (Prod.ext h4 h2)
theorem LpI.init {fq : List Nat} {t : Int} {zs : List TZ} {m : Nat} {zv zf : Value} {vs : List Nat} {G : List (Nat × Nat)} (hm : zs.length = m + 1) (hz : zs[m]? = some (zv, (zf, (vs, fq, t)))) : LpI fq t zs (gz t 0 (G, gts (zs.take m), vs)) G zs := by
  rw [gz_zero]
  refine ⟨rfl, rfl, ?_⟩
  conv => lhs; rw [snoc_take hm hz]
  simp [gts]
theorem LpI.add {fq : List Nat} {t : Nat} {zs : List TZ} {s : GS} {G2 : List (Nat × Nat)} {zs2 : List TZ} {j : Nat} (h : LpI fq (t : Int) zs (gz (t : Int) j s) G2 zs2) (hne : j ≠ t) (ha : ((gz (t : Int) j s).2.2.all fun v => v.testBit j) = true) : LpI fq (t : Int) zs (gz (t : Int) (j + 1) s) (G2 ++ [(j, t)]) (zs2.map (addZ j t)) := by
  rw [gz_go hne ha]
  refine ⟨by rw [h.g], by rw [nm_add]; exact h.nms, ?_⟩
  rw [gts_add, h.ts, List.map_append]; rfl
theorem LpI.take {fq : List Nat} {t : Int} {zs : List TZ} {s : GS} {G2 : List (Nat × Nat)} {zs2 : List TZ} {m : Nat} (h : LpI fq t zs s G2 zs2) (hm : zs.length = m + 1) : gts (zs2.take m) = s.2.1 := by
  have hl := h.len
  have hl2 : s.2.1.length = m := by have := congrArg List.length h.ts; simp at this; omega
  have e : gts (zs2.take m) = (gts zs2).take m := by simp [gts, List.map_take]
  rw [e, h.ts, ← hl2, List.take_left]
theorem LpI.same {fq vs : List Nat} {t : Int} {zs zs2 : List TZ} {G G2 : List (Nat × Nat)} {j m : Nat} {zv zf : Value} (h : LpI fq t zs (gz t j (G, gts (zs.take m), vs)) G2 zs2) (hm : zs.length = m + 1) (hz : zs[m]? = some (zv, (zf, (vs, fq, t)))) :
    ∀ z ∈ zs2, ∃ y ∈ zs, z.1 = y.1 ∧ z.2.1 = y.2.1 ∧ z.2.2.1.length = y.2.2.1.length ∧ z.2.2.2 = y.2.2.2 := by
  have hl := h.len
  obtain ⟨k1, k2⟩ := gz_keep t j (G, gts (zs.take m), vs)
  simp only at k1 k2
  have hgt : gts zs = gts (zs.take m) ++ [(vs, fq, t)] := by
    conv => lhs; rw [snoc_take hm hz]
    simp [gts]
  have e : (gts zs2).map (fun T => (T.1.length, T.2)) = (gts zs).map (fun T => (T.1.length, T.2)) := by
    rw [h.ts, hgt, List.map_append, List.map_append, k2]
    simp only [List.map_cons, List.map_nil, k1]
  intro z hzm
  obtain ⟨i, hi, rfl⟩ := List.getElem_of_mem hzm
  have hi2 : i < zs.length := by omega
  have e1 : (zs2.map nm2)[i]? = (zs.map nm2)[i]? := by rw [h.nms]
  have e2 : ((gts zs2).map (fun T => (T.1.length, T.2)))[i]? = ((gts zs).map (fun T => (T.1.length, T.2)))[i]? := by rw [e]
  simp only [gts, List.map_map, List.getElem?_map, List.getElem?_eq_getElem hi, List.getElem?_eq_getElem hi2, Option.map_some, Option.some.injEq, Function.comp, nm2, Prod.mk.injEq] at e1 e2
  exact ⟨zs[i], List.getElem_mem hi2, e1.1, e1.2, e2.1, e2.2⟩
theorem gi_lt {n : Nat} {ms : List Nat} {G : List (Nat × Nat)} {zs : List TZ} (h : GI n ms G (gts zs)) (h5 : n ≤ 5) : ∀ z ∈ zs, ∀ v ∈ z.2.2.1, v < 32 := by
  intro z hz v hv
  have := (h.tok z.2.2 (List.mem_map.2 ⟨z, hz, rfl⟩)).small v hv
  have h2 : 2 ^ n ≤ 2 ^ 5 := Nat.pow_le_pow_right (by omega) h5
  omega

end Go.Proofs.Yteehfidjofcfmaa
