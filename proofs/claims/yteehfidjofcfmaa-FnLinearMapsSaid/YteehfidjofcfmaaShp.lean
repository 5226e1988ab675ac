/- Plain laws: the queue of the search for linear maps. -/
import Derived.Test.YteehfidjofcfmaaKeq
import Derived.Test.YteehfidjofcfmaaAft
import Derived.Test.YteehfidjofcfmaaSs
set_option linter.unusedSimpArgs false
set_option linter.unusedVariables false
namespace Go.Proofs.Yteehfidjofcfmaa
open Go Go.RowKit

/-- An entry: the slice of its gates, its key, its path. -/
abbrev QZ := Value × ((List Nat × Nat) × List Nat)
abbrev sn (zs : List QZ) : List ((List Nat × Nat) × List Nat) := zs.map fun z => z.2
def qcell (z : QZ) : List Value := ints (kc z.2.1.1 z.2.1.2) ++ [z.1]
def qcells (zs : List QZ) : List Value := (zs.map qcell).flatten
def kq (q : List ((List Nat × Nat) × List Nat)) : List Value := q.map fun y => keyV y.1.1 y.1.2
theorem qcell_length (z : QZ) : (qcell z).length = 7 := rfl
theorem qcells_length : ∀ zs : List QZ, (qcells zs).length = zs.length * 7
  | [] => rfl
  | z :: zs => by
    have := qcells_length zs
    simp only [qcells, List.map_cons, List.flatten_cons, List.length_append, List.length_cons, qcell_length] at this ⊢
    omega
theorem qcells_append (zs ys : List QZ) : qcells (zs ++ ys) = qcells zs ++ qcells ys := by simp [qcells]
theorem qcells_snoc (zs : List QZ) (z : QZ) : qcells zs ++ qcell z = qcells (zs ++ [z]) := by simp [qcells]
theorem Pre.of {cs : List Value} : ∀ {xs : List Value} {o : Nat}, (∀ j v, xs[j]? = some v → cs[o + j]? = some v) → Pre cs o xs
  | [], _, _ => trivial
  | x :: xs, o, h => ⟨by simpa using h 0 x rfl, Pre.of fun j v hv => by have := h (j + 1) v (by simpa using hv); rwa [show o + (j + 1) = o + 1 + j by omega] at this⟩
theorem preQ {zs : List QZ} {i : Nat} {z : QZ} (h : zs[i]? = some z) : Pre (qcells zs) (i * 7) (qcell z) := by
  obtain ⟨hi, he⟩ := List.getElem?_eq_some_iff.1 h
  have e : zs = zs.take i ++ z :: zs.drop (i + 1) := by rw [← he, List.getElem_cons_drop, List.take_append_drop]
  refine Pre.of fun j v hv => ?_
  have hj : j < (qcell z).length := (List.getElem?_eq_some_iff.1 hv).1
  have hl : (qcells (zs.take i)).length = i * 7 := by rw [qcells_length, List.length_take, Nat.min_eq_left (by omega)]
  have e2 : qcells zs = qcells (zs.take i) ++ (qcell z ++ qcells (zs.drop (i + 1))) := by
    conv => lhs; rw [e]
    rw [qcells_append]
    simp [qcells]
  rw [e2, List.getElem?_append_right (by omega), hl, show i * 7 + j - i * 7 = j by omega, List.getElem?_append_left hj]
  exact hv
theorem Weak.grpTakeR {H : List Res} {e : TypeId} {size : Nat} {p : Value × Nat × List Value} {A B : List (Value × Nat × List Value)} : Weak (.grp e size (A ++ p :: B) :: H) (.own p.1 e size p.2.1 p.2.2 :: .grp e size (A ++ B) :: H) :=
  (Weak.grpPerm (l' := p :: (A ++ B)) List.perm_middle).trans Weak.grpOut
theorem Weak.grpSnocR {H : List Res} {e : TypeId} {size n : Nat} {v : Value} {xs : List Value} {l : List (Value × Nat × List Value)} : Weak (.own v e size n xs :: .grp e size l :: H) (.grp e size (l ++ [(v, n, xs)]) :: H) :=
  Weak.grpIn.trans (Weak.grpPerm (List.perm_append_singleton _ _).symm)
theorem St.slGrpR {M : Nat → Prop} {w0 w : World} {H : List Res} {e : TypeId} {size : Nat} {l : List (Value × Nat × List Value)} (hs : St M w0 w H) (hm : Res.grp e size l ∈ H) {p : Value × Nat × List Value} (hp : p ∈ l) : Sl w p.1 size p.2.1 p.2.2 := by
  obtain ⟨A, B, rfl⟩ := List.append_of_mem hp
  obtain ⟨H1, H2, rfl⟩ := List.append_of_mem hm
  have h1 := hs.perm (List.perm_middle (a := Res.grp e size (A ++ p :: B)) (l₁ := H1) (l₂ := H2))
  exact (Weak.grpTakeR _ _ _ h1).slOwn (.head _)
theorem Run.formMem {E : Env} {k : List It} {f : Fr} {H : List Res} {e : TypeId} {size : Nat} {l : List (Value × Nat × List Value)} (hm : Res.grp e size l ∈ H) {p : Value × Nat × List Value} (hp : p ∈ l)
    (h : ∀ A c, p.1 = .slice A p.2.1 c → Run E k f H) (hk : ∀ G i k', k ≠ .goal G :: k' ∧ k ≠ .block i :: k' ∧ k ≠ []) : Run E k f H := by
  have key : ∀ w, St E.M E.w0 w H → Run E k f H := by
    intro w hs
    obtain ⟨A, c, he, _, _⟩ := (hs.slGrpR hm hp).form0
    exact h A c he
  match k, hk with
  | [], hk => exact absurd rfl (hk (fun _ _ => True) 0 []).2.2
  | .goal G :: k', hk => exact absurd rfl (hk G 0 k').1
  | .block i :: k', hk => exact absurd rfl (hk (fun _ _ => True) i k').2.1
  | .rounds c n :: k', _ => exact fun a w ha hs => key w hs a w ha hs
  | .ops ops l :: k', _ => exact fun a w ha hs => key w hs a w ha hs
  | .code c :: k', _ => exact fun a w ha hs => key w hs a w ha hs
def qm (n : Nat) (v : Value) (p : List Nat) : Value × Nat × List Value := (v, p.length, ints (flCX (dcw n p)))
def qg (n : Nat) (zs : List QZ) : List (Value × Nat × List Value) := zs.map fun z => qm n z.1 z.2.2
theorem qg_mem {n : Nat} {zs : List QZ} {i : Nat} {v : Value} {k : List Nat × Nat} {p : List Nat} (h : zs[i]? = some (v, (k, p))) : qm n v p ∈ qg n zs := List.mem_map.2 ⟨(v, (k, p)), List.mem_of_getElem? h, rfl⟩
theorem Weak.qgSnoc {H : List Res} {e : TypeId} {n : Nat} {zs : List QZ} {v : Value} {k : List Nat × Nat} {p : List Nat} : Weak (.own v e 3 p.length (ints (flCX (dcw n p))) :: .grp e 3 (qg n zs) :: H) (.grp e 3 (qg n (zs ++ [(v, (k, p))])) :: H) := by
  have h := Weak.grpSnocR (H := H) (e := e) (size := 3) (v := v) (n := p.length) (xs := ints (flCX (dcw n p))) (l := qg n zs)
  have e2 : qg n (zs ++ [(v, (k, p))]) = qg n zs ++ [(v, p.length, ints (flCX (dcw n p)))] := by simp [qg, qm]
  rw [e2]; exact h
def gatI (l : List (Nat × Nat)) (k : Nat) : List Value := [.int .i64 9, .int .i64 ((gat l k).1 : Nat), .int .i64 ((gat l k).2 : Nat)]
theorem flCX_get : ∀ {l : List (Nat × Nat)} {k : Nat}, k < l.length → (flCX l)[k * 3]? = some 9 ∧ (flCX l)[k * 3 + 1]? = some ((gat l k).1 : Int) ∧ (flCX l)[k * 3 + 2]? = some ((gat l k).2 : Int)
  | (a, b) :: l, 0, _ => ⟨rfl, rfl, rfl⟩
  | (a, b) :: l, k + 1, h => by
    have ih := flCX_get (l := l) (k := k) (by simpa using h)
    have e : (k + 1) * 3 = k * 3 + 3 := by omega
    simp only [flCX, e]
    have e2 : gat ((a, b) :: l) (k + 1) = gat l k := by simp [gat]
    rw [e2]
    exact ih
theorem preCX {l : List (Nat × Nat)} {k : Nat} (h : k < l.length) : Pre (ints (flCX l)) (k * 3) (gatI l k) := by
  obtain ⟨h1, h2, h3⟩ := flCX_get h
  exact ⟨by simp [ints, h1], by simp [ints, h2], by simp [ints, h3], trivial⟩
/-- What has appeared among the first q identity rows. -/
def apF (ms : List Int) : Nat → Nat
  | 0 => 0
  | q + 1 => apx (apF ms q) ms ((2 ^ q : Nat) : Int)
theorem findI_bit {p : Nat → Bool} {n : Nat} (h : 0 ≤ findI p n) : (findI p n).toNat < n := by have := findI_ltn h; omega
theorem apx_lt {f k : Nat} {ms : List Int} {x : Int} (hf : f < 2 ^ k) (hm : ms.length ≤ k) : apx f ms x < 2 ^ k := by
  unfold apx
  split
  · rename_i h
    exact Nat.or_lt_two_pow hf (Nat.pow_lt_pow_right (by omega) (by have := findI_bit h; omega))
  · exact hf
theorem apF_lt {ms : List Int} : ∀ q, apF ms q < 2 ^ ms.length
  | 0 => Nat.two_pow_pos _
  | q + 1 => apx_lt (apF_lt q) (Nat.le_refl _)
abbrev mQ (n : Nat) (ms : List Int) (i : Nat) : List ((List Nat × Nat) × List Nat) := bfs (lstep n ms) (lok n) (n * n) (idL n, apF ms n) i
def mK (n : Nat) (ms : List Int) (k : List Nat × Nat) : Prop := k.1.length = n ∧ (∀ j, nx k.1 j < 2 ^ n) ∧ k.2 < 2 ^ ms.length
theorem mK_step {n : Nat} {ms : List Int} {k : List Nat × Nat} (e : Nat) (h : mK n ms k) : mK n ms (lstep n ms k e) := by
  refine ⟨by simp [lstep, cx, h.1], fun j => ?_, apx_lt h.2.2 (Nat.le_refl _)⟩
  simp only [lstep]
  by_cases hj : j < k.1.length
  · rw [nx_cx hj]
    split
    · exact Nat.xor_lt_two_pow (h.2.1 _) (h.2.1 _)
    · exact h.2.1 _
  · rw [nx_ge (by simp [cx]; omega)]; exact Nat.two_pow_pos n
theorem mK_id (n : Nat) (ms : List Int) : mK n ms (idL n, apF ms n) := by
  refine ⟨by simp [idL], fun j => ?_, apF_lt n⟩
  by_cases hj : j < n
  · rw [nx_idL hj]; exact Nat.pow_lt_pow_right (by omega) hj
  · rw [nx_ge (by simp [idL]; omega)]; exact Nat.two_pow_pos n
theorem mQ_key {n i : Nat} {ms : List Int} {y : (List Nat × Nat) × List Nat} (hy : y ∈ mQ n ms i) : mK n ms y.1 :=
  bfs_keys (p := mK n ms) (fun _ e h _ _ => mK_step e h) (mK_id n ms) i y hy
section
variable {K : Type} [DecidableEq K] {step : K → Nat → K} {ok : Nat → Bool} {E : Nat} {s : K}
theorem bfs_succ {i : Nat} {x : K × List Nat} (h : (bfs step ok E s i)[i]? = some x) : bfs step ok E s (i + 1) = brow step ok x (bfs step ok E s i) E := by
  rw [bfs, h]
theorem brow_le (x : K × List Nat) (q : List (K × List Nat)) (e : Nat) : ∀ d, ∃ t, brow step ok x q (e + d) = brow step ok x q e ++ t
  | 0 => ⟨[], by simp⟩
  | d + 1 => by
    obtain ⟨t, ht⟩ := brow_le x q e d
    obtain ⟨u, hu⟩ := bvis_pre (step := step) (ok := ok) x (brow step ok x q (e + d)) (e + d)
    exact ⟨t ++ u, by rw [← Nat.add_assoc, brow, hu, ht, List.append_assoc]⟩
theorem brow_in {i : Nat} {x : K × List Nat} (h : (bfs step ok E s i)[i]? = some x) {e : Nat} (he : e ≤ E) : ∃ t, bfs step ok E s (i + 1) = brow step ok x (bfs step ok E s i) e ++ t := by
  rw [bfs_succ h]
  obtain ⟨t, ht⟩ := brow_le (step := step) (ok := ok) x (bfs step ok E s i) e (E - e)
  rw [show e + (E - e) = E by omega] at ht
  exact ⟨t, ht⟩
/-- A path is not longer than its place. -/
theorem bfs_plen (i : Nat) : ∀ (j : Nat) (y : K × List Nat), (bfs step ok E s i)[j]? = some y → y.2.length ≤ j := by
  have h := bfs_inv (step := step) (ok := ok) (E := E) (s := s) i
  intro j
  induction j using Nat.strongRecOn with
  | _ j ih =>
    intro y hy
    rcases h.form y (List.mem_of_getElem? hy) with h1 | ⟨m, e', z, hz, h1, _⟩
    · rw [h1]; simp
    · have hlt : m < j := by
        refine Nat.lt_of_not_le fun hle => ?_
        have hlt2 : slt z.2 y.2 := by rw [h1]; exact .inl (by simp)
        rcases Nat.lt_or_eq_of_le hle with h2 | h2
        · exact slt_irrefl _ (slt_trans hlt2 (pw_get (R := fun a b : K × List Nat => slt a.2 b.2) h.srt h2 hy hz))
        · subst h2; rw [hy] at hz; cases hz; exact slt_irrefl _ hlt2
      have := ih m hlt z hz
      rw [h1]; simp; omega
end
theorem mK_can {n : Nat} {ms : List Int} (hn : n ≤ 5) (hm : ms.length ≤ 7) {k : List Nat × Nat} (h : mK n ms k) : Keyable Try.prog 108 (keyV k.1 k.2) := by
  refine keyV_can (fun i => Nat.lt_of_lt_of_le (h.2.1 i) ?_) (Nat.lt_of_lt_of_le h.2.2 ?_)
  · exact Nat.le_trans (Nat.pow_le_pow_right (by omega) hn) (by decide)
  · exact Nat.le_trans (Nat.pow_le_pow_right (by omega) hm) (by decide)
theorem kq_can {n : Nat} {ms : List Int} (hn : n ≤ 5) (hm : ms.length ≤ 7) {q : List ((List Nat × Nat) × List Nat)} (h : ∀ y ∈ q, mK n ms y.1) : ∀ u ∈ kq q, Keyable Try.prog 108 u := by
  intro u hu
  obtain ⟨y, hy, rfl⟩ := List.mem_map.1 hu
  exact mK_can hn hm (h y hy)
theorem kq_mem {n : Nat} {ms : List Int} (hn : n ≤ 5) {q : List ((List Nat × Nat) × List Nat)} (h : ∀ y ∈ q, mK n ms y.1) {k : List Nat × Nat} (hk : mK n ms k) : keyV k.1 k.2 ∈ kq q ↔ k ∈ q.map (·.1) := by
  constructor
  · intro hu
    obtain ⟨y, hy, he⟩ := List.mem_map.1 hu
    obtain ⟨h1, h2⟩ := keyV_inj ((h y hy).1.trans hk.1.symm) (by rw [(h y hy).1]; exact hn) he
    exact List.mem_map.2 ⟨y, hy, Prod.ext h1 (Int.ofNat_inj.1 h2)⟩
  · intro hu
    obtain ⟨y, hy, rfl⟩ := List.mem_map.1 hu
    exact List.mem_map.2 ⟨y, hy, rfl⟩

end Go.Proofs.Yteehfidjofcfmaa
