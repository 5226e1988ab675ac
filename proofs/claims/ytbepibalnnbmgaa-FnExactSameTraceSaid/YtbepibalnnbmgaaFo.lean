/- Walks: gates in the order of Foata, of the program. -/
import Derived.Test.YtbepibalnnbmgaaStv
import Derived.Test.YtbepibalnnbmgaaLy
import Derived.Test.YtbepibalnnbmgaaProg
set_option linter.unusedSimpArgs false
set_option linter.unusedVariables false
namespace Go.Proofs.Ytbepibalnnbmgaa
open Go Go.RowKit
namespace FoT
theorem Tagg_30 : aggOf Try.prog 30 = some 2 := by kernel_rfl
theorem Tagg_47 : aggOf Try.prog 47 = some 3 := by kernel_rfl
theorem Tcall_24 : callable Try.prog 24 = true := by kernel_rfl
theorem Tcall_39 : callable Try.prog 39 = true := by kernel_rfl
theorem Tfo_30_0 : fieldOff Try.prog 30 0 = some 0 := by kernel_rfl
theorem Tfo_30_1 : fieldOff Try.prog 30 1 = some 1 := by kernel_rfl
theorem Tfo_47_1 : fieldOff Try.prog 47 1 = some 1 := by kernel_rfl
theorem Tone_28 : oneOf Try.prog 28 = true := by kernel_rfl
theorem Tone_3 : oneOf Try.prog 3 = true := by kernel_rfl
theorem Tone_43 : oneOf Try.prog 43 = true := by kernel_rfl
theorem Tone_48 : oneOf Try.prog 48 = true := by kernel_rfl
theorem Tsize_28 : (Try.prog.info? 28).map (·.size) = some 1 := by kernel_rfl
theorem Tsize_30 : (Try.prog.info? 30).map (·.size) = some 2 := by kernel_rfl
theorem Tsl_28 : sliceOf Try.prog 28 = some (47, 3, 24, [.int .i64 0, .int .i64 0, .int .i64 0]) := by kernel_rfl
theorem Tsl_43 : sliceOf Try.prog 43 = some (3, 1, 8, [.int .i64 0]) := by kernel_rfl
theorem Tzero_30 : zeroOf Try.prog 30 = some [.int .i64 0, .slice none 0 0] := by kernel_rfl
end FoT
open FoT

/-- The numbers and the gates that a list of numbers picks. -/
def pk (bs : List Int) (o : List Int) : List Int := o.map fun x => ix bs x.toNat
def p3 (xs : List Int) : List Int → List Int
  | [] => []
  | x :: o => ix xs (x.toNat * 3) :: ix xs (x.toNat * 3 + 1) :: ix xs (x.toNat * 3 + 2) :: p3 xs o
@[simp] theorem pk_length (bs o : List Int) : (pk bs o).length = o.length := by simp [pk]
@[simp] theorem p3_length (xs : List Int) : ∀ o : List Int, (p3 xs o).length = o.length * 3
  | [] => rfl
  | x :: o => by simp only [p3, List.length_cons, p3_length xs o]; omega
theorem p3_append (xs : List Int) : ∀ o o' : List Int, p3 xs (o ++ o') = p3 xs o ++ p3 xs o'
  | [], _ => rfl
  | x :: o, o' => by simp only [List.cons_append, p3, p3_append xs o o']
theorem ix_pk {bs o : List Int} {k : Nat} (h : k < o.length) : ix (pk bs o) k = ix bs (ix o k).toNat := by
  simp [pk, ix, List.getD, h]
theorem pk_set (bs : List Int) (o : List Int) (k : Nat) (v : Int) : (pk bs o).set k (ix bs v.toNat) = pk bs (o.set k v) := by simp [pk, List.map_set]
theorem pk_snoc (bs o : List Int) (x : Nat) : pk bs (o ++ [(x : Int)]) = pk bs o ++ [ix bs x] := by simp [pk]
theorem ix_cons_succ (x : Int) (l : List Int) (k : Nat) : ix (x :: l) (k + 1) = ix l k := by simp [ix, List.getD]
theorem ix_p3 {xs : List Int} {j : Nat} (hj : j < 3) : ∀ {o : List Int} {k : Nat}, k < o.length → ix (p3 xs o) (k * 3 + j) = ix xs ((ix o k).toNat * 3 + j)
  | [], k, h => by simp at h
  | x :: o, 0, _ => by
    rcases (by omega : j = 0 ∨ j = 1 ∨ j = 2) with rfl | rfl | rfl <;> rfl
  | x :: o, k + 1, h => by
    have := ix_p3 (xs := xs) hj (o := o) (k := k) (by simpa using h)
    rw [ix_cons_succ, ← this, show (k + 1) * 3 + j = (k * 3 + j) + 1 + 1 + 1 by omega, p3, ix_cons_succ, ix_cons_succ, ix_cons_succ]
theorem p3_set {xs : List Int} {v : Int} : ∀ {o : List Int} {k : Nat}, k < o.length → (((p3 xs o).set (k * 3) (ix xs (v.toNat * 3))).set (k * 3 + 1) (ix xs (v.toNat * 3 + 1))).set (k * 3 + 2) (ix xs (v.toNat * 3 + 2)) = p3 xs (o.set k v)
  | [], k, h => by simp at h
  | x :: o, 0, _ => rfl
  | x :: o, k + 1, h => by
    have := p3_set (xs := xs) (v := v) (o := o) (k := k) (by simpa using h)
    rw [List.set_cons_succ, p3, p3, ← this, show (k + 1) * 3 = k * 3 + 1 + 1 + 1 by omega, show k * 3 + 1 + 1 + 1 + 1 = (k * 3 + 1) + 1 + 1 + 1 by omega, show k * 3 + 1 + 1 + 1 + 2 = (k * 3 + 2) + 1 + 1 + 1 by omega]
    simp only [List.set_cons_succ]
theorem p3_take {xs o : List Int} {k : Nat} (h : k < o.length) : p3 xs (o.take (k + 1)) = p3 xs (o.take k) ++ [ix xs ((ix o k).toNat * 3), ix xs ((ix o k).toNat * 3 + 1), ix xs ((ix o k).toNat * 3 + 2)] := by
  have e : o.take (k + 1) = o.take k ++ [ix o k] := by rw [List.take_add_one]; simp [ix, List.getD, h]
  rw [e, p3_append]; rfl
theorem mks_snoc (k : Nat) : ints (mks 0 k) ++ [.int .i64 (k : Int)] = ints (mks 0 (k + 1)) := by
  have : mks 0 k ++ [(k : Int)] = mks 0 (k + 1) := by simp [mks, List.range_succ]
  rw [← this, ints_append]; rfl
/-- The number by which a gate is sorted. -/
def fkey (ks xs : List Int) (x : Int) : Int := ix ks x.toNat * 5 + ix xs (x.toNat * 3 + 1)
def fcmp (ks xs : List Int) (x y : Int) : Int := if ix ks x.toNat != ix ks y.toNat then ix ks x.toNat - ix ks y.toNat else ix xs (x.toNat * 3 + 1) - ix xs (y.toNat * 3 + 1)
def Fits (ks xs : List Int) (n : Nat) : Prop := ks.length = n ∧ ∀ i, i < n → (0 ≤ ix ks i ∧ ix ks i ≤ 1000000) ∧ 0 ≤ ix xs (i * 3 + 1) ∧ ix xs (i * 3 + 1) < 5
theorem fcmp_lt {ks xs : List Int} {n : Nat} (h : Fits ks xs n) {x y : Int} (h0 : 0 ≤ x) (h1 : x < n) (h2 : 0 ≤ y) (h3 : y < n) : fcmp ks xs x y < 0 ↔ fkey ks xs x < fkey ks xs y := by
  have a := h.2 x.toNat (by omega)
  have b := h.2 y.toNat (by omega)
  unfold fcmp fkey
  split
  · rename_i c; simp at c; omega
  · rename_i c; simp at c; omega
/-- The order. -/
noncomputable def ordF (key : Int → Int) (n : Nat) : List Int := Classical.epsilon fun o => o.Perm (mks 0 n) ∧ SrtT key o 0 n
theorem ordF_eq {key : Int → Int} {n : Nat} {o : List Int} (hp : o.Perm (mks 0 n)) (hs : SrtT key o 0 n) : o = ordF key n := by
  have h := Classical.epsilon_spec (p := fun o : List Int => o.Perm (mks 0 n) ∧ SrtT key o 0 n) ⟨o, hp, hs⟩
  have l1 : o.length = n := by rw [hp.length_eq]; simp
  have l2 : (ordF key n).length = n := by rw [show (ordF key n).length = (mks 0 n).length from h.1.length_eq]; simp
  exact srt_one (key := key) (by rw [l1]; exact hs) (by rw [l2]; exact h.2) (hp.trans h.1.symm)
theorem srt_congr {key key' : Int → Int} {o : List Int} {n : Nat} (hr : InR o n) (he : ∀ x : Int, 0 ≤ x → x < n → key x = key' x) (hs : SrtT key o 0 n) : SrtT key' o 0 n := by
  intro p q h0 h1 h2
  have a := hr.2 p (by omega)
  have b := hr.2 q (by omega)
  have := hs p q h0 h1 h2
  unfold Tk at this ⊢
  rw [he _ a.1 a.2, he _ b.1 b.2] at this
  exact this
noncomputable def foL (ks xs : List Int) (n : Nat) : List Int := p3 xs (ordF (fkey ks xs) n)

set_option maxHeartbeats 1000000 in
set_option maxRecDepth 20000 in
theorem fokey_spec {ba bc n : Nat} {N : Int} {va vg : Value} {ks xs : List Int} {w : World} {p : Nat} (hp : p < n) (hca : Sl w (.slice (some ⟨ba, 0, none⟩) 1 1) 1 1 [va]) (hcc : Sl w (.slice (some ⟨bc, 0, none⟩) 1 1) 2 1 [.int .i64 N, vg]) (hall : Sl w va 1 n (ints ks)) (hg : Sl w vg 3 n (ints xs)) : Calls Try.prog 24 #[.int .i64 (p : Nat), .pointer (some ⟨ba, 0, none⟩), .pointer (some ⟨bc, 0, none⟩)] w (Post No w fun v _ => v = .tuple #[.int .i64 (ix ks p), .int .i64 (ix xs (p * 3 + 1))]) := by
  have hkl := hall.len
  have hgl := hg.len
  obtain ⟨A, c, rfl, _, _⟩ := hall.form0
  obtain ⟨Ag, cg, rfl, _, _⟩ := hg.form0
  refine enter (n := 16) (args := [.int .i64 (((p : Nat) : Int)), .pointer (some ⟨ba, 0, none⟩), .pointer (some ⟨bc, 0, none⟩)]) Try.func24 rfl rfl (St.empty _ _) ?_
  refine Run.seq ?_
  refine Run.region ?_
  refine Run.q (v := .int .i64 0) rfl (OpQ.y (OpY.pure rfl)) ?_
  refine Run.q (v := .int .i64 0) rfl (OpQ.y (OpY.pure rfl)) ?_
  refine Run.done ?_
  refine Run.seq ?_
  obtain ⟨b, o, rfl⟩ := hall.opn (by omega)
  obtain ⟨bg, og, rfl⟩ := hg.opn (by omega)
  refine Run.draws (by kernel_rfl) (by kernel_rfl) ?_
  refine Lex.q (v := .slice (some ⟨b, o, none⟩) n c) rfl (OpQ.y (OpY.load1 Tone_43 rfl (Cells.env (k := 0) hca rfl (by decide) ⟨rfl, trivial⟩))) ?_
  refine Lex.q (v := .int .i64 (((p : Nat) : Int))) rfl (OpQ.y (OpY.pure rfl)) ?_
  refine Lex.q (v := .pointer (some ⟨b, o + p, none⟩)) rfl (OpQ.y (OpY.index (kk := p) Tsl_43 rfl rfl (by omega) (by omega) (by first | rfl | omega))) ?_
  refine Lex.q (v := .int .i64 (ix ks (p))) rfl (OpQ.y (OpY.load1 Tone_3 rfl (Cells.arg (k := p) hall rfl (by omega) (pre1 (by omega))))) ?_
  refine Lex.q (v := .pointer (some ⟨bc, 1, none⟩)) rfl (OpQ.y (OpY.fieldAddr Tfo_30_1 rfl rfl)) ?_
  refine Lex.q (v := .slice (some ⟨bg, og, none⟩) n cg) rfl (OpQ.y (OpY.load1 Tone_28 rfl (Cells.env (k := 1) hcc rfl (by decide) ⟨rfl, trivial⟩))) ?_
  refine Lex.q (v := .int .i64 (((p : Nat) : Int))) rfl (OpQ.y (OpY.pure rfl)) ?_
  refine Lex.q (v := .pointer (some ⟨bg, og + p * 3, none⟩)) rfl (OpQ.y (OpY.index (kk := p) Tsl_28 rfl rfl (by omega) (by omega) (by first | rfl | omega))) ?_
  refine Lex.q (v := .pointer (some ⟨bg, og + p * 3 + 1, none⟩)) rfl (OpQ.y (OpY.fieldAddr Tfo_47_1 rfl rfl)) ?_
  refine Lex.q (v := .int .i64 (ix xs (p * 3 + 1))) rfl (OpQ.y (OpY.load1 Tone_3 rfl (Cells.arg (k := p * 3 + 1) hg rfl (by omega) (pre1 (by omega))))) ?_
  refine Lex.q (v := .int .i64 (ix ks (p))) rfl (OpQ.y (OpY.pure rfl)) ?_
  refine Lex.q (v := .int .i64 (ix xs (p * 3 + 1))) rfl (OpQ.y (OpY.pure rfl)) ?_
  refine Lex.done ?_
  refine Run.ret ?_
  refine ⟨.tuple #[.int .i64 (ix ks (p)), .int .i64 (ix xs (p * 3 + 1))], [], Out.two rfl rfl rfl, (Some'.weak (.nil _)), ?_⟩
  rfl

set_option maxHeartbeats 1000000 in
set_option maxRecDepth 20000 in
theorem foclo_spec {ba bc n : Nat} {N : Int} {va vg : Value} {ks xs : List Int} {w : World} {bk p q : Nat} (hp : p < n) (hq : q < n) (hf : Fits ks xs n) (hca : Sl w (.slice (some ⟨ba, 0, none⟩) 1 1) 1 1 [va]) (hcc : Sl w (.slice (some ⟨bc, 0, none⟩) 1 1) 2 1 [.int .i64 N, vg]) (hall : Sl w va 1 n (ints ks)) (hg : Sl w vg 3 n (ints xs)) (hk : Sl w (.slice (some ⟨bk, 0, none⟩) 1 1) 1 1 [.func (.func 24) #[] #[.pointer (some ⟨ba, 0, none⟩), .pointer (some ⟨bc, 0, none⟩)]]) : Calls Try.prog 40 #[.int .i64 (p : Nat), .int .i64 (q : Nat), .pointer (some ⟨bk, 0, none⟩)] w (Post No w fun v _ => v = .int .i64 (fcmp ks xs (p : Nat) (q : Nat))) := by
  have ha := hf.2 p hp
  have hb := hf.2 q hq
  refine enter (n := 31) (args := [.int .i64 (((p : Nat) : Int)), .int .i64 (((q : Nat) : Int)), .pointer (some ⟨bk, 0, none⟩)]) Try.func40 rfl rfl (St.empty _ _) ?_
  refine Run.seq ?_
  refine Run.region ?_
  refine Run.q (v := .int .i64 0) rfl (OpQ.y (OpY.pure rfl)) ?_
  refine Run.done ?_
  refine Run.seq ?_
  refine Run.region ?_
  refine Run.q (v := .func (.func 24) #[] #[.pointer (some ⟨ba, 0, none⟩), .pointer (some ⟨bc, 0, none⟩)]) rfl (OpQ.y (OpY.load1 Tone_48 rfl (Cells.env (k := 0) hk rfl (by decide) ⟨rfl, trivial⟩))) ?_
  refine Run.q (v := .int .i64 (((p : Nat) : Int))) rfl (OpQ.y (OpY.pure rfl)) ?_
  refine Run.q (v := .tuple #[.int .i64 (ix ks p), .int .i64 (ix xs (p * 3 + 1))]) rfl (OpQ.call (vs := [.int .i64 (((p : Nat) : Int)), .pointer (some ⟨ba, 0, none⟩), .pointer (some ⟨bc, 0, none⟩)]) (caps := [.pointer (some ⟨ba, 0, none⟩), .pointer (some ⟨bc, 0, none⟩)]) Tcall_24 rfl rfl (fun w hs => fokey_spec hp (hs.sl hca) (hs.sl hcc) (hs.sl hall) (hs.sl hg))) ?_
  refine Run.q (v := .tuple #[.int .i64 (ix ks p), .int .i64 (ix xs (p * 3 + 1))]) rfl (OpQ.y (OpY.pure rfl)) ?_
  refine Run.q (v := .int .i64 (ix ks p)) rfl (OpQ.y (OpY.pure rfl)) ?_
  refine Run.q (v := .int .i64 (ix xs (p * 3 + 1))) rfl (OpQ.y (OpY.pure rfl)) ?_
  refine Run.q (v := .int .i64 (ix ks p)) rfl (OpQ.y (OpY.pure rfl)) ?_
  refine Run.q (v := .int .i64 (ix xs (p * 3 + 1))) rfl (OpQ.y (OpY.pure rfl)) ?_
  refine Run.done ?_
  refine Run.seq ?_
  refine Run.region ?_
  refine Run.q (v := .func (.func 24) #[] #[.pointer (some ⟨ba, 0, none⟩), .pointer (some ⟨bc, 0, none⟩)]) rfl (OpQ.y (OpY.load1 Tone_48 rfl (Cells.env (k := 0) hk rfl (by decide) ⟨rfl, trivial⟩))) ?_
  refine Run.q (v := .int .i64 (((q : Nat) : Int))) rfl (OpQ.y (OpY.pure rfl)) ?_
  refine Run.q (v := .tuple #[.int .i64 (ix ks q), .int .i64 (ix xs (q * 3 + 1))]) rfl (OpQ.call (vs := [.int .i64 (((q : Nat) : Int)), .pointer (some ⟨ba, 0, none⟩), .pointer (some ⟨bc, 0, none⟩)]) (caps := [.pointer (some ⟨ba, 0, none⟩), .pointer (some ⟨bc, 0, none⟩)]) Tcall_24 rfl rfl (fun w hs => fokey_spec hq (hs.sl hca) (hs.sl hcc) (hs.sl hall) (hs.sl hg))) ?_
  refine Run.q (v := .tuple #[.int .i64 (ix ks q), .int .i64 (ix xs (q * 3 + 1))]) rfl (OpQ.y (OpY.pure rfl)) ?_
  refine Run.q (v := .int .i64 (ix ks q)) rfl (OpQ.y (OpY.pure rfl)) ?_
  refine Run.q (v := .int .i64 (ix xs (q * 3 + 1))) rfl (OpQ.y (OpY.pure rfl)) ?_
  refine Run.q (v := .int .i64 (ix ks q)) rfl (OpQ.y (OpY.pure rfl)) ?_
  refine Run.q (v := .int .i64 (ix xs (q * 3 + 1))) rfl (OpQ.y (OpY.pure rfl)) ?_
  refine Run.done ?_
  refine Run.seq ?_
  refine Run.seq ?_
  refine Run.region ?_
  refine Run.q (v := .int .i64 (ix ks p)) rfl (OpQ.y (OpY.pure rfl)) ?_
  refine Run.q (v := .int .i64 (ix ks q)) rfl (OpQ.y (OpY.pure rfl)) ?_
  refine Run.q (v := .bool ((ix ks p) != (ix ks q))) rfl (OpQ.y (OpY.pure rfl)) ?_
  refine Run.done ?_
  refine Run.cond (b := (ix ks p) != (ix ks q)) rfl (fun h24 => ?_) (fun h24 => ?_)
  · have p24 := h24; try simp only [decide_eq_true_eq, decide_eq_false_iff_not, beq_iff_eq, bne_iff_ne, beq_eq_false_iff_ne, ne_eq, gt_iff_lt, ge_iff_le, Int.not_lt, Int.not_le, bne_eq_false_iff_eq, Bool.not_eq_true', Bool.not_eq_false', Bool.and_eq_true, Bool.and_eq_false_iff, Bool.or_eq_true, Bool.or_eq_false_iff, Decidable.not_not, List.cons.injEq, and_true] at p24
    refine Run.seq ?_
    refine Run.region ?_
    refine Run.q (v := .int .i64 (ix ks p)) rfl (OpQ.y (OpY.pure rfl)) ?_
    refine Run.q (v := .int .i64 (ix ks q)) rfl (OpQ.y (OpY.pure rfl)) ?_
    refine Run.q (v := .int .i64 ((ix ks p) - (ix ks q))) rfl (OpQ.y (OpY.sub rfl rfl rfl (by omega) (by omega))) ?_
    refine Run.q (v := .int .i64 ((ix ks p) - (ix ks q))) rfl (OpQ.y (OpY.pure rfl)) ?_
    refine Run.done ?_
    refine Run.ret ?_
    refine ⟨.int .i64 ((ix ks p) - (ix ks q)), [], Out.one rfl rfl, (Some'.weak (.nil _)), ?_⟩
    show Value.int _ _ = Value.int _ _
    unfold fcmp
    rw [Int.toNat_natCast, Int.toNat_natCast, if_pos h24]
  · have p24 := h24; try simp only [decide_eq_true_eq, decide_eq_false_iff_not, beq_iff_eq, bne_iff_ne, beq_eq_false_iff_ne, ne_eq, gt_iff_lt, ge_iff_le, Int.not_lt, Int.not_le, bne_eq_false_iff_eq, Bool.not_eq_true', Bool.not_eq_false', Bool.and_eq_true, Bool.and_eq_false_iff, Bool.or_eq_true, Bool.or_eq_false_iff, Decidable.not_not, List.cons.injEq, and_true] at p24
    refine Run.skip ?_
    refine Run.seq ?_
    refine Run.region ?_
    refine Run.q (v := .int .i64 (ix xs (p * 3 + 1))) rfl (OpQ.y (OpY.pure rfl)) ?_
    refine Run.q (v := .int .i64 (ix xs (q * 3 + 1))) rfl (OpQ.y (OpY.pure rfl)) ?_
    refine Run.q (v := .int .i64 ((ix xs (p * 3 + 1)) - (ix xs (q * 3 + 1)))) rfl (OpQ.y (OpY.sub rfl rfl rfl (by omega) (by omega))) ?_
    refine Run.q (v := .int .i64 ((ix xs (p * 3 + 1)) - (ix xs (q * 3 + 1)))) rfl (OpQ.y (OpY.pure rfl)) ?_
    refine Run.done ?_
    refine Run.ret ?_
    refine ⟨.int .i64 ((ix xs (p * 3 + 1)) - (ix xs (q * 3 + 1))), [], Out.one rfl rfl, (Some'.weak (.nil _)), ?_⟩
    show Value.int _ _ = Value.int _ _
    unfold fcmp
    rw [Int.toNat_natCast, Int.toNat_natCast, if_neg (by rw [h24]; decide)]


theorem fo_cmp {ba bc bk n m s : Nat} {N : Int} {va vg v : Value} {ks xs : List Int} {w0 w : World} {H2 : List Res} {e t : TypeId} {zs : List Value} (hf : Fits ks xs n) (hca : Sl w0 (.slice (some ⟨ba, 0, none⟩) 1 1) 1 1 [va]) (hcc : Sl w0 (.slice (some ⟨bc, 0, none⟩) 1 1) 2 1 [.int .i64 N, vg]) (hall : Sl w0 va 1 n (ints ks)) (hg : Sl w0 vg 3 n (ints xs))
    (hs : St No w0 w (.own v e s m zs :: H2)) (hm : Res.blk bk t [.func (.func 24) #[] #[.pointer (some ⟨ba, 0, none⟩), .pointer (some ⟨bc, 0, none⟩)]] ∈ H2) : ∀ g, v.ownBlock = some g → CmpOk g n (fcmp ks xs) (fkey ks xs) (.pointer (some ⟨bk, 0, none⟩)) w := by
  intro g hgv
  refine ⟨fun x y h0 h1 h2 h3 => fcmp_lt hf h0 h1 h2 h3, fun w' hw' x y h0 h1 h2 h3 => ?_⟩
  have hs2 : St No w0 w' H2 := by
    have h4 : St (Of [.own v e s m zs]) w w' [] := hw'.mono fun k _ hk => ⟨_, List.mem_singleton.2 rfl, by rw [hk]; exact hgv⟩
    exact hs.callM (H1 := [.own v e s m zs]) (H' := []) h4
  obtain ⟨p, rfl⟩ : ∃ p : Nat, x = p := ⟨x.toNat, by omega⟩
  obtain ⟨q, rfl⟩ : ∃ q : Nat, y = q := ⟨y.toNat, by omega⟩
  exact foclo_spec (by omega) (by omega) hf (hs2.sl hca) (hs2.sl hcc) (hs2.sl hall) (hs2.sl hg) (hs2.slBlk hm)

set_option maxHeartbeats 1000000 in
set_option maxRecDepth 20000 in
theorem sortedBy_spec {ba bc n : Nat} {N : Int} {va vg : Value} {ks xs : List Int} {w : World} (hn : n ≤ 1000000) (hf : Fits ks xs n) (hca : Sl w (.slice (some ⟨ba, 0, none⟩) 1 1) 1 1 [va]) (hcc : Sl w (.slice (some ⟨bc, 0, none⟩) 1 1) 2 1 [.int .i64 N, vg]) (hall : Sl w va 1 n (ints ks)) (hg : Sl w vg 3 n (ints xs)) : Calls Try.prog 23 #[.agg #[.int .i64 N, vg], .func (.func 24) #[] #[.pointer (some ⟨ba, 0, none⟩), .pointer (some ⟨bc, 0, none⟩)]] w (Post No w fun v H => ∃ u, v = .agg #[.int .i64 N, u] ∧ H = [.own u 47 3 n (ints (foL ks xs n))]) := by
  have hgl := hg.len
  obtain ⟨Ag, cg, rfl, _, _⟩ := hg.form0
  refine enter (n := 46) (args := [.agg #[.int .i64 N, .slice Ag n cg], .func (.func 24) #[] #[.pointer (some ⟨ba, 0, none⟩), .pointer (some ⟨bc, 0, none⟩)]]) Try.func23 rfl rfl (St.empty _ _) ?_
  refine Run.seq ?_
  refine Run.region ?_
  refine Run.step rfl (OpStep.box (us := [.int .i64 N, .slice Ag n cg]) rfl fun b1 => ?_)
  refine Run.step rfl (OpStep.box (us := [.func (.func 24) #[] #[.pointer (some ⟨ba, 0, none⟩), .pointer (some ⟨bc, 0, none⟩)]]) rfl fun b2 => ?_)
  refine Run.step rfl (OpStep.alloc (zs := [.int .i64 0, .slice none 0 0]) Tzero_30 fun b3 => ?_)
  refine Run.done ?_
  refine Run.seq ?_
  refine Run.region ?_
  refine Run.step rfl (OpStep.buildSlice (us := []) Tsl_43 (by decide) (by decide) rfl rfl fun b4 => ?_)
  refine Run.q (v := .slice (some ⟨b4, 0, none⟩) 0 0) rfl (OpQ.y (OpY.pure rfl)) ?_
  refine Run.done ?_
  refine Run.seq ?_
  refine Run.seq ?_
  refine Run.region ?_
  refine Run.q (v := .pointer (some ⟨b1, 1, none⟩)) rfl (OpQ.y (OpY.fieldAddr Tfo_30_1 rfl rfl)) ?_
  refine Run.q (v := .slice Ag n cg) rfl (OpQ.y (OpY.load1 Tone_28 rfl (Cells.blk (.tail _ (.tail _ (.tail _ (List.Mem.head _)))) ⟨rfl, trivial⟩))) ?_
  refine Run.q (v := .int .i64 (((n : Nat) : Int))) rfl (OpQ.y (OpY.len Tsl_28 rfl)) ?_
  refine Run.q (v := .int .i64 0) rfl (OpQ.y (OpY.pure rfl)) ?_
  refine Run.done ?_
  refine Run.block ?_
  refine Run.loop (ι := Nat × Value) [5, 6, 14, 15, 16, 17, 18, 19, 20, 21] (fun ⟨k, v⟩ => [(5, v), (14, .int .i64 (((k : Nat) : Int)))]) (fun ⟨k, v⟩ => [.own v 3 1 k (ints (mks 0 k)), .blk b3 30 [.int .i64 0, .slice none 0 0], .blk b2 48 [.func (.func 24) #[] #[.pointer (some ⟨ba, 0, none⟩), .pointer (some ⟨bc, 0, none⟩)]], .blk b1 30 [.int .i64 N, .slice Ag n cg]]) (fun ⟨k, v⟩ => k ≤ n) (fun ⟨k, v⟩ => n - k) (0, .slice (some ⟨b4, 0, none⟩) 0 0) ?_ ?_ ?_ ?_
  · exact Nat.zero_le _
  · exact ⟨rfl, rfl, trivial⟩
  · exact (Some'.weak (.takeEq (by first | rfl | simp) (.take (.take (.take (.nil _))))))
  · rintro ⟨k, v⟩ fr hinv
    show Run _ _ (over _ _ [(5, v), (14, .int .i64 (((k : Nat) : Int)))] fr) [.own v 3 1 k (ints (mks 0 k)), .blk b3 30 [.int .i64 0, .slice none 0 0], .blk b2 48 [.func (.func 24) #[] #[.pointer (some ⟨ba, 0, none⟩), .pointer (some ⟨bc, 0, none⟩)]], .blk b1 30 [.int .i64 N, .slice Ag n cg]]
    try dsimp only at hinv
    refine Run.seq ?_
    refine Run.region ?_
    refine Run.q (v := .bool (decide ((((k : Nat) : Int)) < (((n : Nat) : Int))))) rfl (OpQ.y (OpY.pure rfl)) ?_
    refine Run.done ?_
    refine Run.seq ?_
    refine Run.cond (b := decide ((((k : Nat) : Int)) < (((n : Nat) : Int)))) rfl (fun h15 => ?_) (fun h15 => ?_)
    · have p15 := h15; try simp only [decide_eq_true_eq, decide_eq_false_iff_not, beq_iff_eq, bne_iff_ne, beq_eq_false_iff_ne, ne_eq, gt_iff_lt, ge_iff_le, Int.not_lt, Int.not_le, bne_eq_false_iff_eq, Bool.not_eq_true', Bool.not_eq_false', Bool.and_eq_true, Bool.and_eq_false_iff, Bool.or_eq_true, Bool.or_eq_false_iff, Decidable.not_not, List.cons.injEq, and_true] at p15
      have hkn : k < n := by omega
      refine Run.skip ?_
      refine Run.seq ?_
      refine Run.block ?_
      refine Run.seq ?_
      refine Run.region ?_
      refine Run.q (v := .int .i64 (((k : Nat) : Int))) rfl (OpQ.y (OpY.pure rfl)) ?_
      refine Run.q (v := .int .i64 (((k : Nat) : Int))) rfl (OpQ.y (OpY.pure rfl)) ?_
      refine Run.done ?_
      refine Run.region ?_
      refine Run.q (v := v) rfl (OpQ.y (OpY.pure rfl)) ?_
      refine Run.q (v := .int .i64 (((k : Nat) : Int))) rfl (OpQ.y (OpY.pure rfl)) ?_
      refine Run.step rfl (OpStep.buildSlice (us := [.int .i64 (((k : Nat) : Int))]) Tsl_43 (by decide) (by decide) ⟨rfl, [.int .i64 (((k : Nat) : Int))], _, rfl, rfl, rfl, rfl⟩ rfl fun b5 => ?_)
      refine Run.step rfl (OpStep.append (H1 := [.own (.slice (some ⟨b5, 0, none⟩) 1 1) 3 1 1 ([.int .i64 (((k : Nat) : Int))])]) (H2 := [.blk b3 30 [.int .i64 0, .slice none 0 0], .blk b2 48 [.func (.func 24) #[] #[.pointer (some ⟨ba, 0, none⟩), .pointer (some ⟨bc, 0, none⟩)]], .blk b1 30 [.int .i64 N, .slice Ag n cg]]) (v := v) (u := .slice (some ⟨b5, 0, none⟩) 1 1) (n := k) (m := 1) (xs := ints (mks 0 k)) (ys := [.int .i64 (((k : Nat) : Int))]) Tsl_43 (by decide) rfl rfl rfl rfl (fun w hs => hs.slOwn (.head _)) (by simp [Value.oneCell']) (by omega) (by simp only [maxLen]; omega) fun av1 hnav1 => ?_)
      refine Run.weak (H' := [.own (.slice (some ⟨b5, 0, none⟩) 1 1) 3 1 1 ([.int .i64 (((k : Nat) : Int))]), .own av1 3 1 (k + 1) (ints (mks 0 (k + 1))), .blk b3 30 [.int .i64 0, .slice none 0 0], .blk b2 48 [.func (.func 24) #[] #[.pointer (some ⟨ba, 0, none⟩), .pointer (some ⟨bc, 0, none⟩)]], .blk b1 30 [.int .i64 N, .slice Ag n cg]]) (Some'.weak (.take (.takeEq (by rw [← mks_snoc]) (.take (.take (.take (.nil _))))))) ?_ ⟨_, _, rfl, fun _ => nofun, fun _ => nofun⟩
      refine Run.q (v := av1) rfl (OpQ.y (OpY.pure rfl)) ?_
      refine Run.done ?_
      refine Run.blockEnd ?_
      refine Run.region ?_
      refine Run.q (v := .int .i64 ((((k : Nat) : Int)) + 1)) rfl (OpQ.y (OpY.add rfl rfl rfl (by omega) (by omega))) ?_
      refine Run.q (v := .int .i64 ((((k : Nat) : Int)) + 1)) rfl (OpQ.y (OpY.pure rfl)) ?_
      refine Run.done ?_
      refine Run.goal ⟨(by repeat (first | exact Same.refl _ _ | refine Same.put rfl ?_ | refine Same.over rfl rfl ?_)), (k + 1, av1), ?_, ?_, ?_, ?_⟩
      · exact hkn
      · dsimp only; omega
      · exact ⟨(by first | rfl | (congr 1; omega) | simp), (by first | rfl | (congr 1; omega) | simp), trivial⟩
      · exact (Some'.weak (.skip (.takeEq (by first | rfl | simp) (.take (.take (.take (.nil _)))))))
    · have p15 := h15; try simp only [decide_eq_true_eq, decide_eq_false_iff_not, beq_iff_eq, bne_iff_ne, beq_eq_false_iff_ne, ne_eq, gt_iff_lt, ge_iff_le, Int.not_lt, Int.not_le, bne_eq_false_iff_eq, Bool.not_eq_true', Bool.not_eq_false', Bool.and_eq_true, Bool.and_eq_false_iff, Bool.or_eq_true, Bool.or_eq_false_iff, Decidable.not_not, List.cons.injEq, and_true] at p15
      have hkn : k = n := by omega
      refine Run.exit rfl ?_
      refine Run.seq ?_
      refine Run.weak (H' := [.own v 3 1 n (ints (mks 0 n)), .blk b3 30 [.int .i64 0, .slice none 0 0], .blk b2 48 [.func (.func 24) #[] #[.pointer (some ⟨ba, 0, none⟩), .pointer (some ⟨bc, 0, none⟩)]], .blk b1 30 [.int .i64 N, .slice Ag n cg]]) (Some'.weak (.takeEq (by rw [hkn]) (.take (.take (.take (.nil _)))))) ?_ ⟨_, _, rfl, fun _ => nofun, fun _ => nofun⟩
      refine Run.region ?_
      refine Run.q (v := v) rfl (OpQ.y (OpY.pure rfl)) ?_
      refine Run.q (v := .func (.func 40) #[] #[.pointer (some ⟨b2, 0, none⟩)]) rfl (OpQ.y (OpY.makeFunc (caps := [.pointer (some ⟨b2, 0, none⟩)]) rfl)) ?_
      refine Run.step rfl (OpStep.callM (H1 := [.own v 3 1 n (ints (mks 0 n))]) (H2 := [.blk b3 30 [.int .i64 0, .slice none 0 0], .blk b2 48 [.func (.func 24) #[] #[.pointer (some ⟨ba, 0, none⟩), .pointer (some ⟨bc, 0, none⟩)]], .blk b1 30 [.int .i64 N, .slice Ag n cg]]) (vs := [v, .func (.func 40) #[] #[.pointer (some ⟨b2, 0, none⟩)]]) (caps := []) Tcall_39 rfl rfl (Weak.refl _) (fun w hs => SortStable_spec (by omega) (fo_cmp hf hca hcc hall hg hs (.tail _ (.head _))) (hs.holds _ (.head _))) ?_)
      rintro _ _ ⟨ys, hys, rfl, rfl⟩
      show Run _ _ (putF _ _ _ (.tuple #[])) [.own v 3 1 n (ints ys), .blk b3 30 [.int .i64 0, .slice none 0 0], .blk b2 48 [.func (.func 24) #[] #[.pointer (some ⟨ba, 0, none⟩), .pointer (some ⟨bc, 0, none⟩)]], .blk b1 30 [.int .i64 N, .slice Ag n cg]]
      have hri := inR_perm hys.1
      have hyl := hri.1
      have hyF := ordF_eq hys.1 hys.2
      refine Run.done ?_
      refine Run.seq ?_
      refine Run.region ?_
      refine Run.q (v := .pointer (some ⟨b1, 0, none⟩)) rfl (OpQ.y (OpY.fieldAddr Tfo_30_0 rfl rfl)) ?_
      refine Run.q (v := .int .i64 N) rfl (OpQ.y (OpY.load1 Tone_3 rfl (Cells.blk (.tail _ (.tail _ (.tail _ (List.Mem.head _)))) ⟨rfl, trivial⟩))) ?_
      refine Run.q (v := .agg #[.int .i64 N, .slice none 0 0]) rfl (OpQ.y (OpY.build (cs := [.int .i64 N, .slice none 0 0]) (by kernel_rfl))) ?_
      refine Run.step rfl (OpStep.alloc (zs := [.int .i64 0, .slice none 0 0]) Tzero_30 fun b6 => ?_)
      refine Run.step rfl (OpStep.storeAll (us := [.int .i64 N, .slice none 0 0]) Tsize_30 rfl rfl rfl (.here _) rfl ?_)
      refine Run.done ?_
      refine Run.seq ?_
      refine Run.seq ?_
      refine Run.region ?_
      refine Run.q (v := v) rfl (OpQ.y (OpY.pure rfl)) ?_
      refine Run.formOwn (.tail _ (List.Mem.head _)) (fun A_v1 c_v1 hv hcapc_v1 hmaxc_v1 => ?_) (fun _ _ _ => ⟨nofun, nofun, nofun⟩)
      subst hv
      refine Run.q (v := .int .i64 (((n : Nat) : Int))) rfl (OpQ.y (OpY.len Tsl_43 rfl)) ?_
      refine Run.q (v := .int .i64 0) rfl (OpQ.y (OpY.pure rfl)) ?_
      refine Run.done ?_
      refine Run.block ?_
      refine Run.weak (H' := [.own (.slice none 0 0) 47 3 0 ([]), .blk b6 30 [.int .i64 N, .slice none 0 0], .own (.slice A_v1 n c_v1) 3 1 n (ints ys), .blk b3 30 [.int .i64 0, .slice none 0 0], .blk b2 48 [.func (.func 24) #[] #[.pointer (some ⟨ba, 0, none⟩), .pointer (some ⟨bc, 0, none⟩)]], .blk b1 30 [.int .i64 N, .slice Ag n cg]]) (Weak.nilOwn _ _) ?_ ⟨_, _, rfl, fun _ => nofun, fun _ => nofun⟩
      refine Run.loop (ι := Nat × Value) [9, 30, 31, 32, 33, 34, 35, 36, 37, 38, 39, 40, 41, 42, 43, 44] (fun ⟨m, u⟩ => [(30, .int .i64 (((m : Nat) : Int)))]) (fun ⟨m, u⟩ => [.own u 47 3 m (ints (p3 xs (ys.take m))), .own (.slice A_v1 n c_v1) 3 1 n (ints ys), .blk b6 30 [.int .i64 N, u], .blk b3 30 [.int .i64 0, .slice none 0 0], .blk b2 48 [.func (.func 24) #[] #[.pointer (some ⟨ba, 0, none⟩), .pointer (some ⟨bc, 0, none⟩)]], .blk b1 30 [.int .i64 N, .slice Ag n cg]]) (fun ⟨m, u⟩ => m ≤ n) (fun ⟨m, u⟩ => n - m) (0, .slice none 0 0) ?_ ?_ ?_ ?_
      · exact Nat.zero_le _
      · exact ⟨rfl, trivial⟩
      · exact (((((((Weak.front [.own (.slice none 0 0) 47 3 0 ([]), .blk b6 30 [.int .i64 N, .slice none 0 0], .own (.slice A_v1 n c_v1) 3 1 n (ints ys), .blk b3 30 [.int .i64 0, .slice none 0 0], .blk b2 48 [.func (.func 24) #[] #[.pointer (some ⟨ba, 0, none⟩), .pointer (some ⟨bc, 0, none⟩)]]] (.blk b1 30 [.int .i64 N, .slice Ag n cg]) []).trans (Weak.front [.blk b1 30 [.int .i64 N, .slice Ag n cg], .own (.slice none 0 0) 47 3 0 ([]), .blk b6 30 [.int .i64 N, .slice none 0 0], .own (.slice A_v1 n c_v1) 3 1 n (ints ys), .blk b3 30 [.int .i64 0, .slice none 0 0]] (.blk b2 48 [.func (.func 24) #[] #[.pointer (some ⟨ba, 0, none⟩), .pointer (some ⟨bc, 0, none⟩)]]) [])).trans (Weak.front [.blk b2 48 [.func (.func 24) #[] #[.pointer (some ⟨ba, 0, none⟩), .pointer (some ⟨bc, 0, none⟩)]], .blk b1 30 [.int .i64 N, .slice Ag n cg], .own (.slice none 0 0) 47 3 0 ([]), .blk b6 30 [.int .i64 N, .slice none 0 0], .own (.slice A_v1 n c_v1) 3 1 n (ints ys)] (.blk b3 30 [.int .i64 0, .slice none 0 0]) [])).trans (Weak.front [.blk b3 30 [.int .i64 0, .slice none 0 0], .blk b2 48 [.func (.func 24) #[] #[.pointer (some ⟨ba, 0, none⟩), .pointer (some ⟨bc, 0, none⟩)]], .blk b1 30 [.int .i64 N, .slice Ag n cg], .own (.slice none 0 0) 47 3 0 ([])] (.blk b6 30 [.int .i64 N, .slice none 0 0]) [.own (.slice A_v1 n c_v1) 3 1 n (ints ys)])).trans (Weak.front [.blk b6 30 [.int .i64 N, .slice none 0 0], .blk b3 30 [.int .i64 0, .slice none 0 0], .blk b2 48 [.func (.func 24) #[] #[.pointer (some ⟨ba, 0, none⟩), .pointer (some ⟨bc, 0, none⟩)]], .blk b1 30 [.int .i64 N, .slice Ag n cg], .own (.slice none 0 0) 47 3 0 ([])] (.own (.slice A_v1 n c_v1) 3 1 n (ints ys)) [])).trans (Weak.front [.own (.slice A_v1 n c_v1) 3 1 n (ints ys), .blk b6 30 [.int .i64 N, .slice none 0 0], .blk b3 30 [.int .i64 0, .slice none 0 0], .blk b2 48 [.func (.func 24) #[] #[.pointer (some ⟨ba, 0, none⟩), .pointer (some ⟨bc, 0, none⟩)]], .blk b1 30 [.int .i64 N, .slice Ag n cg]] (.own (.slice none 0 0) 47 3 0 ([])) [])).trans (Some'.weak (.takeEq (by first | rfl | simp) (.take (.takeEq (by first | rfl | simp) (.take (.take (.take (.nil _)))))))))
      · rintro ⟨m, u⟩ fr hinv
        show Run _ _ (over _ _ [(30, .int .i64 (((m : Nat) : Int)))] fr) [.own u 47 3 m (ints (p3 xs (ys.take m))), .own (.slice A_v1 n c_v1) 3 1 n (ints ys), .blk b6 30 [.int .i64 N, u], .blk b3 30 [.int .i64 0, .slice none 0 0], .blk b2 48 [.func (.func 24) #[] #[.pointer (some ⟨ba, 0, none⟩), .pointer (some ⟨bc, 0, none⟩)]], .blk b1 30 [.int .i64 N, .slice Ag n cg]]
        try dsimp only at hinv
        refine Run.seq ?_
        refine Run.region ?_
        refine Run.q (v := .bool (decide ((((m : Nat) : Int)) < (((n : Nat) : Int))))) rfl (OpQ.y (OpY.pure rfl)) ?_
        refine Run.done ?_
        refine Run.seq ?_
        refine Run.cond (b := decide ((((m : Nat) : Int)) < (((n : Nat) : Int)))) rfl (fun h31 => ?_) (fun h31 => ?_)
        · have p31 := h31; try simp only [decide_eq_true_eq, decide_eq_false_iff_not, beq_iff_eq, bne_iff_ne, beq_eq_false_iff_ne, ne_eq, gt_iff_lt, ge_iff_le, Int.not_lt, Int.not_le, bne_eq_false_iff_eq, Bool.not_eq_true', Bool.not_eq_false', Bool.and_eq_true, Bool.and_eq_false_iff, Bool.or_eq_true, Bool.or_eq_false_iff, Decidable.not_not, List.cons.injEq, and_true] at p31
          have hltm : m < n := by omega
          refine Run.openOwn (.tail _ (List.Mem.head _)) (by omega) (fun g2 cg2 hvg2 hcapg2 _ => ?_) (fun _ _ _ => ⟨nofun, nofun, nofun⟩)
          injection hvg2 with hAg2 _ hcg2; subst hAg2; subst hcg2
          have hym := hri.2 m hltm
          obtain ⟨bg, og, rfl⟩ := hg.opn (by omega)
          refine Run.skip ?_
          refine Run.seq ?_
          refine Run.block ?_
          refine Run.seq ?_
          refine Run.region ?_
          refine Run.q (v := .pointer (some ⟨g2, m, none⟩)) rfl (OpQ.y (OpY.index (kk := m) Tsl_43 rfl rfl (by omega) (by omega) (by first | rfl | omega))) ?_
          refine Run.q (v := .int .i64 (ix ys (m))) rfl (OpQ.y (OpY.load1 Tone_3 rfl (Cells.own0 (.tail _ (List.Mem.head _)) (pre1 (by omega))))) ?_
          refine Run.q (v := .int .i64 (ix ys (m))) rfl (OpQ.y (OpY.pure rfl)) ?_
          refine Run.done ?_
          refine Run.heldB (base := [.own (.slice (some ⟨g2, 0, none⟩) n c_v1) 3 1 n (ints ys), .blk b3 30 [.int .i64 0, .slice none 0 0], .blk b2 48 [.func (.func 24) #[] #[.pointer (some ⟨ba, 0, none⟩), .pointer (some ⟨bc, 0, none⟩)]], .blk b1 30 [.int .i64 N, .slice (some ⟨bg, og, none⟩) n cg]]) (by kernel_rfl) ?_
          refine DW.take (i := 0) (v := .pointer (some ⟨b6, 1, none⟩)) rfl (by kernel_rfl) (by kernel_rfl) (by kernel_rfl) (fun _ _ _ h => h) (Some'.weak (.skip (.take (.skip (.take (.take (.take (.nil _)))))))) rfl (OpY.fieldAddr Tfo_30_1 rfl rfl) ?_
          refine DW.take (i := 2) (v := .pointer (some ⟨b1, 1, none⟩)) rfl (by kernel_rfl) (by kernel_rfl) (by kernel_rfl) (fun _ _ _ h => h) (Some'.weak (.skip (.take (.skip (.take (.take (.take (.nil _)))))))) rfl (OpY.fieldAddr Tfo_30_1 rfl rfl) ?_
          refine DW.take (i := 3) (v := .slice (some ⟨bg, og, none⟩) n cg) rfl (by kernel_rfl) (by kernel_rfl) (by kernel_rfl) (fun _ _ _ h => h) (Some'.weak (.skip (.take (.skip (.take (.take (.take (.nil _)))))))) rfl (OpY.load1 Tone_28 rfl (Cells.blk (.tail _ (.tail _ (.tail _ (List.Mem.head _)))) ⟨rfl, trivial⟩)) ?_
          refine DW.take (i := 4) (v := .int .i64 (ix ys (m))) rfl (by kernel_rfl) (by kernel_rfl) (by kernel_rfl) (fun _ _ _ h => h) (Some'.weak (.skip (.take (.skip (.take (.take (.take (.nil _)))))))) rfl (OpY.pure rfl) ?_
          refine DW.take (i := 5) (v := .pointer (some ⟨bg, og + ((ix ys m).toNat) * 3, none⟩)) rfl (by kernel_rfl) (by kernel_rfl) (by kernel_rfl) (fun _ _ _ h => h) (Some'.weak (.skip (.take (.skip (.take (.take (.take (.nil _)))))))) rfl (OpY.index (kk := (ix ys m).toNat) Tsl_28 rfl rfl (by omega) (by omega) (by first | rfl | omega)) ?_
          refine DW.take (i := 6) (v := .agg #[.int .i64 (ix xs (((ix ys m).toNat) * 3)), .int .i64 (ix xs (((ix ys m).toNat) * 3 + 1)), .int .i64 (ix xs (((ix ys m).toNat) * 3 + 2))]) rfl (by kernel_rfl) (by kernel_rfl) (by kernel_rfl) (fun _ _ _ h => h) (Some'.weak (.skip (.take (.skip (.take (.take (.take (.nil _)))))))) rfl (OpY.loadN (cs := [.int .i64 (ix xs (((ix ys m).toNat) * 3)), .int .i64 (ix xs (((ix ys m).toNat) * 3 + 1)), .int .i64 (ix xs (((ix ys m).toNat) * 3 + 2))]) Tagg_47 rfl (Cells.arg (k := ((ix ys m).toNat) * 3) hg rfl (by omega) (pre3 (by omega)))) ?_
          refine DW.two (i := 1) (j := 7) (by kernel_rfl) rfl rfl rfl rfl ?_ ?_
          · refine OpStep.q (v := u) (OpQ.y (OpY.load1 Tone_28 rfl (Cells.blk (.tail _ (.tail _ (List.Mem.head _))) ⟨rfl, trivial⟩))) ?_
            refine ⟨(Some'.weak (.skip (.take (.skip (.take (.take (.take (.nil _)))))))), ?_⟩
            refine DW.step (i := 7) (by kernel_rfl) rfl rfl (OpStep.buildSlice (us := [.int .i64 (ix xs (((ix ys m).toNat) * 3)), .int .i64 (ix xs (((ix ys m).toNat) * 3 + 1)), .int .i64 (ix xs (((ix ys m).toNat) * 3 + 2))]) Tsl_28 (by decide) (by decide) ⟨rfl, [.int .i64 (ix xs (((ix ys m).toNat) * 3)), .int .i64 (ix xs (((ix ys m).toNat) * 3 + 1)), .int .i64 (ix xs (((ix ys m).toNat) * 3 + 2))], _, rfl, rfl, rfl, rfl⟩ rfl fun b7 => ?_)
            refine ⟨(Some'.weak (.skip (.skip (.take (.skip (.take (.take (.take (.nil _))))))))), ?_⟩
            refine DW.step (i := 8) (by kernel_rfl) rfl rfl (OpStep.append (H1 := [.own (.slice (some ⟨b7, 0, none⟩) 1 1) 47 3 1 ([.int .i64 (ix xs (((ix ys m).toNat) * 3)), .int .i64 (ix xs (((ix ys m).toNat) * 3 + 1)), .int .i64 (ix xs (((ix ys m).toNat) * 3 + 2))])]) (H2 := [.own (.slice (some ⟨g2, 0, none⟩) n c_v1) 3 1 n (ints ys), .blk b6 30 [.int .i64 N, u], .blk b3 30 [.int .i64 0, .slice none 0 0], .blk b2 48 [.func (.func 24) #[] #[.pointer (some ⟨ba, 0, none⟩), .pointer (some ⟨bc, 0, none⟩)]], .blk b1 30 [.int .i64 N, .slice (some ⟨bg, og, none⟩) n cg]]) (v := u) (u := .slice (some ⟨b7, 0, none⟩) 1 1) (n := m) (m := 1) (xs := ints (p3 xs (ys.take m))) (ys := [.int .i64 (ix xs (((ix ys m).toNat) * 3)), .int .i64 (ix xs (((ix ys m).toNat) * 3 + 1)), .int .i64 (ix xs (((ix ys m).toNat) * 3 + 2))]) Tsl_28 (by decide) rfl rfl rfl rfl (fun w hs => hs.slOwn (.head _)) (by simp [Value.oneCell']) (by omega) (by simp only [maxLen]; omega) fun av2 hnav2 => ?_)
            refine DW.weakS (H' := [.own (.slice (some ⟨b7, 0, none⟩) 1 1) 47 3 1 ([.int .i64 (ix xs (((ix ys m).toNat) * 3)), .int .i64 (ix xs (((ix ys m).toNat) * 3 + 1)), .int .i64 (ix xs (((ix ys m).toNat) * 3 + 2))]), .own av2 47 3 (m + 1) (ints (p3 xs (ys.take (m + 1)))), .own (.slice (some ⟨g2, 0, none⟩) n c_v1) 3 1 n (ints ys), .blk b6 30 [.int .i64 N, u], .blk b3 30 [.int .i64 0, .slice none 0 0], .blk b2 48 [.func (.func 24) #[] #[.pointer (some ⟨ba, 0, none⟩), .pointer (some ⟨bc, 0, none⟩)]], .blk b1 30 [.int .i64 N, .slice (some ⟨bg, og, none⟩) n cg]]) (Some'.weak (.take (.takeEq (by rw [p3_take (by omega), ints_append]; rfl) (.take (.take (.take (.take (.take (.nil _))))))))) ?_
            refine ⟨(Some'.weak (.skip (.skip (.take (.skip (.take (.take (.take (.nil _))))))))), ?_⟩
            refine DW.take (i := 9) (v := .pointer (some ⟨b6, 1, none⟩)) rfl (by kernel_rfl) (by kernel_rfl) (by kernel_rfl) (fun _ _ _ h => h) (Some'.weak (.skip (.skip (.take (.skip (.take (.take (.take (.nil _))))))))) rfl (OpY.fieldAddr Tfo_30_1 rfl rfl) ?_
            refine DW.formOwn (.tail _ (List.Mem.head _)) (fun A_av21 c_av21 hv hcapc_av21 hmaxc_av21 => ?_)
            subst hv
            refine DW.step (i := 10) (by kernel_rfl) rfl rfl (OpStep.store (us := [.slice A_av21 (m + 1) c_av21]) Tsize_28 rfl rfl rfl (.there _ (.there _ (.there _ (.here _)))) (by simp only [List.length_cons, List.length_nil]; omega) ?_)
            show Weak [.own (.slice (some ⟨b7, 0, none⟩) 1 1) 47 3 1 ([.int .i64 (ix xs (((ix ys m).toNat) * 3)), .int .i64 (ix xs (((ix ys m).toNat) * 3 + 1)), .int .i64 (ix xs (((ix ys m).toNat) * 3 + 2))]), .own (.slice A_av21 (m + 1) c_av21) 47 3 (m + 1) (ints (p3 xs (ys.take (m + 1)))), .own (.slice (some ⟨g2, 0, none⟩) n c_v1) 3 1 n (ints ys), .blk b6 30 [.int .i64 N, .slice A_av21 (m + 1) c_av21], .blk b3 30 [.int .i64 0, .slice none 0 0], .blk b2 48 [.func (.func 24) #[] #[.pointer (some ⟨ba, 0, none⟩), .pointer (some ⟨bc, 0, none⟩)]], .blk b1 30 [.int .i64 N, .slice (some ⟨bg, og, none⟩) n cg]] _ ∧ DW _ _ _ _ _ _ _ [.own (.slice (some ⟨b7, 0, none⟩) 1 1) 47 3 1 ([.int .i64 (ix xs (((ix ys m).toNat) * 3)), .int .i64 (ix xs (((ix ys m).toNat) * 3 + 1)), .int .i64 (ix xs (((ix ys m).toNat) * 3 + 2))]), .own (.slice A_av21 (m + 1) c_av21) 47 3 (m + 1) (ints (p3 xs (ys.take (m + 1)))), .own (.slice (some ⟨g2, 0, none⟩) n c_v1) 3 1 n (ints ys), .blk b6 30 [.int .i64 N, .slice A_av21 (m + 1) c_av21], .blk b3 30 [.int .i64 0, .slice none 0 0], .blk b2 48 [.func (.func 24) #[] #[.pointer (some ⟨ba, 0, none⟩), .pointer (some ⟨bc, 0, none⟩)]], .blk b1 30 [.int .i64 N, .slice (some ⟨bg, og, none⟩) n cg]]
            refine ⟨(Some'.weak (.skip (.skip (.take (.skip (.take (.take (.take (.nil _))))))))), ?_⟩
            refine DW.done (by kernel_rfl) ?_
            refine Run.blockEnd ?_
            refine Run.region ?_
            refine Run.q (v := .int .i64 ((((m : Nat) : Int)) + 1)) rfl (OpQ.y (OpY.add rfl rfl rfl (by omega) (by omega))) ?_
            refine Run.q (v := .int .i64 ((((m : Nat) : Int)) + 1)) rfl (OpQ.y (OpY.pure rfl)) ?_
            refine Run.done ?_
            refine Run.goal ⟨(by repeat (first | exact Same.refl _ _ | refine Same.put rfl ?_ | refine Same.over rfl rfl ?_)), (m + 1, .slice A_av21 (m + 1) c_av21), ?_, ?_, ?_, ?_⟩
            · exact hltm
            · dsimp only; omega
            · exact ⟨(by first | rfl | (congr 1; omega) | simp), trivial⟩
            · exact (Some'.weak (.skip (.takeEq (by first | rfl | simp) (.takeEq (by first | rfl | simp) (.takeEq (by first | rfl | simp) (.take (.take (.takeEq (by first | rfl | simp) (.nil _)))))))))
          · refine OpStep.buildSlice (us := [.int .i64 (ix xs (((ix ys m).toNat) * 3)), .int .i64 (ix xs (((ix ys m).toNat) * 3 + 1)), .int .i64 (ix xs (((ix ys m).toNat) * 3 + 2))]) Tsl_28 (by decide) (by decide) ⟨rfl, [.int .i64 (ix xs (((ix ys m).toNat) * 3)), .int .i64 (ix xs (((ix ys m).toNat) * 3 + 1)), .int .i64 (ix xs (((ix ys m).toNat) * 3 + 2))], _, rfl, rfl, rfl, rfl⟩ rfl fun b8 => ?_
            refine ⟨(Some'.weak (.skip (.skip (.take (.skip (.take (.take (.take (.nil _))))))))), ?_⟩
            refine DW.step (i := 1) (by kernel_rfl) rfl rfl (OpStep.q (v := u) (OpQ.y (OpY.load1 Tone_28 rfl (Cells.blk (.tail _ (.tail _ (.tail _ (List.Mem.head _)))) ⟨rfl, trivial⟩))) ?_)
            refine ⟨(Some'.weak (.skip (.skip (.take (.skip (.take (.take (.take (.nil _))))))))), ?_⟩
            refine DW.step (i := 8) (by kernel_rfl) rfl rfl (OpStep.append (H1 := [.own (.slice (some ⟨b8, 0, none⟩) 1 1) 47 3 1 ([.int .i64 (ix xs (((ix ys m).toNat) * 3)), .int .i64 (ix xs (((ix ys m).toNat) * 3 + 1)), .int .i64 (ix xs (((ix ys m).toNat) * 3 + 2))])]) (H2 := [.own (.slice (some ⟨g2, 0, none⟩) n c_v1) 3 1 n (ints ys), .blk b6 30 [.int .i64 N, u], .blk b3 30 [.int .i64 0, .slice none 0 0], .blk b2 48 [.func (.func 24) #[] #[.pointer (some ⟨ba, 0, none⟩), .pointer (some ⟨bc, 0, none⟩)]], .blk b1 30 [.int .i64 N, .slice (some ⟨bg, og, none⟩) n cg]]) (v := u) (u := .slice (some ⟨b8, 0, none⟩) 1 1) (n := m) (m := 1) (xs := ints (p3 xs (ys.take m))) (ys := [.int .i64 (ix xs (((ix ys m).toNat) * 3)), .int .i64 (ix xs (((ix ys m).toNat) * 3 + 1)), .int .i64 (ix xs (((ix ys m).toNat) * 3 + 2))]) Tsl_28 (by decide) rfl rfl rfl rfl (fun w hs => hs.slOwn (.head _)) (by simp [Value.oneCell']) (by omega) (by simp only [maxLen]; omega) fun av3 hnav3 => ?_)
            refine DW.weakS (H' := [.own (.slice (some ⟨b8, 0, none⟩) 1 1) 47 3 1 ([.int .i64 (ix xs (((ix ys m).toNat) * 3)), .int .i64 (ix xs (((ix ys m).toNat) * 3 + 1)), .int .i64 (ix xs (((ix ys m).toNat) * 3 + 2))]), .own av3 47 3 (m + 1) (ints (p3 xs (ys.take (m + 1)))), .own (.slice (some ⟨g2, 0, none⟩) n c_v1) 3 1 n (ints ys), .blk b6 30 [.int .i64 N, u], .blk b3 30 [.int .i64 0, .slice none 0 0], .blk b2 48 [.func (.func 24) #[] #[.pointer (some ⟨ba, 0, none⟩), .pointer (some ⟨bc, 0, none⟩)]], .blk b1 30 [.int .i64 N, .slice (some ⟨bg, og, none⟩) n cg]]) (Some'.weak (.take (.takeEq (by rw [p3_take (by omega), ints_append]; rfl) (.take (.take (.take (.take (.take (.nil _))))))))) ?_
            refine ⟨(Some'.weak (.skip (.skip (.take (.skip (.take (.take (.take (.nil _))))))))), ?_⟩
            refine DW.take (i := 9) (v := .pointer (some ⟨b6, 1, none⟩)) rfl (by kernel_rfl) (by kernel_rfl) (by kernel_rfl) (fun _ _ _ h => h) (Some'.weak (.skip (.skip (.take (.skip (.take (.take (.take (.nil _))))))))) rfl (OpY.fieldAddr Tfo_30_1 rfl rfl) ?_
            refine DW.formOwn (.tail _ (List.Mem.head _)) (fun A_av31 c_av31 hv hcapc_av31 hmaxc_av31 => ?_)
            subst hv
            refine DW.step (i := 10) (by kernel_rfl) rfl rfl (OpStep.store (us := [.slice A_av31 (m + 1) c_av31]) Tsize_28 rfl rfl rfl (.there _ (.there _ (.there _ (.here _)))) (by simp only [List.length_cons, List.length_nil]; omega) ?_)
            show Weak [.own (.slice (some ⟨b8, 0, none⟩) 1 1) 47 3 1 ([.int .i64 (ix xs (((ix ys m).toNat) * 3)), .int .i64 (ix xs (((ix ys m).toNat) * 3 + 1)), .int .i64 (ix xs (((ix ys m).toNat) * 3 + 2))]), .own (.slice A_av31 (m + 1) c_av31) 47 3 (m + 1) (ints (p3 xs (ys.take (m + 1)))), .own (.slice (some ⟨g2, 0, none⟩) n c_v1) 3 1 n (ints ys), .blk b6 30 [.int .i64 N, .slice A_av31 (m + 1) c_av31], .blk b3 30 [.int .i64 0, .slice none 0 0], .blk b2 48 [.func (.func 24) #[] #[.pointer (some ⟨ba, 0, none⟩), .pointer (some ⟨bc, 0, none⟩)]], .blk b1 30 [.int .i64 N, .slice (some ⟨bg, og, none⟩) n cg]] _ ∧ DW _ _ _ _ _ _ _ [.own (.slice (some ⟨b8, 0, none⟩) 1 1) 47 3 1 ([.int .i64 (ix xs (((ix ys m).toNat) * 3)), .int .i64 (ix xs (((ix ys m).toNat) * 3 + 1)), .int .i64 (ix xs (((ix ys m).toNat) * 3 + 2))]), .own (.slice A_av31 (m + 1) c_av31) 47 3 (m + 1) (ints (p3 xs (ys.take (m + 1)))), .own (.slice (some ⟨g2, 0, none⟩) n c_v1) 3 1 n (ints ys), .blk b6 30 [.int .i64 N, .slice A_av31 (m + 1) c_av31], .blk b3 30 [.int .i64 0, .slice none 0 0], .blk b2 48 [.func (.func 24) #[] #[.pointer (some ⟨ba, 0, none⟩), .pointer (some ⟨bc, 0, none⟩)]], .blk b1 30 [.int .i64 N, .slice (some ⟨bg, og, none⟩) n cg]]
            refine ⟨(Some'.weak (.skip (.skip (.take (.skip (.take (.take (.take (.nil _))))))))), ?_⟩
            refine DW.done (by kernel_rfl) ?_
            refine Run.blockEnd ?_
            refine Run.region ?_
            refine Run.q (v := .int .i64 ((((m : Nat) : Int)) + 1)) rfl (OpQ.y (OpY.add rfl rfl rfl (by omega) (by omega))) ?_
            refine Run.q (v := .int .i64 ((((m : Nat) : Int)) + 1)) rfl (OpQ.y (OpY.pure rfl)) ?_
            refine Run.done ?_
            refine Run.goal ⟨(by repeat (first | exact Same.refl _ _ | refine Same.put rfl ?_ | refine Same.over rfl rfl ?_)), (m + 1, .slice A_av31 (m + 1) c_av31), ?_, ?_, ?_, ?_⟩
            · exact hltm
            · dsimp only; omega
            · exact ⟨(by first | rfl | (congr 1; omega) | simp), trivial⟩
            · exact (Some'.weak (.skip (.takeEq (by first | rfl | simp) (.takeEq (by first | rfl | simp) (.takeEq (by first | rfl | simp) (.take (.take (.takeEq (by first | rfl | simp) (.nil _)))))))))
        · have p31 := h31; try simp only [decide_eq_true_eq, decide_eq_false_iff_not, beq_iff_eq, bne_iff_ne, beq_eq_false_iff_ne, ne_eq, gt_iff_lt, ge_iff_le, Int.not_lt, Int.not_le, bne_eq_false_iff_eq, Bool.not_eq_true', Bool.not_eq_false', Bool.and_eq_true, Bool.and_eq_false_iff, Bool.or_eq_true, Bool.or_eq_false_iff, Decidable.not_not, List.cons.injEq, and_true] at p31
          have hknm : m = n := by omega
          refine Run.exit rfl ?_
          refine Run.seq ?_
          refine Run.region ?_
          refine Run.q (v := .agg #[.int .i64 N, u]) rfl (OpQ.y (OpY.loadN (cs := [.int .i64 N, u]) Tagg_30 rfl (Cells.blk (.tail _ (.tail _ (List.Mem.head _))) ⟨rfl, rfl, trivial⟩))) ?_
          refine Run.formOwn (.head _) (fun A_u1 c_u1 hv hcapc_u1 hmaxc_u1 => ?_) (fun _ _ _ => ⟨nofun, nofun, nofun⟩)
          subst hv
          refine Run.step rfl (OpStep.storeAll (us := [.int .i64 N, .slice A_u1 m c_u1]) Tsize_30 rfl rfl rfl (.there _ (.there _ (.there _ (.here _)))) rfl ?_)
          refine Run.done ?_
          refine Run.ret ?_
          refine ⟨.agg #[.int .i64 N, .slice A_u1 m c_u1], [.own (.slice A_u1 m c_u1) 47 3 n (ints (foL ks xs n))], Out.cell1 (cs := [.int .i64 N, .slice A_u1 m c_u1]) rfl Tagg_30 rfl (Cells.blk (.tail _ (.tail _ (.tail _ (List.Mem.head _)))) ⟨rfl, rfl, trivial⟩), (Some'.weak (.takeEq (by rw [hknm, foL, ← hyF, ← hyl, List.take_length]) (.nil _))), ?_⟩
          exact ⟨_, rfl, rfl⟩

end Go.Proofs.Ytbepibalnnbmgaa
