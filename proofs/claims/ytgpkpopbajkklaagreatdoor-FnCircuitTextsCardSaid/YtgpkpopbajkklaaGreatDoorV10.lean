/- Walks: the reference finds the definitions of a circuit text. -/
import Derived.Test.YtgpkpopbajkklaaGreatDoorV9
import Derived.Test.YtgpkpopbajkklaaGreatDoorProg
set_option linter.unusedSimpArgs false
set_option linter.unusedVariables false
namespace Go.Proofs.YtgpkpopbajkklaaGreatDoor
open Go Go.RowKit
namespace TxqT
theorem Tagg_50 : aggOf Tryz.prog 50 = some 4 := by kernel_rfl
theorem Tagg_77 : aggOf Tryz.prog 77 = some 7 := by kernel_rfl
theorem Tfo_50_0 : fieldOff Tryz.prog 50 0 = some 0 := by kernel_rfl
theorem Tfo_50_1 : fieldOff Tryz.prog 50 1 = some 1 := by kernel_rfl
theorem Tfo_50_2 : fieldOff Tryz.prog 50 2 = some 2 := by kernel_rfl
theorem Tfo_50_3 : fieldOff Tryz.prog 50 3 = some 3 := by kernel_rfl
theorem Tfo_54_0 : fieldOff Tryz.prog 54 0 = some 0 := by kernel_rfl
theorem Tfo_77_0 : fieldOff Tryz.prog 77 0 = some 0 := by kernel_rfl
theorem Tfo_77_2 : fieldOff Tryz.prog 77 2 = some 4 := by kernel_rfl
theorem Tfo_77_3 : fieldOff Tryz.prog 77 3 = some 5 := by kernel_rfl
theorem Tone_3 : oneOf Tryz.prog 3 = true := by kernel_rfl
theorem Tone_51 : oneOf Tryz.prog 51 = true := by kernel_rfl
theorem Tone_9 : oneOf Tryz.prog 9 = true := by kernel_rfl
theorem Tsize_3 : (Tryz.prog.info? 3).map (·.size) = some 1 := by kernel_rfl
theorem Tsize_50 : (Tryz.prog.info? 50).map (·.size) = some 4 := by kernel_rfl
theorem Tsize_77 : (Tryz.prog.info? 77).map (·.size) = some 7 := by kernel_rfl
theorem Tsl_46 : sliceOf Tryz.prog 46 = some (50, 4, 40, [sv ([]), .int .i64 0, .int .i64 0, .int .i64 0]) := by kernel_rfl
theorem Tsl_51 : sliceOf Tryz.prog 51 = some (77, 7, 88, [sv ([]), .int .i64 0, .int .i64 0, .int .i64 0, .int .i64 0, sv ([]), .slice none 0 0]) := by kernel_rfl
theorem Tzero_50 : zeroOf Tryz.prog 50 = some [sv ([]), .int .i64 0, .int .i64 0, .int .i64 0] := by kernel_rfl
theorem Tzero_77 : zeroOf Tryz.prog 77 = some [sv ([]), .int .i64 0, .int .i64 0, .int .i64 0, .int .i64 0, sv ([]), .slice none 0 0] := by kernel_rfl
end TxqT
open TxqT
/-- A definition: its name, its qubits, its first line and the line that closes it. -/
structure Dn where
  nm : Bs
  n : Int
  a : Int
  z : Int
def dne (d : Dn) : List Value := [sv d.nm, .int .i64 d.n, .int .i64 d.a, .int .i64 d.z]
def dns (L : List Dn) : List Value := L.flatMap dne
def dnx (L : List Dn) (k : Nat) : Dn := L.getD k ⟨[], 0, 0, 0⟩
theorem dne_len (d : Dn) : (dne d).length = 4 := rfl
@[simp] theorem dns_length (L : List Dn) : (dns L).length = L.length * 4 := flat_len dne_len L
theorem dns_pre {L : List Dn} {k : Nat} (hk : k < L.length) (c j : Nat) (h : j + c ≤ 4) : Pre (dns L) (k * 4 + j) (((dne (dnx L k)).drop j).take c) := flat_pre dne_len _ hk c j h
theorem dns_pre0 {L : List Dn} {k : Nat} (hk : k < L.length) : Pre (dns L) (k * 4) [sv (dnx L k).nm, .int .i64 (dnx L k).n, .int .i64 (dnx L k).a, .int .i64 (dnx L k).z] := dns_pre hk 4 0 (by decide)
theorem dns_preZ {L : List Dn} {k : Nat} (hk : k < L.length) : Pre (dns L) (k * 4 + 3) [.int .i64 (dnx L k).z] := dns_pre hk 1 3 (by decide)
theorem dns_preN {L : List Dn} {k : Nat} (hk : k < L.length) : Pre (dns L) (k * 4 + 1) [.int .i64 (dnx L k).n] := dns_pre hk 1 1 (by decide)
/-- The last definition gets its end. -/
def setZ (L : List Dn) (i : Int) : List Dn := L.set (L.length - 1) { dnx L (L.length - 1) with z := i }
@[simp] theorem setZ_length (L : List Dn) (i : Int) : (setZ L i).length = L.length := by simp [setZ]
theorem setZ_snoc (M : List Dn) (d : Dn) (i : Int) : setZ (M ++ [d]) i = M ++ [{ d with z := i }] := by
  simp [setZ, dnx, List.getD]
theorem dns_setZ {L : List Dn} (h : 0 < L.length) (i : Int) : spl (dns L) ((L.length - 1) * 4 + 3) [.int .i64 i] = dns (setZ L i) := by
  show (dns L).set _ _ = _
  rcases List.eq_nil_or_concat L with rfl | ⟨M, d, rfl⟩
  · simp at h
  · rw [List.concat_eq_append, setZ_snoc]
    have e1 : dns (M ++ [d]) = dns M ++ dne d := by simp [dns]
    have e2 : dns (M ++ [{ d with z := i }]) = dns M ++ dne { d with z := i } := by simp [dns]
    rw [e1, e2, List.set_append_right _ _ (by rw [dns_length]; simp)]
    congr 1
    rw [dns_length]
    have : (M ++ [d]).length - 1 = M.length := by simp
    rw [this, show M.length * 4 + 3 - M.length * 4 = 3 by omega]
    rfl
/-- What a line does to the definitions that were found, and to the depth of blocks. -/
def dfStep (x : Li) (i : Int) (s : List Dn × Int) : List Dn × Int :=
  if x.word = wD then (s.1 ++ [⟨x.nm, x.num, i + 1, 0⟩], 0)
  else if x.word = wR then (s.1, s.2 + 1)
  else if x.word = wE then (if s.2 = 0 ∧ 0 < s.1.length ∧ (dnx s.1 (s.1.length - 1)).z = 0 then setZ s.1 i else s.1, s.2 - 1)
  else s
def dfT (X : List Li) : Nat → List Dn × Int
  | 0 => ([], 0)
  | k + 1 => dfStep (liAt X k) ((k : Nat) : Int) (dfT X k)
/-- The definitions of a text. -/
def dfsR (X : List Li) : List Dn := (dfT X X.length).1
theorem dfD {x : Li} {i dp : Int} {T : List Dn} (h : x.word = wD) : dfStep x i (T, dp) = (T ++ [⟨x.nm, x.num, i + 1, 0⟩], 0) := by rw [dfStep, if_pos h]
theorem dfR {x : Li} {i dp : Int} {T : List Dn} (h : x.word = wR) : dfStep x i (T, dp) = (T, dp + 1) := by rw [dfStep, if_neg (by rw [h]; decide), if_pos h]
theorem dfE1 {x : Li} {i dp : Int} {T : List Dn} (h : x.word = wE) (h1 : dp = 0) (h2 : 0 < ((T.length : Nat) : Int)) (h3 : (dnx T (T.length - 1)).z = 0) : dfStep x i (T, dp) = (setZ T i, dp - 1) := by rw [dfStep, if_neg (by rw [h]; decide), if_neg (by rw [h]; decide), if_pos h, if_pos ⟨h1, show 0 < T.length by omega, h3⟩]
theorem dfE0 {x : Li} {i dp : Int} {T : List Dn} (h : x.word = wE) (hc : ¬ (dp = 0 ∧ 0 < T.length ∧ (dnx T (T.length - 1)).z = 0)) : dfStep x i (T, dp) = (T, dp - 1) := by rw [dfStep, if_neg (by rw [h]; decide), if_neg (by rw [h]; decide), if_pos h, if_neg hc]
theorem dfN {x : Li} {i dp : Int} {T : List Dn} (h : ¬ x.word = wD) (h1 : ¬ x.word = wR) (h2 : ¬ x.word = wE) : dfStep x i (T, dp) = (T, dp) := by rw [dfStep, if_neg h, if_neg h1, if_neg h2]
theorem dfT_len (X : List Li) : ∀ k, (dfT X k).1.length ≤ k ∧ -((k : Nat) : Int) ≤ (dfT X k).2 ∧ (dfT X k).2 ≤ k
  | 0 => ⟨Nat.le_refl _, by simp [dfT], by simp [dfT]⟩
  | k + 1 => by
    have h := dfT_len X k
    rw [dfT, dfStep]
    split
    · simp; omega
    · split
      · simp; omega
      · split
        · dsimp only; split
          · rw [setZ_length]; omega
          · omega
        · omega
/-- The definition of a name that ends before a line. -/
def finR (T : List Dn) (nm : Bs) (i : Int) : Int := findI (fun k => (dnx T k).nm == nm && decide ((dnx T k).z < i)) T.length
/-- The qubits at a line. -/
def widR (T : List Dn) (X : List Li) (i : Int) : Int :=
  if 0 ≤ findI (fun k => decide ((dnx T k).a ≤ i) && decide (i < (dnx T k).z)) T.length then (dnx T (findI (fun k => decide ((dnx T k).a ≤ i) && decide (i < (dnx T k).z)) T.length).toNat).n else (liAt X 0).num
def dpS (x : Li) (d : Int) : Int := if x.word = wR ∨ x.word = wD then d + 1 else if x.word = wE then d - 1 else d
/-- The line that closes a block. -/
def endD : List Li → Nat → Int → Nat
  | [], k, _ => k
  | x :: r, k, d => if dpS x d = 0 then k else endD r (k + 1) (dpS x d)
def endX (X : List Li) (i : Nat) : Nat := endD (X.drop i) i 0
theorem endD_at {X : List Li} {k : Nat} {x : Li} {d : Int} (hk : k < X.length) (hx : liAt X k = x) : endD (X.drop k) k d = if dpS x d = 0 then k else endD (X.drop (k + 1)) (k + 1) (dpS x d) := by
  rw [drop_li hk, show X.getD k .cl = x from hx, endD]
theorem endD_end {X : List Li} {k : Nat} {d : Int} (hk : k = X.length) : endD (X.drop k) k d = k := by rw [List.drop_eq_nil_iff.2 (by omega), endD]
theorem dpS_up {x : Li} {d : Int} (h : x.word = wR ∨ x.word = wD) : dpS x d = d + 1 := if_pos h
theorem dpS_dn {x : Li} {d : Int} (h : x.word = wE) : dpS x d = d - 1 := by rw [dpS, if_neg (by rw [h]; decide), if_pos h]
theorem dpS_no {x : Li} {d : Int} (h : ¬ x.word = wR) (h1 : ¬ x.word = wD) (h2 : ¬ x.word = wE) : dpS x d = d := by rw [dpS, if_neg (fun e => e.elim h h1), if_neg h2]

set_option maxHeartbeats 8000000 in
set_option maxRecDepth 20000 in
theorem defs_spec {r n : Nat} {va vd : Value} {L : List LV} {w : World} (hr : Sl w (.slice (some ⟨r, 0, none⟩) 1 1) 2 1 [va, vd]) (ha : Sl w va 7 n (rls L)) (hA : RQ w L) (hn16 : n ≤ 16777216) : Calls Tryz.prog 52 #[.pointer (some ⟨r, 0, none⟩)] w (Post No w fun v H => H = [.own v 50 4 (dfsR (L.map (·.1))).length (dns (dfsR (L.map (·.1))))]) := by
 have hLn : L.length = n := by have := ha.1; simp at this; omega
 have hn := ha.le
 obtain ⟨A, c, rfl, hnc, _⟩ := ha.form0
 obtain ⟨X, hX⟩ : ∃ X, L.map (·.1) = X := ⟨_, rfl⟩
 have hXl : X.length = n := by rw [← hX, List.length_map]; exact hLn
 rw [hX]
 refine enter (n := 66) (args := [.pointer (some ⟨r, 0, none⟩)]) Tryz.func52 rfl rfl (St.empty _ _) ?_
 refine .sr ?_
 refine .m ?_
 refine .dsr ?_
 refine .m ?_
 refine .dsr ?_
 refine .m ?_
 refine .done ?_
 refine .seq ?_
 refine .seq ?_
 refine Run.weak (H' := [.own (.slice none 0 0) 50 4 0 (dns [])]) (Weak.nilOwn _ _) ?_ ⟨_, _, rfl, fun _ => nofun, fun _ => nofun⟩
 refine .region ?_
 refine .m ?_
 refine .u (.pointer (some ⟨r, 0, none⟩)) (.nilCheck rfl) ?_
 refine .fa Tfo_54_0 ?_
 refine .u (.slice A n c) (.load1 Tone_51 rfl (Cells.env (k := 0) hr rfl (by decide) ⟨rfl, trivial⟩)) ?_
 refine .u (.int .i64 (((n : Nat) : Int))) (.len Tsl_51 rfl) ?_
 refine .m ?_
 refine .done ?_
 refine .block ?_
 refine Run.loop (ι := Nat × List Dn × Int × Value) ([3, 4, 5, 6, 12, 13, 14, 15, 16, 17, 18, 19, 20, 21, 22, 23, 24, 25, 26, 27, 28, 29, 30, 31, 32, 33, 34, 35, 36, 37, 38, 39, 40, 41, 42, 43, 44, 45, 46, 47, 48, 49, 50, 51, 52, 53, 54, 55, 56, 57] ++ [58, 59, 60, 61, 62, 63, 64]) (fun ⟨k, T, dp, vo⟩ => [(3, vo), (4, .int .i64 dp), (12, .int .i64 (((k : Nat) : Int)))]) (fun ⟨k, T, dp, vo⟩ => [.own vo 50 4 (T.length) (dns T)]) (fun ⟨k, T, dp, vo⟩ => k ≤ n ∧ dfT X k = (T, dp)) (fun ⟨k, T, dp, vo⟩ => n - k) (0, [], 0, .slice none 0 0) ?_ ?_ ?_ ?_
 ·exact ⟨Nat.zero_le _, rfl⟩
 ·exact ⟨rfl, rfl, rfl, trivial⟩
 ·exact (Some'.weak (.takeEq (by first | rfl | simp) (.nil _)))
 rintro ⟨k, T, dp, vo⟩ fr hinv
 show Run _ _ (over _ _ [(3, vo), (4, .int .i64 dp), (12, .int .i64 (((k : Nat) : Int)))] fr) [.own vo 50 4 (T.length) (dns T)]
 try dsimp only at hinv
 refine .sr ?_
 refine .w (.bool (decide ((((k : Nat) : Int)) < (((n : Nat) : Int))))) ?_
 refine .done ?_
 refine .seq ?_
 refine .cond (b := decide ((((k : Nat) : Int)) < (((n : Nat) : Int)))) rfl (fun h13 => ?_) (fun h13 => ?_)
 ·have p13 := h13; try simp only [bs] at p13
  have hltk : k < n := by omega
  obtain ⟨hk, hdf⟩ := hinv
  have hTb := dfT_len X k
  rw [hdf] at hTb
  simp only at hTb
  obtain ⟨x, hx⟩ : ∃ x, (tx L k).1 = x := ⟨_, rfl⟩
  obtain ⟨Aq, cq, hq, hqc, _⟩ := (hA k (by omega)).form0
  rw [hx] at hq hqc
  have hxX : liAt X k = x := by rw [← hX, ← tx_li, hx]
  obtain ⟨b, o, rfl⟩ := ha.opn (by omega)
  refine .skip ?_
  refine .seq ?_
  refine .block ?_
  refine .sr ?_
  refine .m ?_
  refine .u (.pointer (some ⟨b, o + k * 7, none⟩)) (.ix k Tsl_51) ?_
  refine .u (.agg #[sv (x.word), .int .i64 (x.g3.1), .int .i64 (x.g3.2.1), .int .i64 (x.g3.2.2), .int .i64 (x.num), sv (x.nm), .slice Aq (x.ar.length) cq]) (.loadN (cs := [sv (x.word), .int .i64 (x.g3.1), .int .i64 (x.g3.2.1), .int .i64 (x.g3.2.2), .int .i64 (x.num), sv (x.nm), .slice Aq (x.ar.length) cq]) Tagg_77 rfl (Cells.arg (k := k * 7) ha rfl (by omega) (rls_preF (k := k) (by omega) hx hq))) ?_
  refine .step rfl (.alloc (zs := [sv ([]), .int .i64 0, .int .i64 0, .int .i64 0, .int .i64 0, sv ([]), .slice none 0 0]) Tzero_77 fun b1 => ?_)
  refine .m ?_
  refine .step rfl (.storeAll (us := [sv (x.word), .int .i64 (x.g3.1), .int .i64 (x.g3.2.1), .int .i64 (x.g3.2.2), .int .i64 (x.num), sv (x.nm), .slice Aq (x.ar.length) cq]) Tsize_77 rfl rfl rfl (.here _) rfl ?_)
  refine .done ?_
  refine .seq ?_
  refine .sr ?_
  refine .fa Tfo_77_0 ?_
  refine .u (sv (x.word)) (.load1 Tone_9 rfl (.b (.head _))) ?_
  refine .u (.bool ((x.word) == wD)) (.eqS rfl rfl) ?_
  refine .done ?_
  refine .cond (b := (x.word) == wD) rfl (fun h19 => ?_) (fun h19 => ?_)
  ·have p19 := h19; try simp only [bs] at p19
   refine .sr ?_
   refine .w vo ?_
   refine .fa Tfo_77_3 ?_
   refine .u (sv (x.nm)) (.load1 Tone_9 rfl (.b (.head _))) ?_
   refine .fa Tfo_77_2 ?_
   refine .u (.int .i64 (x.num)) (.load1 Tone_3 rfl (.b (.head _))) ?_
   refine .m ?_
   refine .u (.int .i64 ((((k : Nat) : Int)) + 1)) (.add rfl rfl rfl (by omega) (by omega)) ?_
   refine .u (.agg #[sv (x.nm), .int .i64 (x.num), .int .i64 ((((k : Nat) : Int)) + 1), .int .i64 0]) (.build (cs := [sv (x.nm), .int .i64 (x.num), .int .i64 ((((k : Nat) : Int)) + 1), .int .i64 0]) (by kernel_rfl)) ?_
   refine .step rfl (.buildSlice (us := [sv (x.nm), .int .i64 (x.num), .int .i64 ((((k : Nat) : Int)) + 1), .int .i64 0]) Tsl_46 (by decide) (by decide) ⟨rfl, [sv (x.nm), .int .i64 (x.num), .int .i64 ((((k : Nat) : Int)) + 1), .int .i64 0], _, rfl, rfl, rfl, rfl⟩ rfl fun b2 => ?_)
   refine .step rfl (.append (H1 := [.own (.slice (some ⟨b2, 0, none⟩) 1 1) 50 4 1 ([sv (x.nm), .int .i64 (x.num), .int .i64 ((((k : Nat) : Int)) + 1), .int .i64 0]), .blk b1 77 [sv (x.word), .int .i64 (x.g3.1), .int .i64 (x.g3.2.1), .int .i64 (x.g3.2.2), .int .i64 (x.num), sv (x.nm), .slice Aq (x.ar.length) cq]]) (H2 := []) (v := vo) (u := .slice (some ⟨b2, 0, none⟩) 1 1) (n := T.length) (m := 1) (xs := dns T) (ys := [sv (x.nm), .int .i64 (x.num), .int .i64 ((((k : Nat) : Int)) + 1), .int .i64 0]) Tsl_46 (by decide) rfl rfl rfl rfl (fun w hs => hs.slOwn (.head _)) (by simp [Value.oneCell']) (by omega) (by simp only [maxLen]; omega) fun av1 hnav1 => ?_)
   refine Run.weak (H' := [.own (.slice (some ⟨b2, 0, none⟩) 1 1) 50 4 1 ([sv (x.nm), .int .i64 (x.num), .int .i64 ((((k : Nat) : Int)) + 1), .int .i64 0]), .blk b1 77 [sv (x.word), .int .i64 (x.g3.1), .int .i64 (x.g3.2.1), .int .i64 (x.g3.2.2), .int .i64 (x.num), sv (x.nm), .slice Aq (x.ar.length) cq], .own av1 50 4 ((T ++ [(⟨x.nm, x.num, ((k : Nat) : Int) + 1, 0⟩ : Dn)]).length) (dns (T ++ [(⟨x.nm, x.num, ((k : Nat) : Int) + 1, 0⟩ : Dn)]))]) (Some'.weak (.take (.take (.takeEq (by simp [dns, dne]) (.nil _))))) ?_ ⟨_, _, rfl, fun _ => nofun, fun _ => nofun⟩
   refine .w av1 ?_
   refine .dr ?_
   refine .m ?_
   refine .done ?_
   refine .seq ?_
   refine .sr ?_
   refine .fa Tfo_77_0 ?_
   refine .u (sv (x.word)) (.load1 Tone_9 rfl (.b (.tail _ (.head _)))) ?_
   refine .u (.bool ((x.word) == wR)) (.eqS rfl rfl) ?_
   refine .done ?_
   refine .cond (b := (x.word) == wR) rfl (fun h32 => ?_) (fun h32 => ?_)
   ·have p32 := h32; try simp only [bs] at p32
    exact absurd (p19.symm.trans p32) (by decide) --DONE
   have p32 := h32; try simp only [bs] at p32
   refine .skip ?_
   refine .sr ?_
   refine .fa Tfo_77_0 ?_
   refine .u (sv (x.word)) (.load1 Tone_9 rfl (.b (.tail _ (.head _)))) ?_
   refine .u (.bool ((x.word) == wE)) (.eqS rfl rfl) ?_
   refine .done ?_
   refine .cond (b := (x.word) == wE) rfl (fun h37 => ?_) (fun h37 => ?_)
   ·have p37 := h37; try simp only [bs] at p37
    exact absurd (p19.symm.trans p37) (by decide) --DONE
   have p37 := h37; try simp only [bs] at p37
   refine .skip ?_
   refine .blockEnd ?_
   refine .region ?_
   refine .u (.int .i64 ((((k : Nat) : Int)) + 1)) (.add rfl rfl rfl (by omega) (by omega)) ?_
   refine .m ?_
   refine .done ?_
   refine .goal ⟨(by repeat (first | exact Same.refl _ _ | refine Same.put rfl ?_ | refine Same.over rfl rfl ?_)), (k + 1, (T ++ [(⟨x.nm, x.num, ((k : Nat) : Int) + 1, 0⟩ : Dn)]), 0, av1), ?_, ?_, ?_, ?_⟩
   ·refine ⟨by omega, ?_⟩
    rw [dfT, hdf, hxX]
    first | exact dfD p19 | exact dfR p32 | exact dfE1 p37 p40 p45 p54 | exact dfE0 p37 (by rintro ⟨e1, e2, e3⟩; omega) | exact dfN p19 p32 p37
   ·show n - (k + 1) < n - k; omega
   ·exact ⟨(by first | rfl | (congr 1; omega) | simp), (by first | rfl | (congr 1; omega) | simp), (by first | rfl | (congr 1; omega) | simp), trivial⟩
   ·exact (Some'.weak (.skip (.skip (.takeEq (by first | rfl | simp) (.nil _)))))
  have p19 := h19; try simp only [bs] at p19
  refine .skip ?_
  refine .seq ?_
  refine .sr ?_
  refine .fa Tfo_77_0 ?_
  refine .u (sv (x.word)) (.load1 Tone_9 rfl (.b (.head _))) ?_
  refine .u (.bool ((x.word) == wR)) (.eqS rfl rfl) ?_
  refine .done ?_
  refine .cond (b := (x.word) == wR) rfl (fun h32 => ?_) (fun h32 => ?_)
  ·have p32 := h32; try simp only [bs] at p32
   refine .region ?_
   refine .m ?_
   refine .u (.int .i64 (dp + 1)) (.add rfl rfl rfl (by omega) (by omega)) ?_
   refine .m ?_
   refine .dsr ?_
   refine .fa Tfo_77_0 ?_
   refine .u (sv (x.word)) (.load1 Tone_9 rfl (.b (.head _))) ?_
   refine .u (.bool ((x.word) == wE)) (.eqS rfl rfl) ?_
   refine .done ?_
   refine .cond (b := (x.word) == wE) rfl (fun h37 => ?_) (fun h37 => ?_)
   ·have p37 := h37; try simp only [bs] at p37
    exact absurd (p32.symm.trans p37) (by decide) --DONE
   have p37 := h37; try simp only [bs] at p37
   refine .skip ?_
   refine .blockEnd ?_
   refine .region ?_
   refine .u (.int .i64 ((((k : Nat) : Int)) + 1)) (.add rfl rfl rfl (by omega) (by omega)) ?_
   refine .m ?_
   refine .done ?_
   refine .goal ⟨(by repeat (first | exact Same.refl _ _ | refine Same.put rfl ?_ | refine Same.over rfl rfl ?_)), (k + 1, T, dp + 1, vo), ?_, ?_, ?_, ?_⟩
   ·refine ⟨by omega, ?_⟩
    rw [dfT, hdf, hxX]
    first | exact dfD p19 | exact dfR p32 | exact dfE1 p37 p40 p45 p54 | exact dfE0 p37 (by rintro ⟨e1, e2, e3⟩; omega) | exact dfN p19 p32 p37
   ·show n - (k + 1) < n - k; omega
   ·exact ⟨(by first | rfl | (congr 1; omega) | simp), (by first | rfl | (congr 1; omega) | simp), (by first | rfl | (congr 1; omega) | simp), trivial⟩
   ·exact (Some'.weak (.skip (.takeEq (by first | rfl | simp) (.nil _))))
  have p32 := h32; try simp only [bs] at p32
  refine .skip ?_
  refine .sr ?_
  refine .fa Tfo_77_0 ?_
  refine .u (sv (x.word)) (.load1 Tone_9 rfl (.b (.head _))) ?_
  refine .u (.bool ((x.word) == wE)) (.eqS rfl rfl) ?_
  refine .done ?_
  refine .cond (b := (x.word) == wE) rfl (fun h37 => ?_) (fun h37 => ?_)
  ·have p37 := h37; try simp only [bs] at p37
   refine .seq ?_
   refine .sr ?_
   refine .m ?_
   refine .w (.bool (dp == 0)) ?_
   rcases Bool.eq_false_or_eq_true (dp == 0) with h40 | h40
   ·refine .mb h40 ?_
    have p40 := h40; try simp only [bs] at p40
    refine .w vo ?_
    refine Run.formOwn (.tail _ (.head _)) (fun A_vo1 c_vo1 hv hcapc_vo1 hmaxc_vo1 => ?_) (fun _ _ _ => ⟨nofun, nofun, nofun⟩)
    subst hv
    refine .u (.int .i64 (((T.length : Nat) : Int))) (.len Tsl_46 rfl) ?_
    refine .w (.bool (decide ((((T.length : Nat) : Int)) > 0))) ?_
    refine .w (.bool (decide ((((T.length : Nat) : Int)) > 0))) ?_
    rcases Bool.eq_false_or_eq_true (decide ((((T.length : Nat) : Int)) > 0)) with h45 | h45
    ·refine .mb h45 ?_
     have p45 := h45; try simp only [bs] at p45
     have hTl : 0 < T.length := by omega
     refine Run.openOwn (.tail _ (.head _)) (by omega) (fun gt ct hvgt hcapgt _ => ?_) (fun _ _ _ => ⟨nofun, nofun, nofun⟩)
     injection hvgt with hAgt _ hcgt; subst hAgt; subst hcgt
     iterate 2 refine .m ?_
     refine .u (.int .i64 (((T.length : Nat) : Int))) (.len Tsl_46 rfl) ?_
     refine .u (.int .i64 ((((T.length : Nat) : Int)) - 1)) (.sub rfl rfl rfl (by omega) (by omega)) ?_
     refine .u (.pointer (some ⟨gt, (T.length - 1) * 4, none⟩)) (.ix (T.length - 1) Tsl_46) ?_
     refine .fa Tfo_50_3 ?_
     refine .u (.int .i64 ((dnx T (T.length - 1)).z)) (.load1 Tone_3 rfl (Cells.own0 (.tail _ (.head _)) (dns_preZ (k := T.length - 1) (by omega)))) ?_
     refine .w (.bool (((dnx T (T.length - 1)).z) == 0)) ?_
     refine .w (.bool (((dnx T (T.length - 1)).z) == 0)) ?_
     refine .done ?_
     refine .cond (b := ((dnx T (T.length - 1)).z) == 0) rfl (fun h54 => ?_) (fun h54 => ?_)
     ·have p54 := h54; try simp only [bs] at p54
      refine .region ?_
      iterate 2 refine .m ?_
      refine .u (.int .i64 (((T.length : Nat) : Int))) (.len Tsl_46 rfl) ?_
      refine .u (.int .i64 ((((T.length : Nat) : Int)) - 1)) (.sub rfl rfl rfl (by omega) (by omega)) ?_
      refine .m ?_
      refine .u (.pointer (some ⟨gt, (T.length - 1) * 4, none⟩)) (.ix (T.length - 1) Tsl_46) ?_
      refine .fa Tfo_50_3 ?_
      refine .step rfl (.storeOwn (us := [.int .i64 (((k : Nat) : Int))]) Tsize_3 rfl rfl rfl rfl (by rw [dns_setZ hTl]; exact (.there _ (.here _))) (by simp only [List.length_cons, List.length_nil]; omega) ?_)
      refine .done ?_
      refine Run.weak (H' := [.blk b1 77 [sv (x.word), .int .i64 (x.g3.1), .int .i64 (x.g3.2.1), .int .i64 (x.g3.2.2), .int .i64 (x.num), sv (x.nm), .slice Aq (x.ar.length) cq], .own (.slice (some ⟨gt, 0, none⟩) (T.length) c_vo1) 50 4 ((setZ T ((k : Nat) : Int)).length) (dns (setZ T (((k : Nat) : Int))))]) (Some'.weak (.take (.takeEq (by rw [setZ_length]) (.nil _)))) ?_ ⟨_, _, rfl, fun _ => nofun, fun _ => nofun⟩
      refine .region ?_
      refine .m ?_
      refine .u (.int .i64 (dp - 1)) (.sub rfl rfl rfl (by omega) (by omega)) ?_
      refine .m ?_
      refine .done ?_
      refine .blockEnd ?_
      refine .region ?_
      refine .u (.int .i64 ((((k : Nat) : Int)) + 1)) (.add rfl rfl rfl (by omega) (by omega)) ?_
      refine .m ?_
      refine .done ?_
      refine .goal ⟨(by repeat (first | exact Same.refl _ _ | refine Same.put rfl ?_ | refine Same.over rfl rfl ?_)), (k + 1, (setZ T (((k : Nat) : Int))), dp - 1, .slice (some ⟨gt, 0, none⟩) (T.length) c_vo1), ?_, ?_, ?_, ?_⟩
      ·refine ⟨by omega, ?_⟩
       rw [dfT, hdf, hxX]
       first | exact dfD p19 | exact dfR p32 | exact dfE1 p37 p40 p45 p54 | exact dfE0 p37 (by rintro ⟨e1, e2, e3⟩; omega) | exact dfN p19 p32 p37
      ·show n - (k + 1) < n - k; omega
      ·exact ⟨(by first | rfl | (congr 1; omega) | simp), (by first | rfl | (congr 1; omega) | simp), (by first | rfl | (congr 1; omega) | simp), trivial⟩
      ·exact (Some'.weak (.skip (.takeEq (by first | rfl | simp) (.nil _))))
     have p54 := h54; try simp only [bs] at p54
     refine .skip ?_
     refine .region ?_
     refine .m ?_
     refine .u (.int .i64 (dp - 1)) (.sub rfl rfl rfl (by omega) (by omega)) ?_
     refine .m ?_
     refine .done ?_
     refine .blockEnd ?_
     refine .region ?_
     refine .u (.int .i64 ((((k : Nat) : Int)) + 1)) (.add rfl rfl rfl (by omega) (by omega)) ?_
     refine .m ?_
     refine .done ?_
     refine .goal ⟨(by repeat (first | exact Same.refl _ _ | refine Same.put rfl ?_ | refine Same.over rfl rfl ?_)), (k + 1, T, dp - 1, .slice (some ⟨gt, 0, none⟩) (T.length) c_vo1), ?_, ?_, ?_, ?_⟩
     ·refine ⟨by omega, ?_⟩
      rw [dfT, hdf, hxX]
      first | exact dfD p19 | exact dfR p32 | exact dfE1 p37 p40 p45 p54 | exact dfE0 p37 (by rintro ⟨e1, e2, e3⟩; omega) | exact dfN p19 p32 p37
     ·show n - (k + 1) < n - k; omega
     ·exact ⟨(by first | rfl | (congr 1; omega) | simp), (by first | rfl | (congr 1; omega) | simp), (by first | rfl | (congr 1; omega) | simp), trivial⟩
     ·exact (Some'.weak (.skip (.takeEq (by first | rfl | simp) (.nil _))))
    refine .mb h45 ?_
    have p45 := h45; try simp only [bs] at p45
    iterate 8 refine .pass rfl ?_
    refine .w (.bool false) ?_
    refine .done ?_
    refine .cond (b := false) rfl (fun h => nomatch h) (fun _ => ?_)
    refine .skip ?_
    refine .region ?_
    refine .m ?_
    refine .u (.int .i64 (dp - 1)) (.sub rfl rfl rfl (by omega) (by omega)) ?_
    refine .m ?_
    refine .done ?_
    refine .blockEnd ?_
    refine .region ?_
    refine .u (.int .i64 ((((k : Nat) : Int)) + 1)) (.add rfl rfl rfl (by omega) (by omega)) ?_
    refine .m ?_
    refine .done ?_
    refine .goal ⟨(by repeat (first | exact Same.refl _ _ | refine Same.put rfl ?_ | refine Same.over rfl rfl ?_)), (k + 1, T, dp - 1, .slice A_vo1 (T.length) c_vo1), ?_, ?_, ?_, ?_⟩
    ·refine ⟨by omega, ?_⟩
     rw [dfT, hdf, hxX]
     first | exact dfD p19 | exact dfR p32 | exact dfE1 p37 p40 p45 p54 | exact dfE0 p37 (by rintro ⟨e1, e2, e3⟩; omega) | exact dfN p19 p32 p37
    ·show n - (k + 1) < n - k; omega
    ·exact ⟨(by first | rfl | (congr 1; omega) | simp), (by first | rfl | (congr 1; omega) | simp), (by first | rfl | (congr 1; omega) | simp), trivial⟩
    ·exact (Some'.weak (.skip (.takeEq (by first | rfl | simp) (.nil _))))
   refine .mb h40 ?_
   have p40 := h40; try simp only [bs] at p40
   iterate 3 refine .pass rfl ?_
   refine .w (.bool false) ?_
   refine .m ?_
   iterate 8 refine .pass rfl ?_
   refine .w (.bool false) ?_
   refine .done ?_
   refine .cond (b := false) rfl (fun h => nomatch h) (fun _ => ?_)
   refine .skip ?_
   refine .region ?_
   refine .m ?_
   refine .u (.int .i64 (dp - 1)) (.sub rfl rfl rfl (by omega) (by omega)) ?_
   refine .m ?_
   refine .done ?_
   refine .blockEnd ?_
   refine .region ?_
   refine .u (.int .i64 ((((k : Nat) : Int)) + 1)) (.add rfl rfl rfl (by omega) (by omega)) ?_
   refine .m ?_
   refine .done ?_
   refine .goal ⟨(by repeat (first | exact Same.refl _ _ | refine Same.put rfl ?_ | refine Same.over rfl rfl ?_)), (k + 1, T, dp - 1, vo), ?_, ?_, ?_, ?_⟩
   ·refine ⟨by omega, ?_⟩
    rw [dfT, hdf, hxX]
    first | exact dfD p19 | exact dfR p32 | exact dfE1 p37 p40 p45 p54 | exact dfE0 p37 (by rintro ⟨e1, e2, e3⟩; omega) | exact dfN p19 p32 p37
   ·show n - (k + 1) < n - k; omega
   ·exact ⟨(by first | rfl | (congr 1; omega) | simp), (by first | rfl | (congr 1; omega) | simp), (by first | rfl | (congr 1; omega) | simp), trivial⟩
   ·exact (Some'.weak (.skip (.takeEq (by first | rfl | simp) (.nil _))))
  have p37 := h37; try simp only [bs] at p37
  refine .skip ?_
  refine .blockEnd ?_
  refine .region ?_
  refine .u (.int .i64 ((((k : Nat) : Int)) + 1)) (.add rfl rfl rfl (by omega) (by omega)) ?_
  refine .m ?_
  refine .done ?_
  refine .goal ⟨(by repeat (first | exact Same.refl _ _ | refine Same.put rfl ?_ | refine Same.over rfl rfl ?_)), (k + 1, T, dp, vo), ?_, ?_, ?_, ?_⟩
  ·refine ⟨by omega, ?_⟩
   rw [dfT, hdf, hxX]
   first | exact dfD p19 | exact dfR p32 | exact dfE1 p37 p40 p45 p54 | exact dfE0 p37 (by rintro ⟨e1, e2, e3⟩; omega) | exact dfN p19 p32 p37
  ·show n - (k + 1) < n - k; omega
  ·exact ⟨(by first | rfl | (congr 1; omega) | simp), (by first | rfl | (congr 1; omega) | simp), (by first | rfl | (congr 1; omega) | simp), trivial⟩
  ·exact (Some'.weak (.skip (.takeEq (by first | rfl | simp) (.nil _))))
 have p13 := h13; try simp only [bs] at p13
 obtain ⟨hk, hdf⟩ := hinv
 have hkn : k = X.length := by omega
 have hfin : T = dfsR X := by rw [dfsR, ← hkn, hdf]
 refine .exit rfl ?_
 refine .sr ?_
 refine .w vo ?_
 refine .w vo ?_
 refine .done ?_
 refine .ret ?_
 refine ⟨vo, [.own vo 50 4 ((dfsR X).length) (dns (dfsR X))], Out.one rfl rfl, (Some'.weak (.takeEq (by rw [hfin]) (.nil _))), ?_⟩
 rfl

set_option maxHeartbeats 1000000 in
set_option maxRecDepth 20000 in
theorem l5Find_spec {m : Nat} {vt : Value} {T : List Dn} {nm : Bs} {i0 : Int} {w : World} (hd : Sl w vt 4 m (dns T)) : Calls Tryz.prog 77 #[vt, sv nm, .int .i64 i0] w (Post No w fun v _ => v = .int .i64 (finR T nm i0)) := by
 have hTm : T.length = m := by have := hd.1; simp at this; omega
 have hm := hd.le
 obtain ⟨Ad, cd, rfl, hmc, _⟩ := hd.form0
 refine enter (n := 28) (args := [.slice Ad m cd, sv nm, .int .i64 i0]) Tryz.func77 rfl rfl (St.empty _ _) ?_
 refine .sr ?_
 refine .m ?_
 refine .done ?_
 refine .seq ?_
 refine .sr ?_
 refine .m ?_
 refine .u (.int .i64 (((m : Nat) : Int))) (.len Tsl_46 rfl) ?_
 refine .m ?_
 refine .done ?_
 refine .block ?_
 refine Run.loop (ι := Nat) [6, 7, 8, 11, 12, 13, 14, 15, 16, 17, 18, 19, 20, 21, 22, 23, 24, 25, 26, 27] (fun k => [(11, .int .i64 (((k : Nat) : Int)))]) (fun k => []) (fun k => k ≤ m ∧ ∀ i, i < k → (((dnx T i).nm == nm && decide ((dnx T i).z < i0))) = false) (fun k => m - k) 0 ?_ ?_ ?_ ?_
 ·exact ⟨Nat.zero_le _, fun i hi => by omega⟩
 ·exact ⟨rfl, trivial⟩
 ·exact (Some'.weak (.nil _))
 rintro k fr hinv
 show Run _ _ (over _ _ [(11, .int .i64 (((k : Nat) : Int)))] fr) []
 try dsimp only at hinv
 refine .sr ?_
 refine .w (.bool (decide ((((k : Nat) : Int)) < (((m : Nat) : Int))))) ?_
 refine .done ?_
 refine .seq ?_
 refine .cond (b := decide ((((k : Nat) : Int)) < (((m : Nat) : Int)))) rfl (fun h12 => ?_) (fun h12 => ?_)
 ·have p12 := h12; try simp only [bs] at p12
  have hltk : k < m := by omega
  obtain ⟨bd, od, rfl⟩ := hd.opn (by omega)
  refine .skip ?_
  refine .seq ?_
  refine .block ?_
  refine .sr ?_
  refine .m ?_
  refine .u (.pointer (some ⟨bd, od + k * 4, none⟩)) (.ix k Tsl_46) ?_
  refine .u (.agg #[sv ((dnx T k).nm), .int .i64 ((dnx T k).n), .int .i64 ((dnx T k).a), .int .i64 ((dnx T k).z)]) (.loadN (cs := [sv ((dnx T k).nm), .int .i64 ((dnx T k).n), .int .i64 ((dnx T k).a), .int .i64 ((dnx T k).z)]) Tagg_50 rfl (Cells.arg (k := k * 4) hd rfl (by omega) (dns_pre0 (k := k) (by omega)))) ?_
  refine .step rfl (.alloc (zs := [sv ([]), .int .i64 0, .int .i64 0, .int .i64 0]) Tzero_50 fun b1 => ?_)
  refine .m ?_
  refine .step rfl (.storeAll (us := [sv ((dnx T k).nm), .int .i64 ((dnx T k).n), .int .i64 ((dnx T k).a), .int .i64 ((dnx T k).z)]) Tsize_50 rfl rfl rfl (.here _) rfl ?_)
  refine .dsr ?_
  refine .fa Tfo_50_0 ?_
  refine .u (sv ((dnx T k).nm)) (.load1 Tone_9 rfl (.b (.head _))) ?_
  refine .w (sv nm) ?_
  refine .u (.bool (((dnx T k).nm) == nm)) (.eqS rfl rfl) ?_
  rcases Bool.eq_false_or_eq_true (((dnx T k).nm) == nm) with h20 | h20
  ·refine .mb h20 ?_
   have p20 := h20; try simp only [bs] at p20
   refine .fa Tfo_50_3 ?_
   refine .u (.int .i64 ((dnx T k).z)) (.load1 Tone_3 rfl (.b (.head _))) ?_
   refine .m ?_
   refine .w (.bool (decide (((dnx T k).z) < i0))) ?_
   refine .w (.bool (decide (((dnx T k).z) < i0))) ?_
   refine .done ?_
   refine .cond (b := decide (((dnx T k).z) < i0)) rfl (fun h25 => ?_) (fun h25 => ?_)
   ·have p25 := h25; try simp only [bs] at p25
    refine .seq ?_
    have hfd : finR T nm i0 = ((k : Nat) : Int) := by rw [finR]; exact findI_hit hinv.2 (by rw [h20, Bool.true_and]; exact h25) (by omega)
    refine .region ?_
    iterate 2 refine .m ?_
    refine .done ?_
    refine .ret ?_
    refine ⟨.int .i64 (((k : Nat) : Int)), [], Out.one rfl rfl, (Some'.weak (.nil _)), ?_⟩
    rw [hfd]
   have p25 := h25; try simp only [bs] at p25
   refine .skip ?_
   refine .blockEnd ?_
   have hgood : ((dnx T k).nm == nm && decide ((dnx T k).z < i0)) = false := by first | (rw [h20, Bool.true_and]; exact h25) | (rw [h20]; rfl)
   refine .region ?_
   refine .u (.int .i64 ((((k : Nat) : Int)) + 1)) (.add rfl rfl rfl (by omega) (by omega)) ?_
   refine .m ?_
   refine .done ?_
   refine .goal ⟨(by repeat (first | exact Same.refl _ _ | refine Same.put rfl ?_ | refine Same.over rfl rfl ?_)), k + 1, ?_, ?_, ?_, ?_⟩
   ·refine ⟨by omega, ?_⟩
    intro i hi
    rcases Nat.lt_succ_iff_lt_or_eq.1 hi with h | h
    ·exact hinv.2 i h
    ·rw [h]; exact hgood
   ·omega
   ·exact ⟨(by first | rfl | (congr 1; omega) | simp), trivial⟩
   ·exact (Some'.weak (.nil _))
  refine .mb h20 ?_
  have p20 := h20; try simp only [bs] at p20
  iterate 4 refine .pass rfl ?_
  refine .w (.bool false) ?_
  refine .done ?_
  refine .cond (b := false) rfl (fun h => nomatch h) (fun _ => ?_)
  refine .skip ?_
  refine .blockEnd ?_
  have hgood : ((dnx T k).nm == nm && decide ((dnx T k).z < i0)) = false := by first | (rw [h20, Bool.true_and]; exact h25) | (rw [h20]; rfl)
  refine .region ?_
  refine .u (.int .i64 ((((k : Nat) : Int)) + 1)) (.add rfl rfl rfl (by omega) (by omega)) ?_
  refine .m ?_
  refine .done ?_
  refine .goal ⟨(by repeat (first | exact Same.refl _ _ | refine Same.put rfl ?_ | refine Same.over rfl rfl ?_)), k + 1, ?_, ?_, ?_, ?_⟩
  ·refine ⟨by omega, ?_⟩
   intro i hi
   rcases Nat.lt_succ_iff_lt_or_eq.1 hi with h | h
   ·exact hinv.2 i h
   ·rw [h]; exact hgood
  ·omega
  ·exact ⟨(by first | rfl | (congr 1; omega) | simp), trivial⟩
  ·exact (Some'.weak (.nil _))
 have p12 := h12; try simp only [bs] at p12
 have hkn : k = m := by omega
 have hfd : finR T nm i0 = -1 := by rw [finR, hTm, ← hkn]; exact findI_none hinv.2
 refine .exit rfl ?_
 refine .sr ?_
 refine .m ?_
 refine .done ?_
 refine .ret ?_
 refine ⟨.int .i64 (-1), [], Out.one rfl rfl, (Some'.weak (.nil _)), ?_⟩
 rw [hfd]

set_option maxHeartbeats 2000000 in
set_option maxRecDepth 20000 in
theorem width_spec {r n m : Nat} {va vd vt : Value} {L : List LV} {T : List Dn} {i0 : Int} {w : World} (hr : Sl w (.slice (some ⟨r, 0, none⟩) 1 1) 2 1 [va, vd]) (ha : Sl w va 7 n (rls L)) (hA : RQ w L) (hd : Sl w vt 4 m (dns T)) (h1 : 1 ≤ n) : Calls Tryz.prog 84 #[.pointer (some ⟨r, 0, none⟩), vt, .int .i64 i0] w (Post No w fun v _ => v = .int .i64 (widR T (L.map (·.1)) i0)) := by
 have hLn : L.length = n := by have := ha.1; simp at this; omega
 have hn := ha.le
 obtain ⟨A, c, rfl, hnc, _⟩ := ha.form0
 obtain ⟨X, hX⟩ : ∃ X, L.map (·.1) = X := ⟨_, rfl⟩
 have hXl : X.length = n := by rw [← hX, List.length_map]; exact hLn
 obtain ⟨bl, ol, rfl⟩ := ha.opn h1
 rw [hX]
 have hTm : T.length = m := by have := hd.1; simp at this; omega
 have hm := hd.le
 obtain ⟨Ad, cd, rfl, hmc, _⟩ := hd.form0
 refine enter (n := 35) (args := [.pointer (some ⟨r, 0, none⟩), .slice Ad m cd, .int .i64 i0]) Tryz.func84 rfl rfl (St.empty _ _) ?_
 refine .sr ?_
 refine .m ?_
 refine .done ?_
 refine .seq ?_
 refine .sr ?_
 refine .m ?_
 refine .u (.int .i64 (((m : Nat) : Int))) (.len Tsl_46 rfl) ?_
 refine .m ?_
 refine .done ?_
 refine .block ?_
 refine Run.loop (ι := Nat) [6, 8, 11, 12, 13, 14, 15, 16, 17, 18, 19, 20, 21, 22, 23, 24, 25, 26, 27] (fun k => [(11, .int .i64 (((k : Nat) : Int)))]) (fun k => []) (fun k => k ≤ m ∧ ∀ i, i < k → ((decide ((dnx T i).a ≤ i0) && decide (i0 < (dnx T i).z))) = false) (fun k => m - k) 0 ?_ ?_ ?_ ?_
 ·exact ⟨Nat.zero_le _, fun i hi => by omega⟩
 ·exact ⟨rfl, trivial⟩
 ·exact (Some'.weak (.nil _))
 rintro k fr hinv
 show Run _ _ (over _ _ [(11, .int .i64 (((k : Nat) : Int)))] fr) []
 try dsimp only at hinv
 refine .sr ?_
 refine .w (.bool (decide ((((k : Nat) : Int)) < (((m : Nat) : Int))))) ?_
 refine .done ?_
 refine .seq ?_
 refine .cond (b := decide ((((k : Nat) : Int)) < (((m : Nat) : Int)))) rfl (fun h12 => ?_) (fun h12 => ?_)
 ·have p12 := h12; try simp only [bs] at p12
  have hltk : k < m := by omega
  obtain ⟨bd, od, rfl⟩ := hd.opn (by omega)
  refine .skip ?_
  refine .seq ?_
  refine .block ?_
  refine .sr ?_
  refine .u (.pointer (some ⟨bd, od + k * 4, none⟩)) (.ix k Tsl_46) ?_
  refine .u (.agg #[sv ((dnx T k).nm), .int .i64 ((dnx T k).n), .int .i64 ((dnx T k).a), .int .i64 ((dnx T k).z)]) (.loadN (cs := [sv ((dnx T k).nm), .int .i64 ((dnx T k).n), .int .i64 ((dnx T k).a), .int .i64 ((dnx T k).z)]) Tagg_50 rfl (Cells.arg (k := k * 4) hd rfl (by omega) (dns_pre0 (k := k) (by omega)))) ?_
  refine .step rfl (.alloc (zs := [sv ([]), .int .i64 0, .int .i64 0, .int .i64 0]) Tzero_50 fun b1 => ?_)
  refine .step rfl (.storeAll (us := [sv ((dnx T k).nm), .int .i64 ((dnx T k).n), .int .i64 ((dnx T k).a), .int .i64 ((dnx T k).z)]) Tsize_50 rfl rfl rfl (.here _) rfl ?_)
  refine .dsr ?_
  refine .m ?_
  refine .fa Tfo_50_2 ?_
  refine .u (.int .i64 ((dnx T k).a)) (.load1 Tone_3 rfl (.b (.head _))) ?_
  refine .w (.bool (decide (i0 ≥ ((dnx T k).a)))) ?_
  rcases Bool.eq_false_or_eq_true (decide (i0 ≥ ((dnx T k).a))) with h19 | h19
  ·refine .mb h19 ?_
   have p19 := h19; try simp only [bs] at p19
   refine .m ?_
   refine .fa Tfo_50_3 ?_
   refine .u (.int .i64 ((dnx T k).z)) (.load1 Tone_3 rfl (.b (.head _))) ?_
   refine .w (.bool (decide (i0 < ((dnx T k).z)))) ?_
   refine .w (.bool (decide (i0 < ((dnx T k).z)))) ?_
   refine .done ?_
   refine .cond (b := decide (i0 < ((dnx T k).z))) rfl (fun h24 => ?_) (fun h24 => ?_)
   ·have p24 := h24; try simp only [bs] at p24
    refine .seq ?_
    have hfd : widR T X i0 = (dnx T k).n := by rw [widR, findI_hit (k := k) hinv.2 (by rw [show decide ((dnx T k).a ≤ i0) = true from h19, Bool.true_and]; exact h24) (by omega), if_pos (by omega), Int.toNat_natCast]
    refine .region ?_
    refine .fa Tfo_50_1 ?_
    refine .u (.int .i64 ((dnx T k).n)) (.load1 Tone_3 rfl (.b (.head _))) ?_
    refine .m ?_
    refine .done ?_
    refine .ret ?_
    refine ⟨.int .i64 ((dnx T k).n), [], Out.one rfl rfl, (Some'.weak (.nil _)), ?_⟩
    rw [hfd]; try rw [hxX]
   have p24 := h24; try simp only [bs] at p24
   refine .skip ?_
   refine .blockEnd ?_
   have hgood : (decide ((dnx T k).a ≤ i0) && decide (i0 < (dnx T k).z)) = false := by first | (rw [show decide ((dnx T k).a ≤ i0) = true from h19, Bool.true_and]; exact h24) | (rw [show decide ((dnx T k).a ≤ i0) = false from h19]; rfl)
   refine .region ?_
   refine .u (.int .i64 ((((k : Nat) : Int)) + 1)) (.add rfl rfl rfl (by omega) (by omega)) ?_
   refine .m ?_
   refine .done ?_
   refine .goal ⟨(by repeat (first | exact Same.refl _ _ | refine Same.put rfl ?_ | refine Same.over rfl rfl ?_)), k + 1, ?_, ?_, ?_, ?_⟩
   ·refine ⟨by omega, ?_⟩
    intro i hi
    rcases Nat.lt_succ_iff_lt_or_eq.1 hi with h | h
    ·exact hinv.2 i h
    ·rw [h]; exact hgood
   ·omega
   ·exact ⟨(by first | rfl | (congr 1; omega) | simp), trivial⟩
   ·exact (Some'.weak (.nil _))
  refine .mb h19 ?_
  have p19 := h19; try simp only [bs] at p19
  iterate 4 refine .pass rfl ?_
  refine .w (.bool false) ?_
  refine .done ?_
  refine .cond (b := false) rfl (fun h => nomatch h) (fun _ => ?_)
  refine .skip ?_
  refine .blockEnd ?_
  have hgood : (decide ((dnx T k).a ≤ i0) && decide (i0 < (dnx T k).z)) = false := by first | (rw [show decide ((dnx T k).a ≤ i0) = true from h19, Bool.true_and]; exact h24) | (rw [show decide ((dnx T k).a ≤ i0) = false from h19]; rfl)
  refine .region ?_
  refine .u (.int .i64 ((((k : Nat) : Int)) + 1)) (.add rfl rfl rfl (by omega) (by omega)) ?_
  refine .m ?_
  refine .done ?_
  refine .goal ⟨(by repeat (first | exact Same.refl _ _ | refine Same.put rfl ?_ | refine Same.over rfl rfl ?_)), k + 1, ?_, ?_, ?_, ?_⟩
  ·refine ⟨by omega, ?_⟩
   intro i hi
   rcases Nat.lt_succ_iff_lt_or_eq.1 hi with h | h
   ·exact hinv.2 i h
   ·rw [h]; exact hgood
  ·omega
  ·exact ⟨(by first | rfl | (congr 1; omega) | simp), trivial⟩
  ·exact (Some'.weak (.nil _))
 have p12 := h12; try simp only [bs] at p12
 have hkn : k = m := by omega
 have hfd : widR T X i0 = (liAt X 0).num := by rw [widR, hTm, ← hkn, findI_none hinv.2]; rfl
 obtain ⟨x, hx⟩ : ∃ x, (tx L 0).1 = x := ⟨_, rfl⟩
 obtain ⟨Aq, cq, hq, hqc, _⟩ := (hA 0 (by omega)).form0
 rw [hx] at hq hqc
 have hxX : liAt X 0 = x := by rw [← hX, ← tx_li, hx]
 refine .exit rfl ?_
 refine .sr ?_
 refine .m ?_
 refine .u (.pointer (some ⟨r, 0, none⟩)) (.nilCheck rfl) ?_
 refine .fa Tfo_54_0 ?_
 refine .u (.slice (some ⟨bl, ol, none⟩) n c) (.load1 Tone_51 rfl (Cells.env (k := 0) hr rfl (by decide) ⟨rfl, trivial⟩)) ?_
 refine .u (.pointer (some ⟨bl, ol, none⟩)) (.ix 0 Tsl_51) ?_
 refine .fa Tfo_77_2 ?_
 refine .u (.int .i64 (x.num)) (.load1 Tone_3 rfl (Cells.arg (k := 4) ha rfl (by omega) (rls_num (k := 0) (by omega) hx))) ?_
 refine .m ?_
 refine .done ?_
 refine .ret ?_
 refine ⟨.int .i64 (x.num), [], Out.one rfl rfl, (Some'.weak (.nil _)), ?_⟩
 rw [hfd]; try rw [hxX]

set_option maxHeartbeats 4000000 in
set_option maxRecDepth 20000 in
theorem end_spec {r n : Nat} {va vd : Value} {L : List LV} {i0 : Nat} {w : World} (hr : Sl w (.slice (some ⟨r, 0, none⟩) 1 1) 2 1 [va, vd]) (ha : Sl w va 7 n (rls L)) (hA : RQ w L) (hi0 : i0 ≤ n) (h1 : 1 ≤ n) (hn16 : n ≤ 16777216) : Calls Tryz.prog 78 #[.pointer (some ⟨r, 0, none⟩), .int .i64 ((i0 : Nat) : Int)] w (Post No w fun v _ => v = .int .i64 ((endX (L.map (·.1)) i0 : Nat) : Int)) := by
 have hLn : L.length = n := by have := ha.1; simp at this; omega
 have hn := ha.le
 obtain ⟨A, c, rfl, hnc, _⟩ := ha.form0
 obtain ⟨X, hX⟩ : ∃ X, L.map (·.1) = X := ⟨_, rfl⟩
 have hXl : X.length = n := by rw [← hX, List.length_map]; exact hLn
 obtain ⟨bl, ol, rfl⟩ := ha.opn h1
 rw [hX]
 refine enter (n := 42) (args := [.pointer (some ⟨r, 0, none⟩), .int .i64 (((i0 : Nat) : Int))]) Tryz.func78 rfl rfl (St.empty _ _) ?_
 refine .sr ?_
 refine .m ?_
 refine .dsr ?_
 refine .m ?_
 refine .done ?_
 refine .seq ?_
 refine .sr ?_
 iterate 2 refine .m ?_
 refine .done ?_
 refine .block ?_
 refine Run.loop (ι := Nat × Int) [4, 5, 6, 8, 9, 10, 11, 12, 13, 14, 15, 16, 17, 18, 19, 20, 21, 22, 23, 24, 25, 26, 27, 28, 29, 30, 31, 32, 33, 34, 35, 36] (fun ⟨k, dp⟩ => [(5, .int .i64 dp), (6, .int .i64 (((k : Nat) : Int)))]) (fun ⟨k, dp⟩ => []) (fun ⟨k, dp⟩ => k ≤ n ∧ (-((k : Nat) : Int) ≤ dp ∧ dp ≤ k) ∧ endD (X.drop k) k dp = endX X i0) (fun ⟨k, dp⟩ => n - k) (i0, 0) ?_ ?_ ?_ ?_
 ·exact ⟨hi0, by omega, rfl⟩
 ·exact ⟨rfl, rfl, trivial⟩
 ·exact (Some'.weak (.nil _))
 rintro ⟨k, dp⟩ fr hinv
 show Run _ _ (over _ _ [(5, .int .i64 dp), (6, .int .i64 (((k : Nat) : Int)))] fr) []
 try dsimp only at hinv
 refine .seq ?_
 refine .sr ?_
 iterate 2 refine .m ?_
 refine .u (.pointer (some ⟨r, 0, none⟩)) (.nilCheck rfl) ?_
 refine .fa Tfo_54_0 ?_
 refine .u (.slice (some ⟨bl, ol, none⟩) n c) (.load1 Tone_51 rfl (Cells.env (k := 0) hr rfl (by decide) ⟨rfl, trivial⟩)) ?_
 refine .u (.int .i64 (((n : Nat) : Int))) (.len Tsl_51 rfl) ?_
 refine .w (.bool (decide ((((k : Nat) : Int)) < (((n : Nat) : Int))))) ?_
 refine .done ?_
 refine .cond (b := decide ((((k : Nat) : Int)) < (((n : Nat) : Int)))) rfl (fun h14 => ?_) (fun h14 => ?_)
 ·have p14 := h14; try simp only [bs] at p14
  have hltk : k < n := by omega
  obtain ⟨hk, hdp, hgo⟩ := hinv
  obtain ⟨x, hx⟩ : ∃ x, (tx L k).1 = x := ⟨_, rfl⟩
  obtain ⟨Aq, cq, hq, hqc, _⟩ := (hA k (by omega)).form0
  rw [hx] at hq hqc
  have hxX : liAt X k = x := by rw [← hX, ← tx_li, hx]
  rw [endD_at (by omega) hxX] at hgo
  refine .skip ?_
  refine .seq ?_
  refine .block ?_
  refine .seq ?_
  refine .sr ?_
  refine .m ?_
  refine .u (.pointer (some ⟨r, 0, none⟩)) (.nilCheck rfl) ?_
  refine .fa Tfo_54_0 ?_
  refine .u (.slice (some ⟨bl, ol, none⟩) n c) (.load1 Tone_51 rfl (Cells.env (k := 0) hr rfl (by decide) ⟨rfl, trivial⟩)) ?_
  refine .m ?_
  refine .u (.pointer (some ⟨bl, ol + k * 7, none⟩)) (.ix k Tsl_51) ?_
  refine .fa Tfo_77_0 ?_
  refine .u (sv (x.word)) (.load1 Tone_9 rfl (Cells.arg (k := k * 7) ha rfl (by omega) (rls_word (k := k) (by omega) hx))) ?_
  refine .done ?_
  refine .block ?_
  refine .seq ?_
  refine .sr ?_
  refine .u (.bool ((x.word) == wR)) (.eqS rfl rfl) ?_
  refine .m ?_
  refine .done ?_
  refine .cond (b := (x.word) == wR) rfl (fun h25 => ?_) (fun h25 => ?_)
  ·have p25 := h25; try simp only [bs] at p25
   rw [h25]
   refine .skip ?_
   refine .cond (b := true) rfl (fun _ => ?_) (fun h => nomatch h)
   rw [dpS_up (by first | exact .inl p25 | exact .inr p25)] at hgo
   refine .region ?_
   refine .m ?_
   refine .u (.int .i64 (dp + 1)) (.add rfl rfl rfl (by omega) (by omega)) ?_
   refine .m ?_
   refine .done ?_
   refine .blockEnd ?_
   refine .sr ?_
   refine .m ?_
   refine .w (.bool ((dp + 1) == 0)) ?_
   refine .done ?_
   refine .cond (b := (dp + 1) == 0) rfl (fun h35 => ?_) (fun h35 => ?_)
   ·have p35 := h35; try simp only [bs] at p35
    rw [if_pos p35] at hgo
    refine .sr ?_
    iterate 2 refine .m ?_
    refine .done ?_
    refine .ret ?_
    refine ⟨.int .i64 (((k : Nat) : Int)), [], Out.one rfl rfl, (Some'.weak (.nil _)), ?_⟩
    first | exact congrArg (fun q : Nat => Value.int .i64 ((q : Nat) : Int)) hgo | (rw [← hgo]; congr 1; omega)
   have p35 := h35; try simp only [bs] at p35
   rw [if_neg p35] at hgo
   refine .skip ?_
   refine .blockEnd ?_
   refine .region ?_
   refine .m ?_
   refine .u (.int .i64 ((((k : Nat) : Int)) + 1)) (.add rfl rfl rfl (by omega) (by omega)) ?_
   refine .m ?_
   refine .done ?_
   refine .goal ⟨(by repeat (first | exact Same.refl _ _ | refine Same.put rfl ?_ | refine Same.over rfl rfl ?_)), (k + 1, dp + 1), ?_, ?_, ?_, ?_⟩
   ·exact ⟨by omega, by omega, hgo⟩
   ·show n - (k + 1) < n - k; omega
   ·exact ⟨(by first | rfl | (congr 1; omega) | simp), (by first | rfl | (congr 1; omega) | simp), trivial⟩
   ·exact (Some'.weak (.nil _))
  have p25 := h25; try simp only [bs] at p25
  have h25a := p25
  refine .region ?_
  refine .u (.bool ((x.word) == wD)) (.eqS rfl rfl) ?_
  refine .m ?_
  refine .done ?_
  refine .cond (b := (x.word) == wD) rfl (fun h25 => ?_) (fun h25 => ?_)
  ·have p25 := h25; try simp only [bs] at p25
   rw [dpS_up (by first | exact .inl p25 | exact .inr p25)] at hgo
   refine .region ?_
   refine .m ?_
   refine .u (.int .i64 (dp + 1)) (.add rfl rfl rfl (by omega) (by omega)) ?_
   refine .m ?_
   refine .done ?_
   refine .blockEnd ?_
   refine .sr ?_
   refine .m ?_
   refine .w (.bool ((dp + 1) == 0)) ?_
   refine .done ?_
   refine .cond (b := (dp + 1) == 0) rfl (fun h35 => ?_) (fun h35 => ?_)
   ·have p35 := h35; try simp only [bs] at p35
    rw [if_pos p35] at hgo
    refine .sr ?_
    iterate 2 refine .m ?_
    refine .done ?_
    refine .ret ?_
    refine ⟨.int .i64 (((k : Nat) : Int)), [], Out.one rfl rfl, (Some'.weak (.nil _)), ?_⟩
    first | exact congrArg (fun q : Nat => Value.int .i64 ((q : Nat) : Int)) hgo | (rw [← hgo]; congr 1; omega)
   have p35 := h35; try simp only [bs] at p35
   rw [if_neg p35] at hgo
   refine .skip ?_
   refine .blockEnd ?_
   refine .region ?_
   refine .m ?_
   refine .u (.int .i64 ((((k : Nat) : Int)) + 1)) (.add rfl rfl rfl (by omega) (by omega)) ?_
   refine .m ?_
   refine .done ?_
   refine .goal ⟨(by repeat (first | exact Same.refl _ _ | refine Same.put rfl ?_ | refine Same.over rfl rfl ?_)), (k + 1, dp + 1), ?_, ?_, ?_, ?_⟩
   ·exact ⟨by omega, by omega, hgo⟩
   ·show n - (k + 1) < n - k; omega
   ·exact ⟨(by first | rfl | (congr 1; omega) | simp), (by first | rfl | (congr 1; omega) | simp), trivial⟩
   ·exact (Some'.weak (.nil _))
  have p25 := h25; try simp only [bs] at p25
  have h25b := p25
  refine .sr ?_
  refine .u (.bool ((x.word) == wE)) (.eqS rfl rfl) ?_
  refine .m ?_
  refine .done ?_
  refine .cond (b := (x.word) == wE) rfl (fun h30 => ?_) (fun h30 => ?_)
  ·have p30 := h30; try simp only [bs] at p30
   rw [dpS_dn p30] at hgo
   refine .region ?_
   refine .m ?_
   refine .u (.int .i64 (dp - 1)) (.sub rfl rfl rfl (by omega) (by omega)) ?_
   refine .m ?_
   refine .done ?_
   refine .blockEnd ?_
   refine .sr ?_
   refine .m ?_
   refine .w (.bool ((dp - 1) == 0)) ?_
   refine .done ?_
   refine .cond (b := (dp - 1) == 0) rfl (fun h35 => ?_) (fun h35 => ?_)
   ·have p35 := h35; try simp only [bs] at p35
    rw [if_pos p35] at hgo
    refine .sr ?_
    iterate 2 refine .m ?_
    refine .done ?_
    refine .ret ?_
    refine ⟨.int .i64 (((k : Nat) : Int)), [], Out.one rfl rfl, (Some'.weak (.nil _)), ?_⟩
    first | exact congrArg (fun q : Nat => Value.int .i64 ((q : Nat) : Int)) hgo | (rw [← hgo]; congr 1; omega)
   have p35 := h35; try simp only [bs] at p35
   rw [if_neg p35] at hgo
   refine .skip ?_
   refine .blockEnd ?_
   refine .region ?_
   refine .m ?_
   refine .u (.int .i64 ((((k : Nat) : Int)) + 1)) (.add rfl rfl rfl (by omega) (by omega)) ?_
   refine .m ?_
   refine .done ?_
   refine .goal ⟨(by repeat (first | exact Same.refl _ _ | refine Same.put rfl ?_ | refine Same.over rfl rfl ?_)), (k + 1, dp - 1), ?_, ?_, ?_, ?_⟩
   ·exact ⟨by omega, by omega, hgo⟩
   ·show n - (k + 1) < n - k; omega
   ·exact ⟨(by first | rfl | (congr 1; omega) | simp), (by first | rfl | (congr 1; omega) | simp), trivial⟩
   ·exact (Some'.weak (.nil _))
  have p30 := h30; try simp only [bs] at p30
  rw [dpS_no h25a h25b p30] at hgo
  refine .skip ?_
  refine .blockEnd ?_
  refine .sr ?_
  refine .m ?_
  refine .w (.bool (dp == 0)) ?_
  refine .done ?_
  refine .cond (b := dp == 0) rfl (fun h35 => ?_) (fun h35 => ?_)
  ·have p35 := h35; try simp only [bs] at p35
   rw [if_pos p35] at hgo
   refine .sr ?_
   iterate 2 refine .m ?_
   refine .done ?_
   refine .ret ?_
   refine ⟨.int .i64 (((k : Nat) : Int)), [], Out.one rfl rfl, (Some'.weak (.nil _)), ?_⟩
   first | exact congrArg (fun q : Nat => Value.int .i64 ((q : Nat) : Int)) hgo | (rw [← hgo]; congr 1; omega)
  have p35 := h35; try simp only [bs] at p35
  rw [if_neg p35] at hgo
  refine .skip ?_
  refine .blockEnd ?_
  refine .region ?_
  refine .m ?_
  refine .u (.int .i64 ((((k : Nat) : Int)) + 1)) (.add rfl rfl rfl (by omega) (by omega)) ?_
  refine .m ?_
  refine .done ?_
  refine .goal ⟨(by repeat (first | exact Same.refl _ _ | refine Same.put rfl ?_ | refine Same.over rfl rfl ?_)), (k + 1, dp), ?_, ?_, ?_, ?_⟩
  ·exact ⟨by omega, by omega, hgo⟩
  ·show n - (k + 1) < n - k; omega
  ·exact ⟨(by first | rfl | (congr 1; omega) | simp), (by first | rfl | (congr 1; omega) | simp), trivial⟩
  ·exact (Some'.weak (.nil _))
 have p14 := h14; try simp only [bs] at p14
 obtain ⟨hk, hdp, hgo⟩ := hinv
 have hkn : k = X.length := by omega
 rw [endD_end hkn] at hgo
 refine .exit rfl ?_
 refine .sr ?_
 refine .m ?_
 refine .u (.pointer (some ⟨r, 0, none⟩)) (.nilCheck rfl) ?_
 refine .fa Tfo_54_0 ?_
 refine .u (.slice (some ⟨bl, ol, none⟩) n c) (.load1 Tone_51 rfl (Cells.env (k := 0) hr rfl (by decide) ⟨rfl, trivial⟩)) ?_
 refine .u (.int .i64 (((n : Nat) : Int))) (.len Tsl_51 rfl) ?_
 refine .m ?_
 refine .done ?_
 refine .ret ?_
 refine ⟨.int .i64 (((n : Nat) : Int)), [], Out.one rfl rfl, (Some'.weak (.nil _)), ?_⟩
 first | exact congrArg (fun q : Nat => Value.int .i64 ((q : Nat) : Int)) hgo | (rw [← hgo]; congr 1; omega)

end Go.Proofs.YtgpkpopbajkklaaGreatDoor
/- Walks: the reference looks for faults of names and of gates. -/
set_option linter.unusedSimpArgs false
set_option linter.unusedVariables false
namespace Go.Proofs.YtgpkpopbajkklaaGreatDoor
open Go Go.RowKit
namespace TxrT
theorem Tagg_50 : aggOf Tryz.prog 50 = some 4 := by kernel_rfl
theorem Tagg_69 : aggOf Tryz.prog 69 = some 3 := by kernel_rfl
theorem Tagg_77 : aggOf Tryz.prog 77 = some 7 := by kernel_rfl
theorem Tcall_69 : callable Tryz.prog 69 = true := by kernel_rfl
theorem Tcall_77 : callable Tryz.prog 77 = true := by kernel_rfl
theorem Tcall_84 : callable Tryz.prog 84 = true := by kernel_rfl
theorem Tcall_85 : callable Tryz.prog 85 = true := by kernel_rfl
theorem Tfo_50_0 : fieldOff Tryz.prog 50 0 = some 0 := by kernel_rfl
theorem Tfo_50_1 : fieldOff Tryz.prog 50 1 = some 1 := by kernel_rfl
theorem Tfo_50_2 : fieldOff Tryz.prog 50 2 = some 2 := by kernel_rfl
theorem Tfo_54_0 : fieldOff Tryz.prog 54 0 = some 0 := by kernel_rfl
theorem Tfo_77_0 : fieldOff Tryz.prog 77 0 = some 0 := by kernel_rfl
theorem Tfo_77_1 : fieldOff Tryz.prog 77 1 = some 1 := by kernel_rfl
theorem Tfo_77_3 : fieldOff Tryz.prog 77 3 = some 5 := by kernel_rfl
theorem Tfo_77_4 : fieldOff Tryz.prog 77 4 = some 6 := by kernel_rfl
theorem Tone_3 : oneOf Tryz.prog 3 = true := by kernel_rfl
theorem Tone_51 : oneOf Tryz.prog 51 = true := by kernel_rfl
theorem Tone_75 : oneOf Tryz.prog 75 = true := by kernel_rfl
theorem Tone_9 : oneOf Tryz.prog 9 = true := by kernel_rfl
theorem Tsize_50 : (Tryz.prog.info? 50).map (·.size) = some 4 := by kernel_rfl
theorem Tsize_77 : (Tryz.prog.info? 77).map (·.size) = some 7 := by kernel_rfl
theorem Tsl_46 : sliceOf Tryz.prog 46 = some (50, 4, 40, [sv ([]), .int .i64 0, .int .i64 0, .int .i64 0]) := by kernel_rfl
theorem Tsl_51 : sliceOf Tryz.prog 51 = some (77, 7, 88, [sv ([]), .int .i64 0, .int .i64 0, .int .i64 0, .int .i64 0, sv ([]), .slice none 0 0]) := by kernel_rfl
theorem Tsl_75 : sliceOf Tryz.prog 75 = some (3, 1, 8, [.int .i64 0]) := by kernel_rfl
theorem Tzero_50 : zeroOf Tryz.prog 50 = some [sv ([]), .int .i64 0, .int .i64 0, .int .i64 0] := by kernel_rfl
theorem Tzero_77 : zeroOf Tryz.prog 77 = some [sv ([]), .int .i64 0, .int .i64 0, .int .i64 0, .int .i64 0, sv ([]), .slice none 0 0] := by kernel_rfl
end TxrT
open TxrT
/-- A line whose name is at fault: a definition's that was there, a call's that is not. -/
def dupN (T : List Dn) (nm : Bs) (i : Int) (k : Nat) : Bool := (dnx T k).nm == nm && decide ((dnx T k).a ≤ i)
def evN (T : List Dn) (x : Li) (i : Int) : Bool := ((x.word == wD) && anyI (dupN T x.nm i) T.length) || ((x.word == wC) && decide (finR T x.nm i < 0))
def namR (T : List Dn) (X : List Li) : Int := findI (fun i => evN T (liAt X i) ((i : Nat) : Int)) X.length + 1
/-- A line whose gate or call is at fault. -/
def badR (N : Int) (q : List Int) (k : Nat) : Bool := decide (N ≤ ix q k) || hasI q (ix q k) k
def evG (T : List Dn) (X : List Li) (x : Li) (i : Int) : Bool := ((x.word == wG) && !gateOk (widR T X i) x.g3.1 x.g3.2.1 x.g3.2.2) || ((x.word == wC) && (decide (((x.ar.length : Nat) : Int) ≠ (dnx T (finR T x.nm i).toNat).n) || anyI (badR (widR T X i) x.ar) x.ar.length))
def gatR (T : List Dn) (X : List Li) : Int := findI (fun i => evG T X (liAt X i) ((i : Nat) : Int)) X.length + 1
theorem finR_lt {T : List Dn} {nm : Bs} {i : Int} : finR T nm i < (T.length : Int) := (findI_lt).2
/-- What is known of definitions and calls before gates are looked at. -/
def WidOk (T : List Dn) (X : List Li) : Prop := ∀ i : Nat, i < X.length → 1 ≤ widR T X ((i : Nat) : Int) ∧ widR T X ((i : Nat) : Int) ≤ 5
def FinOk (T : List Dn) (X : List Li) : Prop := ∀ i : Nat, i < X.length → (liAt X i).word = wC → 0 ≤ finR T (liAt X i).nm ((i : Nat) : Int)

set_option maxHeartbeats 8000000 in
set_option maxRecDepth 20000 in
theorem names_spec {r n m : Nat} {va vd vt : Value} {L : List LV} {T : List Dn} {w : World} (hr : Sl w (.slice (some ⟨r, 0, none⟩) 1 1) 2 1 [va, vd]) (ha : Sl w va 7 n (rls L)) (hA : RQ w L) (hd : Sl w vt 4 m (dns T)) (h1 : 1 ≤ n) (hn16 : n ≤ 16777216) : Calls Tryz.prog 53 #[.pointer (some ⟨r, 0, none⟩), vt] w (Post No w fun v _ => v = .int .i64 (namR T (L.map (·.1)))) := by
 have hLn : L.length = n := by have := ha.1; simp at this; omega
 have hn := ha.le
 obtain ⟨A, c, rfl, hnc, _⟩ := ha.form0
 obtain ⟨X, hX⟩ : ∃ X, L.map (·.1) = X := ⟨_, rfl⟩
 have hXl : X.length = n := by rw [← hX, List.length_map]; exact hLn
 obtain ⟨bl, ol, rfl⟩ := ha.opn h1
 rw [hX]
 have hTm : T.length = m := by have := hd.1; simp at this; omega
 have hm := hd.le
 obtain ⟨Ad, cd, rfl, hmc, _⟩ := hd.form0
 refine enter (n := 56) (args := [.pointer (some ⟨r, 0, none⟩), .slice Ad m cd]) Tryz.func53 rfl rfl (St.empty _ _) ?_
 refine .sr ?_
 refine .m ?_
 refine .done ?_
 refine .seq ?_
 refine .sr ?_
 refine .m ?_
 refine .u (.pointer (some ⟨r, 0, none⟩)) (.nilCheck rfl) ?_
 refine .fa Tfo_54_0 ?_
 refine .u (.slice (some ⟨bl, ol, none⟩) n c) (.load1 Tone_51 rfl (Cells.env (k := 0) hr rfl (by decide) ⟨rfl, trivial⟩)) ?_
 refine .u (.int .i64 (((n : Nat) : Int))) (.len Tsl_51 rfl) ?_
 refine .m ?_
 refine .done ?_
 refine .block ?_
 refine Run.loop (ι := Nat) [4, 5, 6, 8, 14, 15, 16, 17, 18, 19, 20, 21, 22, 23, 24, 25, 26, 27, 28, 29, 30, 31, 32, 33, 34, 35, 36, 37, 38, 39, 40, 41, 42, 43, 44, 45, 46, 47, 48, 49, 50, 51, 52, 53, 54, 55] (fun k => [(14, .int .i64 (((k : Nat) : Int)))]) (fun k => []) (fun k => k ≤ n ∧ ∀ i, i < k → evN T (liAt X i) ((i : Nat) : Int) = false) (fun k => n - k) 0 ?_ ?_ ?_ ?_
 ·exact ⟨Nat.zero_le _, fun i hi => by omega⟩
 ·exact ⟨rfl, trivial⟩
 ·exact (Some'.weak (.nil _))
 rintro k fr hinv
 show Run _ _ (over _ _ [(14, .int .i64 (((k : Nat) : Int)))] fr) []
 try dsimp only at hinv
 refine .sr ?_
 refine .w (.bool (decide ((((k : Nat) : Int)) < (((n : Nat) : Int))))) ?_
 refine .done ?_
 refine .seq ?_
 refine .cond (b := decide ((((k : Nat) : Int)) < (((n : Nat) : Int)))) rfl (fun h15 => ?_) (fun h15 => ?_)
 ·have p15 := h15; try simp only [bs] at p15
  have hltk : k < n := by omega
  obtain ⟨hk, hall⟩ := hinv
  obtain ⟨x, hx⟩ : ∃ x, (tx L k).1 = x := ⟨_, rfl⟩
  obtain ⟨Aq, cq, hq, hqc, _⟩ := (hA k (by omega)).form0
  rw [hx] at hq hqc
  have hxX : liAt X k = x := by rw [← hX, ← tx_li, hx]
  refine .skip ?_
  refine .seq ?_
  refine .block ?_
  refine .sr ?_
  refine .m ?_
  refine .u (.pointer (some ⟨bl, ol + k * 7, none⟩)) (.ix k Tsl_51) ?_
  refine .u (.agg #[sv (x.word), .int .i64 (x.g3.1), .int .i64 (x.g3.2.1), .int .i64 (x.g3.2.2), .int .i64 (x.num), sv (x.nm), .slice Aq (x.ar.length) cq]) (.loadN (cs := [sv (x.word), .int .i64 (x.g3.1), .int .i64 (x.g3.2.1), .int .i64 (x.g3.2.2), .int .i64 (x.num), sv (x.nm), .slice Aq (x.ar.length) cq]) Tagg_77 rfl (Cells.arg (k := k * 7) ha rfl (by omega) (rls_preF (k := k) (by omega) hx hq))) ?_
  refine .step rfl (.alloc (zs := [sv ([]), .int .i64 0, .int .i64 0, .int .i64 0, .int .i64 0, sv ([]), .slice none 0 0]) Tzero_77 fun b1 => ?_)
  refine .m ?_
  refine .step rfl (.storeAll (us := [sv (x.word), .int .i64 (x.g3.1), .int .i64 (x.g3.2.1), .int .i64 (x.g3.2.2), .int .i64 (x.num), sv (x.nm), .slice Aq (x.ar.length) cq]) Tsize_77 rfl rfl rfl (.here _) rfl ?_)
  refine .done ?_
  refine .seq ?_
  refine .sr ?_
  refine .fa Tfo_77_0 ?_
  refine .u (sv (x.word)) (.load1 Tone_9 rfl (.b (.head _))) ?_
  refine .u (.bool ((x.word) == wD)) (.eqS rfl rfl) ?_
  refine .done ?_
  refine .cond (b := (x.word) == wD) rfl (fun h21 => ?_) (fun h21 => ?_)
  ·have p21 := h21; try simp only [bs] at p21
   refine .sr ?_
   refine .m ?_
   refine .u (.int .i64 (((m : Nat) : Int))) (.len Tsl_46 rfl) ?_
   refine .m ?_
   refine .done ?_
   refine .block ?_
   refine Run.loop (ι := Nat) [4, 8, 24, 25, 26, 27, 28, 29, 30, 31, 32, 33, 34, 35, 36, 37, 38, 39, 40, 41] (fun j => [(24, .int .i64 (((j : Nat) : Int)))]) (fun j => [.blk b1 77 [sv (x.word), .int .i64 (x.g3.1), .int .i64 (x.g3.2.1), .int .i64 (x.g3.2.2), .int .i64 (x.num), sv (x.nm), .slice Aq (x.ar.length) cq]]) (fun j => j ≤ m ∧ ∀ i, i < j → dupN T x.nm ((k : Nat) : Int) i = false) (fun j => m - j) 0 ?_ ?_ ?_ ?_
   ·exact ⟨Nat.zero_le _, fun i hi => by omega⟩
   ·exact ⟨rfl, trivial⟩
   ·exact (Some'.weak (.take (.nil _)))
   rintro j fr hinv
   show Run _ _ (over _ _ [(24, .int .i64 (((j : Nat) : Int)))] fr) [.blk b1 77 [sv (x.word), .int .i64 (x.g3.1), .int .i64 (x.g3.2.1), .int .i64 (x.g3.2.2), .int .i64 (x.num), sv (x.nm), .slice Aq (x.ar.length) cq]]
   try dsimp only at hinv
   refine .sr ?_
   refine .w (.bool (decide ((((j : Nat) : Int)) < (((m : Nat) : Int))))) ?_
   refine .done ?_
   refine .seq ?_
   refine .cond (b := decide ((((j : Nat) : Int)) < (((m : Nat) : Int)))) rfl (fun h25 => ?_) (fun h25 => ?_)
   ·have p25 := h25; try simp only [bs] at p25
    have hltj : j < m := by omega
    obtain ⟨hj, halld⟩ := hinv
    obtain ⟨bd, od, rfl⟩ := hd.opn (by omega)
    refine .skip ?_
    refine .seq ?_
    refine .block ?_
    refine .sr ?_
    refine .u (.pointer (some ⟨bd, od + j * 4, none⟩)) (.ix j Tsl_46) ?_
    refine .u (.agg #[sv ((dnx T j).nm), .int .i64 ((dnx T j).n), .int .i64 ((dnx T j).a), .int .i64 ((dnx T j).z)]) (.loadN (cs := [sv ((dnx T j).nm), .int .i64 ((dnx T j).n), .int .i64 ((dnx T j).a), .int .i64 ((dnx T j).z)]) Tagg_50 rfl (Cells.arg (k := j * 4) hd rfl (by omega) (dns_pre0 (k := j) (by omega)))) ?_
    refine .step rfl (.alloc (zs := [sv ([]), .int .i64 0, .int .i64 0, .int .i64 0]) Tzero_50 fun b2 => ?_)
    refine .step rfl (.storeAll (us := [sv ((dnx T j).nm), .int .i64 ((dnx T j).n), .int .i64 ((dnx T j).a), .int .i64 ((dnx T j).z)]) Tsize_50 rfl rfl rfl (.here _) rfl ?_)
    refine .dsr ?_
    refine .fa Tfo_50_0 ?_
    refine .u (sv ((dnx T j).nm)) (.load1 Tone_9 rfl (.b (.head _))) ?_
    refine .fa Tfo_77_3 ?_
    refine .u (sv (x.nm)) (.load1 Tone_9 rfl (.b (.tail _ (.head _)))) ?_
    refine .u (.bool (((dnx T j).nm) == (x.nm))) (.eqS rfl rfl) ?_
    rcases Bool.eq_false_or_eq_true (((dnx T j).nm) == (x.nm)) with h33 | h33
    ·refine .mb h33 ?_
     have p33 := h33; try simp only [bs] at p33
     refine .fa Tfo_50_2 ?_
     refine .u (.int .i64 ((dnx T j).a)) (.load1 Tone_3 rfl (.b (.head _))) ?_
     refine .m ?_
     refine .w (.bool (decide (((dnx T j).a) ≤ (((k : Nat) : Int))))) ?_
     refine .w (.bool (decide (((dnx T j).a) ≤ (((k : Nat) : Int))))) ?_
     refine .done ?_
     refine .cond (b := decide (((dnx T j).a) ≤ (((k : Nat) : Int)))) rfl (fun h38 => ?_) (fun h38 => ?_)
     ·have p38 := h38; try simp only [bs] at p38
      refine .seq ?_
      have hev : evN T (liAt X k) ((k : Nat) : Int) = true := by rw [hxX, evN, h21, anyI_true (i := j) (by omega) (by rw [dupN, h33, Bool.true_and]; exact h38)]; rfl
      have hfin : namR T X = ((k : Nat) : Int) + 1 := by rw [namR, findI_hit hall hev (by omega)]
      refine .region ?_
      refine .m ?_
      refine .u (.int .i64 ((((k : Nat) : Int)) + 1)) (.add rfl rfl rfl (by omega) (by omega)) ?_
      refine .m ?_
      refine .done ?_
      refine .ret ?_
      refine ⟨.int .i64 ((((k : Nat) : Int)) + 1), [], Out.one rfl rfl, (Some'.weak (.nil _)), ?_⟩
      rw [hfin]
     have p38 := h38; try simp only [bs] at p38
     refine .skip ?_
     refine .blockEnd ?_
     have hgoodj : dupN T x.nm ((k : Nat) : Int) j = false := by rw [dupN]; first | (rw [h33, Bool.true_and]; exact h38) | (rw [h33]; rfl)
     refine .region ?_
     refine .u (.int .i64 ((((j : Nat) : Int)) + 1)) (.add rfl rfl rfl (by omega) (by omega)) ?_
     refine .m ?_
     refine .done ?_
     refine .goal ⟨(by repeat (first | exact Same.refl _ _ | refine Same.put rfl ?_ | refine Same.over rfl rfl ?_)), j + 1, ?_, ?_, ?_, ?_⟩
     ·refine ⟨by omega, ?_⟩
      intro i hi
      rcases Nat.lt_succ_iff_lt_or_eq.1 hi with h | h
      ·exact halld i h
      ·rw [h]; exact hgoodj
     ·omega
     ·exact ⟨(by first | rfl | (congr 1; omega) | simp), trivial⟩
     ·exact (Some'.weak (.skip (.take (.nil _))))
    refine .mb h33 ?_
    have p33 := h33; try simp only [bs] at p33
    iterate 4 refine .pass rfl ?_
    refine .w (.bool false) ?_
    refine .done ?_
    refine .cond (b := false) rfl (fun h => nomatch h) (fun _ => ?_)
    refine .skip ?_
    refine .blockEnd ?_
    have hgoodj : dupN T x.nm ((k : Nat) : Int) j = false := by rw [dupN]; first | (rw [h33, Bool.true_and]; exact h38) | (rw [h33]; rfl)
    refine .region ?_
    refine .u (.int .i64 ((((j : Nat) : Int)) + 1)) (.add rfl rfl rfl (by omega) (by omega)) ?_
    refine .m ?_
    refine .done ?_
    refine .goal ⟨(by repeat (first | exact Same.refl _ _ | refine Same.put rfl ?_ | refine Same.over rfl rfl ?_)), j + 1, ?_, ?_, ?_, ?_⟩
    ·refine ⟨by omega, ?_⟩
     intro i hi
     rcases Nat.lt_succ_iff_lt_or_eq.1 hi with h | h
     ·exact halld i h
     ·rw [h]; exact hgoodj
    ·omega
    ·exact ⟨(by first | rfl | (congr 1; omega) | simp), trivial⟩
    ·exact (Some'.weak (.skip (.take (.nil _))))
   have p25 := h25; try simp only [bs] at p25
   obtain ⟨hj, halld⟩ := hinv
   have hdup : ((x.word == wD) && anyI (dupN T x.nm ((k : Nat) : Int)) T.length) = false := by rw [anyI_false fun i hi => halld i (by omega), Bool.and_false]
   refine .exit rfl ?_
   refine .sr ?_
   refine .fa Tfo_77_0 ?_
   refine .u (sv (x.word)) (.load1 Tone_9 rfl (.b (.head _))) ?_
   refine .u (.bool ((x.word) == wC)) (.eqS rfl rfl) ?_
   rcases Bool.eq_false_or_eq_true ((x.word) == wC) with h45 | h45
   ·refine .mb h45 ?_
    have p45 := h45; try simp only [bs] at p45
    refine .m ?_
    refine .fa Tfo_77_3 ?_
    refine .u (sv (x.nm)) (.load1 Tone_9 rfl (.b (.head _))) ?_
    refine .m ?_
    refine .c (.int .i64 (finR T x.nm ((k : Nat) : Int))) [.slice Ad m cd, sv (x.nm), .int .i64 (((k : Nat) : Int))] Tcall_77 (fun w hs => l5Find_spec (hs.sl hd)) ?_
    refine .w (.bool (decide ((finR T x.nm ((k : Nat) : Int)) < 0))) ?_
    refine .w (.bool (decide ((finR T x.nm ((k : Nat) : Int)) < 0))) ?_
    refine .done ?_
    refine .cond (b := decide ((finR T x.nm ((k : Nat) : Int)) < 0)) rfl (fun h52 => ?_) (fun h52 => ?_)
    ·have p52 := h52; try simp only [bs] at p52
     refine .seq ?_
     have hev : evN T (liAt X k) ((k : Nat) : Int) = true := by rw [hxX, evN, hdup, Bool.false_or, h45, Bool.true_and]; exact h52
     have hfin : namR T X = ((k : Nat) : Int) + 1 := by rw [namR, findI_hit hall hev (by omega)]
     refine .region ?_
     refine .m ?_
     refine .u (.int .i64 ((((k : Nat) : Int)) + 1)) (.add rfl rfl rfl (by omega) (by omega)) ?_
     refine .m ?_
     refine .done ?_
     refine .ret ?_
     refine ⟨.int .i64 ((((k : Nat) : Int)) + 1), [], Out.one rfl rfl, (Some'.weak (.nil _)), ?_⟩
     rw [hfin]
    have p52 := h52; try simp only [bs] at p52
    refine .skip ?_
    refine .blockEnd ?_
    have hgood : evN T (liAt X k) ((k : Nat) : Int) = false := by rw [hxX, evN, hdup, Bool.false_or]; first | (rw [h45, Bool.true_and]; exact h52) | (rw [h45]; rfl)
    refine .region ?_
    refine .u (.int .i64 ((((k : Nat) : Int)) + 1)) (.add rfl rfl rfl (by omega) (by omega)) ?_
    refine .m ?_
    refine .done ?_
    refine .goal ⟨(by repeat (first | exact Same.refl _ _ | refine Same.put rfl ?_ | refine Same.over rfl rfl ?_)), k + 1, ?_, ?_, ?_, ?_⟩
    ·refine ⟨by omega, ?_⟩
     intro i hi
     rcases Nat.lt_succ_iff_lt_or_eq.1 hi with h | h
     ·exact hall i h
     ·rw [h]; exact hgood
    ·omega
    ·exact ⟨(by first | rfl | (congr 1; omega) | simp), trivial⟩
    ·exact (Some'.weak (.nil _))
   refine .mb h45 ?_
   have p45 := h45; try simp only [bs] at p45
   iterate 6 refine .pass rfl ?_
   refine .w (.bool false) ?_
   refine .done ?_
   refine .cond (b := false) rfl (fun h => nomatch h) (fun _ => ?_)
   refine .skip ?_
   refine .blockEnd ?_
   have hgood : evN T (liAt X k) ((k : Nat) : Int) = false := by rw [hxX, evN, hdup, Bool.false_or]; first | (rw [h45, Bool.true_and]; exact h52) | (rw [h45]; rfl)
   refine .region ?_
   refine .u (.int .i64 ((((k : Nat) : Int)) + 1)) (.add rfl rfl rfl (by omega) (by omega)) ?_
   refine .m ?_
   refine .done ?_
   refine .goal ⟨(by repeat (first | exact Same.refl _ _ | refine Same.put rfl ?_ | refine Same.over rfl rfl ?_)), k + 1, ?_, ?_, ?_, ?_⟩
   ·refine ⟨by omega, ?_⟩
    intro i hi
    rcases Nat.lt_succ_iff_lt_or_eq.1 hi with h | h
    ·exact hall i h
    ·rw [h]; exact hgood
   ·omega
   ·exact ⟨(by first | rfl | (congr 1; omega) | simp), trivial⟩
   ·exact (Some'.weak (.nil _))
  have p21 := h21; try simp only [bs] at p21
  have hdup : ((x.word == wD) && anyI (dupN T x.nm ((k : Nat) : Int)) T.length) = false := by rw [h21]; rfl
  refine .skip ?_
  refine .sr ?_
  refine .fa Tfo_77_0 ?_
  refine .u (sv (x.word)) (.load1 Tone_9 rfl (.b (.head _))) ?_
  refine .u (.bool ((x.word) == wC)) (.eqS rfl rfl) ?_
  rcases Bool.eq_false_or_eq_true ((x.word) == wC) with h45 | h45
  ·refine .mb h45 ?_
   have p45 := h45; try simp only [bs] at p45
   refine .m ?_
   refine .fa Tfo_77_3 ?_
   refine .u (sv (x.nm)) (.load1 Tone_9 rfl (.b (.head _))) ?_
   refine .m ?_
   refine .c (.int .i64 (finR T x.nm ((k : Nat) : Int))) [.slice Ad m cd, sv (x.nm), .int .i64 (((k : Nat) : Int))] Tcall_77 (fun w hs => l5Find_spec (hs.sl hd)) ?_
   refine .w (.bool (decide ((finR T x.nm ((k : Nat) : Int)) < 0))) ?_
   refine .w (.bool (decide ((finR T x.nm ((k : Nat) : Int)) < 0))) ?_
   refine .done ?_
   refine .cond (b := decide ((finR T x.nm ((k : Nat) : Int)) < 0)) rfl (fun h52 => ?_) (fun h52 => ?_)
   ·have p52 := h52; try simp only [bs] at p52
    refine .seq ?_
    have hev : evN T (liAt X k) ((k : Nat) : Int) = true := by rw [hxX, evN, hdup, Bool.false_or, h45, Bool.true_and]; exact h52
    have hfin : namR T X = ((k : Nat) : Int) + 1 := by rw [namR, findI_hit hall hev (by omega)]
    refine .region ?_
    refine .m ?_
    refine .u (.int .i64 ((((k : Nat) : Int)) + 1)) (.add rfl rfl rfl (by omega) (by omega)) ?_
    refine .m ?_
    refine .done ?_
    refine .ret ?_
    refine ⟨.int .i64 ((((k : Nat) : Int)) + 1), [], Out.one rfl rfl, (Some'.weak (.nil _)), ?_⟩
    rw [hfin]
   have p52 := h52; try simp only [bs] at p52
   refine .skip ?_
   refine .blockEnd ?_
   have hgood : evN T (liAt X k) ((k : Nat) : Int) = false := by rw [hxX, evN, hdup, Bool.false_or]; first | (rw [h45, Bool.true_and]; exact h52) | (rw [h45]; rfl)
   refine .region ?_
   refine .u (.int .i64 ((((k : Nat) : Int)) + 1)) (.add rfl rfl rfl (by omega) (by omega)) ?_
   refine .m ?_
   refine .done ?_
   refine .goal ⟨(by repeat (first | exact Same.refl _ _ | refine Same.put rfl ?_ | refine Same.over rfl rfl ?_)), k + 1, ?_, ?_, ?_, ?_⟩
   ·refine ⟨by omega, ?_⟩
    intro i hi
    rcases Nat.lt_succ_iff_lt_or_eq.1 hi with h | h
    ·exact hall i h
    ·rw [h]; exact hgood
   ·omega
   ·exact ⟨(by first | rfl | (congr 1; omega) | simp), trivial⟩
   ·exact (Some'.weak (.nil _))
  refine .mb h45 ?_
  have p45 := h45; try simp only [bs] at p45
  iterate 6 refine .pass rfl ?_
  refine .w (.bool false) ?_
  refine .done ?_
  refine .cond (b := false) rfl (fun h => nomatch h) (fun _ => ?_)
  refine .skip ?_
  refine .blockEnd ?_
  have hgood : evN T (liAt X k) ((k : Nat) : Int) = false := by rw [hxX, evN, hdup, Bool.false_or]; first | (rw [h45, Bool.true_and]; exact h52) | (rw [h45]; rfl)
  refine .region ?_
  refine .u (.int .i64 ((((k : Nat) : Int)) + 1)) (.add rfl rfl rfl (by omega) (by omega)) ?_
  refine .m ?_
  refine .done ?_
  refine .goal ⟨(by repeat (first | exact Same.refl _ _ | refine Same.put rfl ?_ | refine Same.over rfl rfl ?_)), k + 1, ?_, ?_, ?_, ?_⟩
  ·refine ⟨by omega, ?_⟩
   intro i hi
   rcases Nat.lt_succ_iff_lt_or_eq.1 hi with h | h
   ·exact hall i h
   ·rw [h]; exact hgood
  ·omega
  ·exact ⟨(by first | rfl | (congr 1; omega) | simp), trivial⟩
  ·exact (Some'.weak (.nil _))
 have p15 := h15; try simp only [bs] at p15
 obtain ⟨hk, hall⟩ := hinv
 have hfin : namR T X = 0 := by rw [namR, findI_none fun i hi => hall i (by omega)]; rfl
 refine .exit rfl ?_
 refine .sr ?_
 refine .m ?_
 refine .done ?_
 refine .ret ?_
 refine ⟨.int .i64 0, [], Out.one rfl rfl, (Some'.weak (.nil _)), ?_⟩
 rw [hfin]

set_option maxHeartbeats 8000000 in
set_option maxRecDepth 20000 in
theorem gates_spec {r n m : Nat} {va vd vt : Value} {L : List LV} {T : List Dn} {w : World} (hr : Sl w (.slice (some ⟨r, 0, none⟩) 1 1) 2 1 [va, vd]) (ha : Sl w va 7 n (rls L)) (hA : RQ w L) (hd : Sl w vt 4 m (dns T)) (h1 : 1 ≤ n) (hn16 : n ≤ 16777216) (hwid : WidOk T (L.map (·.1))) (hfok : FinOk T (L.map (·.1))) : Calls Tryz.prog 54 #[.pointer (some ⟨r, 0, none⟩), vt] w (Post No w fun v _ => v = .int .i64 (gatR T (L.map (·.1)))) := by
 have hLn : L.length = n := by have := ha.1; simp at this; omega
 have hn := ha.le
 obtain ⟨A, c, rfl, hnc, _⟩ := ha.form0
 obtain ⟨X, hX⟩ : ∃ X, L.map (·.1) = X := ⟨_, rfl⟩
 have hXl : X.length = n := by rw [← hX, List.length_map]; exact hLn
 obtain ⟨bl, ol, rfl⟩ := ha.opn h1
 rw [hX] at hwid hfok ⊢
 have hTm : T.length = m := by have := hd.1; simp at this; omega
 have hm := hd.le
 obtain ⟨Ad, cd, rfl, hmc, _⟩ := hd.form0
 refine enter (n := 77) (args := [.pointer (some ⟨r, 0, none⟩), .slice Ad m cd]) Tryz.func54 rfl rfl (St.empty _ _) ?_
 refine .sr ?_
 refine .m ?_
 refine .done ?_
 refine .seq ?_
 refine .sr ?_
 refine .m ?_
 refine .u (.pointer (some ⟨r, 0, none⟩)) (.nilCheck rfl) ?_
 refine .fa Tfo_54_0 ?_
 refine .u (.slice (some ⟨bl, ol, none⟩) n c) (.load1 Tone_51 rfl (Cells.env (k := 0) hr rfl (by decide) ⟨rfl, trivial⟩)) ?_
 refine .u (.int .i64 (((n : Nat) : Int))) (.len Tsl_51 rfl) ?_
 refine .m ?_
 refine .done ?_
 refine .block ?_
 refine Run.loop (ι := Nat) ([4, 5, 6, 7, 8, 9, 15, 16, 17, 18, 19, 20, 21, 22, 23, 24, 25, 26, 27, 28, 29, 30, 31, 32, 33, 34, 35, 36, 37, 38, 39, 40, 41, 42, 43, 44, 45, 46, 47, 48, 49, 50, 51, 52, 53, 54, 55, 56, 57, 58] ++ [59, 60, 61, 62, 63, 64, 65, 66, 67, 68, 69, 70, 71, 72, 73, 74, 75, 76]) (fun k => [(15, .int .i64 (((k : Nat) : Int)))]) (fun k => []) (fun k => k ≤ n ∧ ∀ i, i < k → evG T X (liAt X i) ((i : Nat) : Int) = false) (fun k => n - k) 0 ?_ ?_ ?_ ?_
 ·exact ⟨Nat.zero_le _, fun i hi => by omega⟩
 ·exact ⟨rfl, trivial⟩
 ·exact (Some'.weak (.nil _))
 rintro k fr hinv
 show Run _ _ (over _ _ [(15, .int .i64 (((k : Nat) : Int)))] fr) []
 try dsimp only at hinv
 refine .sr ?_
 refine .w (.bool (decide ((((k : Nat) : Int)) < (((n : Nat) : Int))))) ?_
 refine .done ?_
 refine .seq ?_
 refine .cond (b := decide ((((k : Nat) : Int)) < (((n : Nat) : Int)))) rfl (fun h16 => ?_) (fun h16 => ?_)
 ·have p16 := h16; try simp only [bs] at p16
  have hltk : k < n := by omega
  obtain ⟨hk, hall⟩ := hinv
  obtain ⟨x, hx⟩ : ∃ x, (tx L k).1 = x := ⟨_, rfl⟩
  obtain ⟨Aq, cq, hq, hqc, _⟩ := (hA k (by omega)).form0
  rw [hx] at hq hqc
  have hxX : liAt X k = x := by rw [← hX, ← tx_li, hx]
  have hqa : Sl w (.slice Aq x.ar.length cq) 1 x.ar.length (ints x.ar) := by rw [← hq, ← hx]; exact hA k (by omega)
  have hqm := hqa.le
  obtain ⟨Nw, hNw⟩ : ∃ N, widR T X ((k : Nat) : Int) = N := ⟨_, rfl⟩
  obtain ⟨F, hF⟩ : ∃ F, finR T x.nm ((k : Nat) : Int) = F := ⟨_, rfl⟩
  have hN5 := hwid k (by omega)
  rw [hNw] at hN5
  have hFl := finR_lt (T := T) (nm := x.nm) (i := ((k : Nat) : Int))
  have hF0 := hfok k (by omega)
  rw [hxX, hF] at hF0
  rw [hF] at hFl
  have hevG : evG T X (liAt X k) ((k : Nat) : Int) = (((x.word == wG) && !gateOk Nw x.g3.1 x.g3.2.1 x.g3.2.2) || ((x.word == wC) && (decide (((x.ar.length : Nat) : Int) ≠ (dnx T F.toNat).n) || anyI (badR Nw x.ar) x.ar.length))) := by rw [hxX, evG, hNw, hF]
  refine .skip ?_
  refine .seq ?_
  refine .block ?_
  refine .sr ?_
  refine .m ?_
  refine .u (.pointer (some ⟨bl, ol + k * 7, none⟩)) (.ix k Tsl_51) ?_
  refine .u (.agg #[sv (x.word), .int .i64 (x.g3.1), .int .i64 (x.g3.2.1), .int .i64 (x.g3.2.2), .int .i64 (x.num), sv (x.nm), .slice Aq (x.ar.length) cq]) (.loadN (cs := [sv (x.word), .int .i64 (x.g3.1), .int .i64 (x.g3.2.1), .int .i64 (x.g3.2.2), .int .i64 (x.num), sv (x.nm), .slice Aq (x.ar.length) cq]) Tagg_77 rfl (Cells.arg (k := k * 7) ha rfl (by omega) (rls_preF (k := k) (by omega) hx hq))) ?_
  refine .step rfl (.alloc (zs := [sv ([]), .int .i64 0, .int .i64 0, .int .i64 0, .int .i64 0, sv ([]), .slice none 0 0]) Tzero_77 fun b1 => ?_)
  refine .m ?_
  refine .step rfl (.storeAll (us := [sv (x.word), .int .i64 (x.g3.1), .int .i64 (x.g3.2.1), .int .i64 (x.g3.2.2), .int .i64 (x.num), sv (x.nm), .slice Aq (x.ar.length) cq]) Tsize_77 rfl rfl rfl (.here _) rfl ?_)
  refine .dsr ?_
  iterate 3 refine .m ?_
  refine .c (.int .i64 Nw) [.pointer (some ⟨r, 0, none⟩), .slice Ad m cd, .int .i64 (((k : Nat) : Int))] Tcall_84 (fun w hs => (by have h := width_spec (i0 := ((k : Nat) : Int)) (hs.sl hr) (hs.sl ha) (hA.go hs) (hs.sl hd) h1; rw [hX, hNw] at h; exact h)) ?_
  refine .m ?_
  refine .done ?_
  refine .seq ?_
  refine .seq ?_
  refine Run.cut (ι := Unit) [24, 25, 26, 27, 28, 29, 30, 31, 32, 33] (fun () => [(33, .bool ((x.word == wG) && !gateOk Nw x.g3.1 x.g3.2.1 x.g3.2.2))]) (fun () => [.blk b1 77 [sv (x.word), .int .i64 (x.g3.1), .int .i64 (x.g3.2.1), .int .i64 (x.g3.2.2), .int .i64 (x.num), sv (x.nm), .slice Aq (x.ar.length) cq]]) (fun () => True) ?_ ?_
  ·refine .region ?_
   refine .fa Tfo_77_0 ?_
   refine .u (sv (x.word)) (.load1 Tone_9 rfl (.b (.head _))) ?_
   refine .u (.bool ((x.word) == wG)) (.eqS rfl rfl) ?_
   rcases Bool.eq_false_or_eq_true ((x.word) == wG) with h27 | h27
   ·refine .mb h27 ?_
    have p27 := h27; try simp only [bs] at p27
    refine .m ?_
    refine .fa Tfo_77_1 ?_
    refine .u (.agg #[.int .i64 (x.g3.1), .int .i64 (x.g3.2.1), .int .i64 (x.g3.2.2)]) (.loadN (cs := [.int .i64 (x.g3.1), .int .i64 (x.g3.2.1), .int .i64 (x.g3.2.2)]) Tagg_69 rfl (Cells.blk (.head _) ⟨rfl, rfl, rfl, trivial⟩)) ?_
    refine .c (.bool (gateOk Nw x.g3.1 x.g3.2.1 x.g3.2.2)) [.int .i64 Nw, .agg #[.int .i64 (x.g3.1), .int .i64 (x.g3.2.1), .int .i64 (x.g3.2.2)]] Tcall_69 (fun w hs => l4Gate_spec hN5 _) ?_
    refine .w (.bool (!(gateOk Nw x.g3.1 x.g3.2.1 x.g3.2.2))) ?_
    refine .w (.bool (!(gateOk Nw x.g3.1 x.g3.2.1 x.g3.2.2))) ?_
    refine .done ?_
    refine .goal ⟨(by repeat (first | exact Same.refl _ _ | refine Same.put rfl ?_ | refine Same.over rfl rfl ?_)), (), ?_, ?_, ?_⟩
    ·trivial
    ·exact ⟨(by show Value.bool _ = Value.bool _; first | (rw [h27, Bool.true_and]; done) | (rw [h27]; rfl)), trivial⟩
    ·exact ((Weak.refl _).trans (Some'.weak (.take (.nil _))))
   refine .mb h27 ?_
   have p27 := h27; try simp only [bs] at p27
   iterate 5 refine .pass rfl ?_
   refine .w (.bool false) ?_
   refine .done ?_
   refine .goal ⟨(by repeat (first | exact Same.refl _ _ | refine Same.put rfl ?_ | refine Same.over rfl rfl ?_)), (), ?_, ?_, ?_⟩
   ·trivial
   ·exact ⟨(by show Value.bool _ = Value.bool _; first | (rw [h27, Bool.true_and]; done) | (rw [h27]; rfl)), trivial⟩
   ·exact ((Weak.refl _).trans (Some'.weak (.take (.nil _))))
  rintro ⟨⟩ fr hcut
  show Run _ _ (over _ _ [(33, .bool ((x.word == wG) && !gateOk Nw x.g3.1 x.g3.2.1 x.g3.2.2))] fr) [.blk b1 77 [sv (x.word), .int .i64 (x.g3.1), .int .i64 (x.g3.2.1), .int .i64 (x.g3.2.2), .int .i64 (x.num), sv (x.nm), .slice Aq (x.ar.length) cq]]
  refine .cond (b := (x.word == wG) && !gateOk Nw x.g3.1 x.g3.2.1 x.g3.2.2) rfl (fun h33 => ?_) (fun h33 => ?_)
  ·have p33 := h33; try simp only [bs] at p33
   refine .seq ?_
   have hev : evG T X (liAt X k) ((k : Nat) : Int) = true := by rw [hevG, h33]; rfl
   have hfin : gatR T X = ((k : Nat) : Int) + 1 := by rw [gatR, findI_hit hall hev (by omega)]
   refine .region ?_
   refine .m ?_
   refine .u (.int .i64 ((((k : Nat) : Int)) + 1)) (.add rfl rfl rfl (by omega) (by omega)) ?_
   refine .m ?_
   refine .done ?_
   refine .ret ?_
   refine ⟨.int .i64 ((((k : Nat) : Int)) + 1), [], Out.one rfl rfl, (Some'.weak (.nil _)), ?_⟩
   rw [hfin]
  have p33 := h33; try simp only [bs] at p33
  refine .skip ?_
  refine .seq ?_
  refine .seq ?_
  rw [h33, Bool.false_or] at hevG
  refine .region ?_
  refine .fa Tfo_77_0 ?_
  refine .u (sv (x.word)) (.load1 Tone_9 rfl (.b (.head _))) ?_
  refine .u (.bool ((x.word) != wC)) (.neS rfl rfl) ?_
  refine .done ?_
  refine .cond (b := (x.word) != wC) rfl (fun h38 => ?_) (fun h38 => ?_)
  ·have p38 := h38; try simp only [bs] at p38
   have hgood : evG T X (liAt X k) ((k : Nat) : Int) = false := by rw [hevG, beq_eq_false_iff_ne.2 p38]; rfl
   refine .exit rfl ?_
   refine .region ?_
   refine .u (.int .i64 ((((k : Nat) : Int)) + 1)) (.add rfl rfl rfl (by omega) (by omega)) ?_
   refine .m ?_
   refine .done ?_
   refine .goal ⟨(by repeat (first | exact Same.refl _ _ | refine Same.put rfl ?_ | refine Same.over rfl rfl ?_)), k + 1, ?_, ?_, ?_, ?_⟩
   ·refine ⟨by omega, ?_⟩
    intro i hi
    rcases Nat.lt_succ_iff_lt_or_eq.1 hi with h | h
    ·exact hall i h
    ·rw [h]; exact hgood
   ·omega
   ·exact ⟨(by first | rfl | (congr 1; omega) | simp), trivial⟩
   ·exact (Some'.weak (.nil _))
  have p38 := h38; try simp only [bs] at p38
  have hF1 := hF0 p38
  rw [beq_iff_eq.2 p38, Bool.true_and] at hevG
  obtain ⟨bd, od, rfl⟩ := hd.opn (by omega)
  refine .skip ?_
  refine .seq ?_
  refine .seq ?_
  refine .draws (by kernel_rfl) (by kernel_rfl) ?_
  refine .u (.pointer (some ⟨b1, 6, none⟩)) (.fieldAddr Tfo_77_4 rfl rfl) ?_
  refine .u (.slice Aq (x.ar.length) cq) (.load1 Tone_75 rfl (.b (.head _))) ?_
  refine .u (.int .i64 (((x.ar.length : Nat) : Int))) (.len Tsl_75 rfl) ?_
  iterate 2 refine .m ?_
  refine .u (.pointer (some ⟨b1, 5, none⟩)) (.fieldAddr Tfo_77_3 rfl rfl) ?_
  refine .u (sv (x.nm)) (.load1 Tone_9 rfl (.b (.head _))) ?_
  refine .m ?_
  refine Lex.q (v := .int .i64 F) rfl (OpQ.call (vs := [.slice (some ⟨bd, od, none⟩) m cd, sv (x.nm), .int .i64 (((k : Nat) : Int))]) (caps := []) Tcall_77 rfl rfl (fun w hs => (by have h := l5Find_spec (nm := x.nm) (i0 := ((k : Nat) : Int)) (hs.sl hd); rw [hF] at h; exact h))) ?_
  refine .u (.pointer (some ⟨bd, od + (F.toNat) * 4, none⟩)) (.ix (F.toNat) Tsl_46) ?_
  refine .u (.pointer (some ⟨bd, od + (F.toNat) * 4 + 1, none⟩)) (.fieldAddr Tfo_50_1 rfl rfl) ?_
  refine .u (.int .i64 ((dnx T (F.toNat)).n)) (.load1 Tone_3 rfl (Cells.arg (k := (F.toNat) * 4 + 1) hd rfl (by omega) (dns_preN (k := F.toNat) (by omega)))) ?_
  refine .w (.bool ((((x.ar.length : Nat) : Int)) != ((dnx T (F.toNat)).n))) ?_
  refine .done ?_
  refine .cond (b := (((x.ar.length : Nat) : Int)) != ((dnx T (F.toNat)).n)) rfl (fun h51 => ?_) (fun h51 => ?_)
  ·have p51 := h51; try simp only [bs] at p51
   refine .seq ?_
   have hev : evG T X (liAt X k) ((k : Nat) : Int) = true := by rw [hevG, decide_eq_true p51]; rfl
   have hfin : gatR T X = ((k : Nat) : Int) + 1 := by rw [gatR, findI_hit hall hev (by omega)]
   refine .region ?_
   refine .m ?_
   refine .u (.int .i64 ((((k : Nat) : Int)) + 1)) (.add rfl rfl rfl (by omega) (by omega)) ?_
   refine .m ?_
   refine .done ?_
   refine .ret ?_
   refine ⟨.int .i64 ((((k : Nat) : Int)) + 1), [], Out.one rfl rfl, (Some'.weak (.nil _)), ?_⟩
   rw [hfin]
  have p51 := h51; try simp only [bs] at p51
  refine .skip ?_
  refine .seq ?_
  rw [decide_eq_false (fun e => e p51), Bool.false_or] at hevG
  refine .region ?_
  refine .fa Tfo_77_4 ?_
  refine .u (.slice Aq (x.ar.length) cq) (.load1 Tone_75 rfl (.b (.head _))) ?_
  refine .u (.int .i64 (((x.ar.length : Nat) : Int))) (.len Tsl_75 rfl) ?_
  refine .m ?_
  refine .done ?_
  refine .block ?_
  refine Run.loop (ι := Nat) [4, 8, 9, 57, 58, 59, 60, 61, 62, 63, 64, 65, 66, 67, 68, 69, 70, 71, 72, 73, 74, 75] (fun j => [(57, .int .i64 (((j : Nat) : Int)))]) (fun j => [.blk b1 77 [sv (x.word), .int .i64 (x.g3.1), .int .i64 (x.g3.2.1), .int .i64 (x.g3.2.2), .int .i64 (x.num), sv (x.nm), .slice Aq (x.ar.length) cq]]) (fun j => j ≤ x.ar.length ∧ ∀ i, i < j → badR Nw x.ar i = false) (fun j => x.ar.length - j) 0 ?_ ?_ ?_ ?_
  ·exact ⟨Nat.zero_le _, fun i hi => by omega⟩
  ·exact ⟨rfl, trivial⟩
  ·exact (Some'.weak (.take (.nil _)))
  rintro j fr hinv
  show Run _ _ (over _ _ [(57, .int .i64 (((j : Nat) : Int)))] fr) [.blk b1 77 [sv (x.word), .int .i64 (x.g3.1), .int .i64 (x.g3.2.1), .int .i64 (x.g3.2.2), .int .i64 (x.num), sv (x.nm), .slice Aq (x.ar.length) cq]]
  try dsimp only at hinv
  refine .sr ?_
  refine .w (.bool (decide ((((j : Nat) : Int)) < (((x.ar.length : Nat) : Int))))) ?_
  refine .done ?_
  refine .seq ?_
  refine .cond (b := decide ((((j : Nat) : Int)) < (((x.ar.length : Nat) : Int)))) rfl (fun h58 => ?_) (fun h58 => ?_)
  ·have p58 := h58; try simp only [bs] at p58
   have hltj : j < x.ar.length := by omega
   obtain ⟨hj, halld⟩ := hinv
   obtain ⟨bq, oq, rfl⟩ := hqa.opn (by omega)
   refine .skip ?_
   refine .seq ?_
   refine .block ?_
   refine .sr ?_
   refine .m ?_
   refine .u (.pointer (some ⟨bq, oq + j, none⟩)) (.ix j Tsl_75) ?_
   refine .u (.int .i64 (ix (x.ar) (j))) (.load1 Tone_3 rfl (Cells.arg (k := j) hqa rfl (by omega) (pre1 (by omega)))) ?_
   iterate 2 refine .m ?_
   refine .dsr ?_
   iterate 2 refine .m ?_
   refine .w (.bool (decide ((ix (x.ar) (j)) ≥ Nw))) ?_
   rcases Bool.eq_false_or_eq_true (decide ((ix (x.ar) (j)) ≥ Nw)) with h65 | h65
   ·refine .mb h65 ?_
    have p65 := h65; try simp only [bs] at p65
    iterate 6 refine .pass rfl ?_
    refine .w (.bool true) ?_
    refine .done ?_
    refine .cond (b := true) rfl (fun _ => ?_) (fun h => nomatch h)
    refine .seq ?_
    have hbj : badR Nw x.ar j = true := by rw [badR]; first | (rw [decide_eq_true (show Nw ≤ ix x.ar j by omega)]; rfl) | (rw [h72, Bool.or_true])
    have hev : evG T X (liAt X k) ((k : Nat) : Int) = true := by rw [hevG]; exact anyI_true (i := j) (by omega) hbj
    have hfin : gatR T X = ((k : Nat) : Int) + 1 := by rw [gatR, findI_hit hall hev (by omega)]
    refine .region ?_
    refine .m ?_
    refine .u (.int .i64 ((((k : Nat) : Int)) + 1)) (.add rfl rfl rfl (by omega) (by omega)) ?_
    refine .m ?_
    refine .done ?_
    refine .ret ?_
    refine ⟨.int .i64 ((((k : Nat) : Int)) + 1), [], Out.one rfl rfl, (Some'.weak (.nil _)), ?_⟩
    rw [hfin]
   refine .mb h65 ?_
   have p65 := h65; try simp only [bs] at p65
   refine .fa Tfo_77_4 ?_
   refine .u (.slice (some ⟨bq, oq, none⟩) (x.ar.length) cq) (.load1 Tone_75 rfl (.b (.head _))) ?_
   refine .m ?_
   refine .u (.slice (some ⟨bq, oq, none⟩) j cq) (.sliceHN (h := j) Tsl_75 rfl rfl rfl (by omega)) ?_
   refine .m ?_
   refine .c (.bool (hasI x.ar (ix x.ar j) j)) [.slice (some ⟨bq, oq, none⟩) j cq, .int .i64 (ix (x.ar) (j))] Tcall_85 (fun w hs => (by have h := l1Has_spec (x := ix x.ar j) ((hs.sl hqa).take (show j ≤ x.ar.length by omega)); rw [hasI_take] at h; exact h)) ?_
   refine .w (.bool (hasI x.ar (ix x.ar j) j)) ?_
   refine .done ?_
   refine .cond (b := hasI x.ar (ix x.ar j) j) rfl (fun h72 => ?_) (fun h72 => ?_)
   ·have p72 := h72; try simp only [bs] at p72
    refine .seq ?_
    have hbj : badR Nw x.ar j = true := by rw [badR]; first | (rw [decide_eq_true (show Nw ≤ ix x.ar j by omega)]; rfl) | (rw [h72, Bool.or_true])
    have hev : evG T X (liAt X k) ((k : Nat) : Int) = true := by rw [hevG]; exact anyI_true (i := j) (by omega) hbj
    have hfin : gatR T X = ((k : Nat) : Int) + 1 := by rw [gatR, findI_hit hall hev (by omega)]
    refine .region ?_
    refine .m ?_
    refine .u (.int .i64 ((((k : Nat) : Int)) + 1)) (.add rfl rfl rfl (by omega) (by omega)) ?_
    refine .m ?_
    refine .done ?_
    refine .ret ?_
    refine ⟨.int .i64 ((((k : Nat) : Int)) + 1), [], Out.one rfl rfl, (Some'.weak (.nil _)), ?_⟩
    rw [hfin]
   have p72 := h72; try simp only [bs] at p72
   refine .skip ?_
   refine .blockEnd ?_
   have hgoodj : badR Nw x.ar j = false := by rw [badR, decide_eq_false (show ¬ Nw ≤ ix x.ar j by omega), Bool.false_or]; exact h72
   refine .region ?_
   refine .u (.int .i64 ((((j : Nat) : Int)) + 1)) (.add rfl rfl rfl (by omega) (by omega)) ?_
   refine .m ?_
   refine .done ?_
   refine .goal ⟨(by repeat (first | exact Same.refl _ _ | refine Same.put rfl ?_ | refine Same.over rfl rfl ?_)), j + 1, ?_, ?_, ?_, ?_⟩
   ·refine ⟨by omega, ?_⟩
    intro i hi
    rcases Nat.lt_succ_iff_lt_or_eq.1 hi with h | h
    ·exact halld i h
    ·rw [h]; exact hgoodj
   ·omega
   ·exact ⟨(by first | rfl | (congr 1; omega) | simp), trivial⟩
   ·exact (Some'.weak (.takeEq (by first | rfl | simp) (.nil _)))
  have p58 := h58; try simp only [bs] at p58
  obtain ⟨hj, halld⟩ := hinv
  have hgood : evG T X (liAt X k) ((k : Nat) : Int) = false := by rw [hevG]; exact anyI_false fun i hi => halld i (by omega)
  refine .exit rfl ?_
  refine .blockEnd ?_
  refine .region ?_
  refine .u (.int .i64 ((((k : Nat) : Int)) + 1)) (.add rfl rfl rfl (by omega) (by omega)) ?_
  refine .m ?_
  refine .done ?_
  refine .goal ⟨(by repeat (first | exact Same.refl _ _ | refine Same.put rfl ?_ | refine Same.over rfl rfl ?_)), k + 1, ?_, ?_, ?_, ?_⟩
  ·refine ⟨by omega, ?_⟩
   intro i hi
   rcases Nat.lt_succ_iff_lt_or_eq.1 hi with h | h
   ·exact hall i h
   ·rw [h]; exact hgood
  ·omega
  ·exact ⟨(by first | rfl | (congr 1; omega) | simp), trivial⟩
  ·exact (Some'.weak (.nil _))
 have p16 := h16; try simp only [bs] at p16
 obtain ⟨hk, hall⟩ := hinv
 have hfin : gatR T X = 0 := by rw [gatR, findI_none fun i hi => hall i (by omega)]; rfl
 refine .exit rfl ?_
 refine .sr ?_
 refine .m ?_
 refine .done ?_
 refine .ret ?_
 refine ⟨.int .i64 0, [], Out.one rfl rfl, (Some'.weak (.nil _)), ?_⟩
 rw [hfin]

end Go.Proofs.YtgpkpopbajkklaaGreatDoor
