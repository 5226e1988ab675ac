/- Strings as lists of bytes, and the operations on them. -/
import Derived.Test.YtnnkoeknejeieaaOps
import Derived.Laws.AppendOwn
namespace Go.Proofs.Ytnnkoeknejeieaa
open Go Go.RowKit

abbrev Bs := List UInt8
/-- A string by the list of its bytes. -/
@[reducible] def sv (l : Bs) : Value := .string ⟨l.toArray⟩
theorem sv_of (s : ByteArray) : Value.string s = sv s.data.toList := rfl
theorem sv_size (l : Bs) : (⟨l.toArray⟩ : ByteArray).size = l.length := by simp [ByteArray.size]
theorem sv_inj {l m : Bs} (h : sv l = sv m) : l = m := by
  simpa using h
/-- A byte. -/
def byv (b : UInt8) : Value := .int .u8 (b.toNat : Int)
/-- The byte at a place, as a number. -/
def byx (l : Bs) (i : Nat) : Int := ((l.getD i 0).toNat : Int)
theorem byx_range (l : Bs) (i : Nat) : 0 ≤ byx l i ∧ byx l i < 256 := by
  unfold byx
  have := (l.getD i 0).toNat_lt
  omega
/-- Strings as cells. -/
def strs (L : List Bs) : List Value := L.map sv
@[simp] theorem strs_length (L : List Bs) : (strs L).length = L.length := by simp [strs]
theorem strs_append (L M : List Bs) : strs (L ++ M) = strs L ++ strs M := by simp [strs]
def stx (L : List Bs) (i : Nat) : Bs := L.getD i []
theorem preS {L : List Bs} {o : Nat} (h : o < L.length) : Pre (strs L) o [sv (stx L o)] := by
  refine ⟨?_, trivial⟩
  simp [strs, stx, List.getD, h]
theorem strs_all (L : List Bs) : (strs L).all (·.oneCell') = true := by simp [strs, Value.oneCell']
/-- A part of a string. -/
def ssub (l : Bs) (a b : Nat) : Bs := (l.take b).drop a
theorem ssub_length {l : Bs} {a b : Nat} (h : b ≤ l.length) : (ssub l a b).length = b - a := by simp [ssub]; omega

def strT (P : Program) (t : TypeId) : Bool := match P.underlying t with
  | some .string => true
  | _ => false
theorem strT_spec {P : Program} {t : TypeId} (h : strT P t = true) : P.underlying t = some .string := by
  unfold strT at h
  split at h
  · assumption
  · cases h
theorem ba_ext {a b : ByteArray} (h : a.data.toList = b.data.toList) : a = b := by
  cases a; cases b
  simp only at h
  congr 1
  exact Array.ext' h
theorem ba_toList (l : Bs) : (⟨l.toArray⟩ : ByteArray).toList = l := by
  rw [ByteArray.toList_eq]
theorem sv_append (l m : Bs) : (⟨l.toArray⟩ : ByteArray) ++ ⟨m.toArray⟩ = ⟨(l ++ m).toArray⟩ := by
  apply ba_ext
  simp
theorem sv_extract (l : Bs) (a b : Nat) : (⟨l.toArray⟩ : ByteArray).extract a b = ⟨(ssub l a b).toArray⟩ := by
  apply ba_ext
  simp [ssub, ByteArray.data_extract]
  rw [List.drop_take]

theorem wrapU8 {a : Int} (h0 : 0 ≤ a) (h1 : a < 256) : IntKind.u8.wrap a = a := by
  have e : IntKind.u8.wrap a = a % 256 := rfl
  rw [e]; omega
namespace OpY
variable {E : Env} {f : Fr} {H : List Res} {d : Option Tmp} {ty : TypeId} {pos : String} {after : Array Edge} {gd : Option (Nat × Bool)}
theorem lenS {t : TypeId} {x : Operand} {l : Bs} (ht : strT E.P t = true) (hx : f.eval x = sv l) :
    OpY E ⟨d, .call { callee := .builtin .len, args := #[x], argTypes := #[t] }, ty, pos, after, gd⟩ f H (.int .i64 l.length) := by
  intro w _
  simp [execOp, resolve, invoke, builtin, hx, Builtin.len_, run_underlying (strT_spec ht), goInt, sv_size]
theorem lenSN {t : TypeId} {x : Operand} {l : Bs} {k : Int} (ht : strT E.P t = true) (hx : f.eval x = sv l) (hk : (l.length : Int) = k) :
    OpY E ⟨d, .call { callee := .builtin .len, args := #[x], argTypes := #[t] }, ty, pos, after, gd⟩ f H (.int .i64 k) := by
  subst hk; exact lenS ht hx
theorem indexS {t : TypeId} {x y : Operand} {l : Bs} {k : IntKind} {i : Int} {j : Nat} (ht : strT E.P t = true) (hx : f.eval x = sv l) (hy : f.eval y = .int k i) (hi : i = (j : Int)) (hj : j < l.length) :
    OpY E ⟨d, .index t x y, ty, pos, after, gd⟩ f H (.int .u8 (byx l j)) := by
  subst hi
  intro w _
  have h1 : (⟨l.toArray⟩ : ByteArray)[j]? = some l[j] := by
    rw [getElem?_pos _ _ (by rw [sv_size]; exact hj)]
    rfl
  have h2 : byx l j = (l[j].toNat : Int) := by simp [byx, List.getD, hj]
  simp [execOp, hx, hy, Instr.index, asIntOf, run_underlying (strT_spec ht), h1, h2]
theorem eqS {t t' : TypeId} {x y : Operand} {l m : Bs} (hx : f.eval x = sv l) (hy : f.eval y = sv m) :
    OpY E ⟨d, .binOp .eql t x y t', ty, pos, after, gd⟩ f H (.bool (l == m)) := by
  intro w _
  simp [execOp, hx, hy, eqGuard, binOp, Op.stringOp, ba_toList]
theorem neS {t t' : TypeId} {x y : Operand} {l m : Bs} (hx : f.eval x = sv l) (hy : f.eval y = sv m) :
    OpY E ⟨d, .binOp .neq t x y t', ty, pos, after, gd⟩ f H (.bool (l != m)) := by
  intro w _
  simp [execOp, hx, hy, eqGuard, binOp, Op.stringOp, ba_toList, bne]
theorem addS {t t' : TypeId} {x y : Operand} {l m : Bs} (hx : f.eval x = sv l) (hy : f.eval y = sv m) (h : l.length + m.length ≤ 9223372036854775807) :
    OpY E ⟨d, .binOp .add t x y t', ty, pos, after, gd⟩ f H (sv (l ++ m)) := by
  intro w _
  have h2 : ¬ (((⟨l.toArray⟩ : ByteArray).size + (⟨m.toArray⟩ : ByteArray).size : Nat) : Int) > IntKind.i64.max := by
    rw [sv_size, sv_size]
    have e : IntKind.i64.max = 9223372036854775807 := rfl
    omega
  simp only [execOp, hx, hy, eqGuard, binOp, Op.stringOp]
  simp only [sv_append]
  rw [if_neg h2]
  rfl
theorem sliceSLH {t : TypeId} {x y z : Operand} {l : Bs} {k k' : IntKind} {i j : Int} {a b : Nat} (ht : strT E.P t = true) (hx : f.eval x = sv l) (hy : f.eval y = .int k i) (hz : f.eval z = .int k' j) (hi : i = (a : Int)) (hj : j = (b : Int)) (hab : a ≤ b) (hb : b ≤ l.length) :
    OpY E ⟨d, .slice t x (some y) (some z) none, ty, pos, after, gd⟩ f H (sv (ssub l a b)) := by
  subst hi; subst hj
  intro w _
  have h1 : ((b : Int) ≤ ((⟨l.toArray⟩ : ByteArray).size : Int)) := by rw [sv_size]; omega
  have h2 : (a : Int) ≤ (b : Int) := by omega
  simp [execOp, hx, hy, hz, Instr.sliceAt, Instr.slice, run_underlying (strT_spec ht), Instr.sliceBounds, Instr.sliceBound, asIntOf, sv_size, h2, hb, hab, sv_extract]
theorem sliceSL {t : TypeId} {x y : Operand} {l : Bs} {k : IntKind} {i : Int} {a : Nat} (ht : strT E.P t = true) (hx : f.eval x = sv l) (hy : f.eval y = .int k i) (hi : i = (a : Int)) (ha : a ≤ l.length) :
    OpY E ⟨d, .slice t x (some y) none none, ty, pos, after, gd⟩ f H (sv (ssub l a l.length)) := by
  subst hi
  intro w _
  simp [execOp, hx, hy, Instr.sliceAt, Instr.slice, run_underlying (strT_spec ht), Instr.sliceBounds, Instr.sliceBound, asIntOf, sv_size, ha, sv_extract]
theorem sliceSH {t : TypeId} {x z : Operand} {l : Bs} {k : IntKind} {j : Int} {b : Nat} (ht : strT E.P t = true) (hx : f.eval x = sv l) (hz : f.eval z = .int k j) (hj : j = (b : Int)) (hb : b ≤ l.length) :
    OpY E ⟨d, .slice t x none (some z) none, ty, pos, after, gd⟩ f H (sv (ssub l 0 b)) := by
  subst hj
  intro w _
  simp [execOp, hx, hz, Instr.sliceAt, Instr.slice, run_underlying (strT_spec ht), Instr.sliceBounds, Instr.sliceBound, asIntOf, sv_size, hb, sv_extract]
theorem subU8 {t t' : TypeId} {x y : Operand} {a b c : Int} (hx : f.eval x = .int .u8 a) (hy : f.eval y = .int .u8 b) (hc : IntKind.u8.wrap (a - b) = c) :
    OpY E ⟨d, .binOp .sub t x y t', ty, pos, after, gd⟩ f H (.int .u8 c) := by
  subst hc
  intro w _
  simp [execOp, hx, hy, eqGuard, binOp, Op.intArith]
theorem addU8 {t t' : TypeId} {x y : Operand} {a b c : Int} (hx : f.eval x = .int .u8 a) (hy : f.eval y = .int .u8 b) (hc : IntKind.u8.wrap (a + b) = c) :
    OpY E ⟨d, .binOp .add t x y t', ty, pos, after, gd⟩ f H (.int .u8 c) := by
  subst hc
  intro w _
  simp [execOp, hx, hy, eqGuard, binOp, Op.intArith]
end OpY
/-- The rest of a slice is readable. -/
theorem Sl.slicedL {w : World} {A : Option Addr} {n c l size : Nat} {xs : List Value} (h : Sl w (.slice A n c) size n xs) (hl : l ≤ n) : Sl w (sliced A l n c size) size (n - l) (xs.drop (l * size)) := by
  obtain ⟨h1, A', c', he, h2, h3, h4⟩ := h
  injection he with e1 e2 e3
  subst e1; subst e3
  have hle : l * size ≤ n * size := Nat.mul_le_mul_right _ hl
  refine ⟨by rw [List.length_drop, h1, Nat.sub_mul], _, c - l, rfl, by omega, by omega, fun h0 => ?_⟩
  obtain ⟨b, o, rfl, hb, hr⟩ := h4 (by omega)
  refine ⟨b, o + l * size, ?_, hb, fun j u hu => ?_⟩
  · rw [if_neg (by omega)]; simp [Addr.add_mid]
  · have := hr (l * size + j) u (by rwa [List.getElem?_drop] at hu)
    rwa [show o + l * size + j = o + (l * size + j) by omega]
theorem OpY.sliceArrL {E : Env} {f : Fr} {H : List Res} {d : Option Tmp} {ty : TypeId} {pos : String} {after : Array Edge} {gd : Option (Nat × Bool)} {a : TypeId} {x y : Operand} {b o n l size : Nat} {k : IntKind} {i : Int} (ha : arrayOf E.P a = some (n, size)) (hx : f.eval x = .pointer (some ⟨b, o, none⟩)) (hy : f.eval y = .int k i) (hi : i = (l : Int)) (h1 : l < n) {o' m : Nat} (ho : o + l * size = o') (hm : n - l = m) :
    OpY E ⟨d, .slice a x (some y) none none, ty, pos, after, gd⟩ f H (.slice (some ⟨b, o', none⟩) m m) := by
  subst hi; subst ho; subst hm
  intro w _
  unfold arrayOf at ha
  split at ha
  · rename_i n' e hu
    obtain ⟨inf, hi, he⟩ := Option.map_eq_some_iff.1 ha
    simp only [Prod.mk.injEq] at he
    obtain ⟨rfl, rfl⟩ := he
    have h2 : ¬ n' = l := by omega
    have h3 : l ≤ n' := by omega
    simp [execOp, hx, hy, Instr.sliceAt, Instr.sureAddr, run_underlying hu, Instr.sliceBounds, Instr.sliceBound, asIntOf, sizeOf, typeInfo, hi, h2, h3, Addr.add_mid]
  · cases ha
/-- `append` that leaves the old slice in sight: it lies in front of the new one, or the new one has a block of its own. -/
theorem OpStep.appendKeep {E : Env} {f : Fr} {H : List Res} {d : Option Tmp} {pos : String} {after : Array Edge} {gd : Option (Nat × Bool)} {K : Fr → List Res → Prop} {t ty' : TypeId} {x y : Operand} {e : TypeId} {size bytes n m : Nat} {zs xs ys : List Value} {v u : Value} {H1 H2 : List Res} (ht : sliceOf E.P t = some (e, size, bytes, zs)) (hsz : 0 < size) (hzl : zs.length = size) (hx : f.eval x = v) (hy : f.eval y = u)
    (hH : H = H1 ++ .own v e size n xs :: H2) (hr : ∀ w, St E.M E.w0 w H → Sl w u size m ys) (hm0 : 0 < m) (h1 : ys.all (·.oneCell') = true) (hb : (n + m) * bytes ≤ 140737488355328) (hm : n + m ≤ maxLen)
    (hkA : ∀ g cap, v = .slice (some ⟨g, 0, none⟩) n cap → K (putF E.n f d (.slice (some ⟨g, 0, none⟩) (n + m) cap)) (H1 ++ .own (.slice (some ⟨g, 0, none⟩) (n + m) cap) e size (n + m) (xs ++ ys) :: H2))
    (hkB : ∀ v', K (putF E.n f d v') (.own v' e size (n + m) (xs ++ ys) :: H)) :
    OpStep E ⟨d, .call { callee := .builtin .append, args := #[x, y], argTypes := #[t, t] }, ty', pos, after, gd⟩ f H K := by
  intro a w ha hs Kw Q' hK
  have hsH := hs
  subst hH
  have hs' := hs.perm List.perm_middle
  obtain ⟨hu, i, z, hi, hz, h3, h4, h5⟩ := sliceOf_spec ht
  have hown : w.ownsRow 0 e size v n xs := hs'.holds (.own v e size n xs) (by simp)
  obtain ⟨hl, A, c, rfl, hmc, hcm, hcell⟩ := hr w hs
  obtain ⟨b, o, rfl, _, hrg⟩ := hcell hm0
  have hmem : ∀ u ∈ ys, u.oneCell' = true := by simpa using h1
  have hzs : z.cells.size = size := by rw [← hzl, ← h5]; simp
  have hnews : ∀ j u, ys[j]? = some u → w.cell? ((⟨b, o, none⟩ : Addr).add j) = some u := fun j u hj => by rw [Addr.add_mid]; exact hrg j u hj
  obtain ⟨v', w', hrun, h7, h8, h9, h10⟩ := run_append_own_at (P := E.P) w 0 t ty' e i z size bytes hu hi hz h3 h4 hzs hsz v n xs hown ⟨b, o, none⟩ m c ys hl hnews hmem hm hb (Nat.zero_le _)
  have he : (execOp f.eval ⟨d, .call { callee := .builtin .append, args := #[x, y], argTypes := #[t, t] }, ty', pos, after, gd⟩).run E.P w = .ok (.value v') w' := by
    simp [execOp, resolve, invoke, builtin, hx, hy, hrun]
  unfold Oper.wp
  rw [ha.eval, he]
  -- the new slice has a block of its own
  have caseB : (∀ k, k < w.heap.size → w'.heap[k]? = w.heap[k]?) → v'.ownBlock = some w.heap.size → Kw (a.put d v') w' := by
    intro hkeep hnew
    refine hK _ _ _ _ (ha.put _ _) ?_ (hkB v')
    refine St.call (H' := [.own v' e size (n + m) (xs ++ ys)]) hsH ⟨h8.os, h8.tape, h8.output, h8.size, fun k hk _ => hkeep k hk, ?_, ?_, by simp⟩
    · intro r hr; simp only [List.mem_singleton] at hr; subst hr; exact h7
    · intro r hr k hk hl
      simp only [List.mem_singleton] at hr; subst hr
      simp only [Res.has, hnew, Option.some.injEq] at hk
      omega
  rcases hown.2 with ⟨rfl, rfl⟩ | ⟨g, cap, cur, rfl, hbg, hg, hnc, hcm2, hcs, htake⟩
  · refine caseB (fun k hk => h8.block k hk (by simp [Value.ownBlock])) ?_
    rcases h10 with h | h
    · rcases h7.2 with ⟨rfl, h0⟩ | ⟨g, cap, cur, rfl, _⟩
      · omega
      · simp [Value.ownBlock] at h
    · exact h
  · have h63 : n + m ≤ 9223372036854775807 := by simp only [maxLen] at hm; omega
    by_cases hroom : n + m ≤ cap
    · have hfit : n * i.size + ys.length ≤ cur.size := by rw [h3, hl, hcs, ← Nat.add_mul]; exact Nat.mul_le_mul_right _ hroom
      have hrun2 := run_append_room (P := E.P) w t ty' e i hu hi g n cap cur hg ⟨b, o, none⟩ m c ys (by rw [h3]; exact hl) hnews hmem hroom hfit
      rw [hrun] at hrun2
      injection hrun2 with hv hw
      subst hv
      refine hK _ _ _ _ (ha.put _ _) ?_ (hkA g cap rfl)
      refine St.perm (St.turn (r := .own (.slice (some ⟨g, 0, none⟩) n cap) e size n xs) (r' := .own (.slice (some ⟨g, 0, none⟩) (n + m) cap) e size (n + m) (xs ++ ys)) hs' h8.os h8.tape h8.output h8.size (fun k hk' hne => h8.block k hk' fun e => hne (by simpa [Res.has] using e.symm)) h7 ?_) List.perm_middle.symm
      intro k hk'
      simp only [Res.has, Value.ownBlock] at hk' ⊢
      exact .inl hk'
    · have holds : ∀ j u, xs[j]? = some u → w.cell? ((⟨g, 0, none⟩ : Addr).add j) = some u := hown.cells (g := g) rfl
      have hrun2 := run_append_grow (P := E.P) w t ty' e i z hu hi hz ⟨g, 0, none⟩ n cap xs (by rw [h3]; exact hown.1) holds ⟨b, o, none⟩ m c ys (by rw [h3]; exact hl) hnews (by omega) (by omega) (by rw [h4]; exact growslice_fits (by omega) hb)
      rw [hrun] at hrun2
      injection hrun2 with hv hw
      subst hv; subst hw
      exact caseB (fun k hk => heap_alloc_old w.drew _ hk) rfl
/-- What is known of each world that holds the list. -/
theorem Run.know {E : Env} {k : List It} {f : Fr} {H : List Res} (φ : Prop) (hφ : ∀ w, St E.M E.w0 w H → φ) (h : φ → Run E k f H) (hk : ∀ G i k', k ≠ .goal G :: k' ∧ k ≠ .block i :: k' ∧ k ≠ []) : Run E k f H := by
  have key : ∀ w, St E.M E.w0 w H → Run E k f H := fun w hs => h (hφ w hs)
  match k, hk with
  | [], hk => exact absurd rfl (hk (fun _ _ => True) 0 []).2.2
  | .goal G :: k', hk => exact absurd rfl (hk G 0 k').1
  | .block i :: k', hk => exact absurd rfl (hk (fun _ _ => True) i k').2.1
  | .rounds c n :: k', _ => exact fun a w ha hs => key w hs a w ha hs
  | .ops ops l :: k', _ => exact fun a w ha hs => key w hs a w ha hs
  | .code c :: k', _ => exact fun a w ha hs => key w hs a w ha hs
theorem Out.cell4 {E : Env} {fn : Func} {f : Fr} {H : List Res} {t u u' u'' : Tmp} {ty : TypeId} {b o : Nat} {cs : List Value} {v v' v'' : Value} (h : fn.results = #[.cell t ty, .tmp u, .tmp u', .tmp u'']) (ht : aggOf E.P ty = some cs.length) (hp : f t = .pointer (some ⟨b, o, .none⟩)) (hc : Cells E H b o cs) (hv : f u = v) (hv' : f u' = v') (hv'' : f u'' = v'') : Out E fn f H (.tuple #[.agg cs.toArray, v, v', v'']) := by
  subst hv; subst hv'; subst hv''; intro a w ha hs
  have := run_results_cell (P := E.P) hp ht (hc w hs)
  simp only [Sem.run_bind] at this
  unfold results
  rw [h]
  simp only [List.mapM_toArray, List.mapM_cons, List.mapM_nil, Sem.run_bind, Sem.run_map, Sem.run_pure, ha.at_, this, Result.andThen_ok]
  rfl
theorem Out.four {E : Env} {fn : Func} {f : Fr} {H : List Res} {t u x y : Tmp} {v v' v'' v3 : Value} (h : fn.results = #[.tmp t, .tmp u, .tmp x, .tmp y]) (hv : f t = v) (hv' : f u = v') (hv'' : f x = v'') (h3 : f y = v3) : Out E fn f H (.tuple #[v, v', v'', v3]) := by
  subst hv; subst hv'; subst hv''; subst h3
  intro a w ha hs
  unfold results
  rw [h]
  simp only [List.mapM_toArray, List.mapM_cons, List.mapM_nil, Sem.run_bind, Sem.run_map, Sem.run_pure, ha.at_, Result.andThen_ok]
  rfl
end Go.Proofs.Ytnnkoeknejeieaa
