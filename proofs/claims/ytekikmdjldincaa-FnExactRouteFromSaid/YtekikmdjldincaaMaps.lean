/- Maps that hold a set: to each key the value true. -/
import Derived.Test.YtekikmdjldincaaOps
import Derived.DeepKeys4
import Derived.Maps.Keyed
namespace Go.Proofs.Ytekikmdjldincaa
open Go Go.RowKit
open Go.ChangeMaps (setBlock)
open Go.WideMaps (KeyLaw)

/-- The value has the form of a key. -/
def Keyable (P : Program) (k : TypeId) (v : Value) : Prop := ∃ l, keyOf P k v = some l
/-- The entries of a set. -/
def setKv (ks : List Value) : List (Value × Value) := ks.map fun k => (k, .bool true)
/-- A map type: its key's and its element's type, and that one's zero. -/
def mapOfT (P : Program) (t : TypeId) : Option (TypeId × TypeId) := match P.underlying t with
  | some (.map k e) => some (k, e)
  | _ => none
theorem mapOfT_spec {P : Program} {t k e : TypeId} (h : mapOfT P t = some (k, e)) : P.underlying t = some (.map k e) := by
  unfold mapOfT at h
  split at h
  · rename_i hu; simp only [Option.some.injEq, Prod.mk.injEq] at h; obtain ⟨rfl, rfl⟩ := h; exact hu
  · cases h
theorem setKv_keys {es : Array MapEntry} {ks : List Value} (h : es.toList.map (fun e => (e.key, e.val)) = setKv ks) : es.toList.map (·.key) = ks ∧ ∀ e ∈ es.toList, e.val = .bool true := by
  constructor
  · have : (es.toList.map (fun e => (e.key, e.val))).map Prod.fst = (setKv ks).map Prod.fst := by rw [h]
    simpa [setKv, List.map_map, Function.comp_def] using this
  · intro e he
    have : (e.key, e.val) ∈ setKv ks := by rw [← h]; exact List.mem_map.2 ⟨e, he, rfl⟩
    simp only [setKv, List.mem_map, Prod.mk.injEq] at this
    obtain ⟨_, _, _, h3⟩ := this
    exact h3.symm
variable {E : Env} {f : Fr} {H : List Res} {d : Option Tmp} {ty : TypeId} {pos : String} {after : Array Edge} {gd : Option (Nat × Bool)} {K : Fr → List Res → Prop}
theorem St.mpAt {M : Nat → Prop} {w0 w : World} {H : List Res} {b : Nat} {kvs : List (Value × Value)} (h : St M w0 w H) (hm : Res.mp b kvs ∈ H) : ∃ es clock, w.heap[b]? = some (.map es clock) ∧ es.toList.map (fun e => (e.key, e.val)) = kvs :=
  h.holds _ hm
/-- What is asked of a set: is the key there. -/
theorem OpY.lookupSet {t : TypeId} {x y : Operand} {b : Nat} {k e : TypeId} {ks : List Value} {key : Value} {c : Bool} (ht : mapOfT E.P t = some (k, e)) (hz : zeroOf E.P e = some [.bool false]) (hK : KeyLaw E.P k) (hx : f.eval x = .map (some b)) (hy : f.eval y = key)
    (hm : Res.mp b (setKv ks) ∈ H) (hks : ∀ u ∈ ks, Keyable E.P k u) (hkey : Keyable E.P k key) (hc : c = true ↔ key ∈ ks) (hzb : (E.P.info? e).bind (·.zero) = some (.bool false)) :
    OpY E ⟨d, .lookup t x y false, ty, pos, after, gd⟩ f H (.bool c) := by
  intro w hs
  have hu := mapOfT_spec ht
  obtain ⟨es, clock, hb, he⟩ := hs.mpAt hm
  obtain ⟨hk1, hk2⟩ := setKv_keys he
  obtain ⟨l, hl⟩ := hkey
  have hes : ∀ e ∈ es.toList, ∃ l, keyOf E.P k e.key = some l := fun e he => hks _ (by rw [← hk1]; exact List.mem_map.2 ⟨e, he, rfl⟩)
  have hzv : (zeroValue e).run E.P w = .ok (.bool false) w := by
    obtain ⟨i, hi, hz2⟩ := Option.bind_eq_some_iff.1 hzb
    simp [zeroValue, typeInfo, hi, hz2]
  have key0 : (Instr.lookup t (.map (some b)) key false).run E.P w = .ok (.bool c) w := by
    rcases hK.find w hl es.toList hes with ⟨h1, h2⟩ | ⟨j, e0, h1, h2, h3⟩
    · have : c = false := by
        cases hcc : c with
        | false => rfl
        | true =>
          have h4 := hc.1 hcc
          rw [← hk1] at h4
          obtain ⟨e1, h5, h6⟩ := List.mem_map.1 h4
          exact absurd h6 (h2 e1 h5)
      subst this
      simp [Instr.lookup, run_underlying hu, MapKept.run_getObj_map hb, hK.check w _ hl, h1, hzv]
    · have h5 : e0 ∈ es.toList := List.mem_of_getElem? h2
      have : c = true := hc.2 (by rw [← hk1]; exact List.mem_map.2 ⟨e0, h5, h3⟩)
      subst this
      simp [Instr.lookup, run_underlying hu, MapKept.run_getObj_map hb, hK.check w _ hl, h1, hk2 e0 h5]
  simp [execOp, hx, hy, key0]
theorem St.putMap {M : Nat → Prop} {w0 w : World} {H : List Res} {b clock clock' : Nat} {es es' : Array MapEntry} {kvs kvs' : List (Value × Value)} (h : St M w0 w (.mp b kvs :: H)) (hb : w.heap[b]? = some (.map es clock)) (he : es'.toList.map (fun e => (e.key, e.val)) = kvs') :
    St M w0 (setBlock w b (.map es' clock')) (.mp b kvs' :: H) := by
  refine St.turn h rfl rfl rfl (by simp [setBlock]) (fun k _ hn => ?_) ?_ (fun k hk => .inl (by simpa [Res.has] using hk))
  · exact ChangeMaps.heap_setBlock_other hb _ fun e => hn (by simp [Res.has, e])
  · exact ⟨es', clock', ChangeMaps.heap_setBlock_same hb _, he⟩
/-- A new key is put into a set. -/
theorem OpStep.insertSet {t : TypeId} {x y z : Operand} {b : Nat} {k e : TypeId} {ks : List Value} {key : Value} {H' : List Res} (ht : mapOfT E.P t = some (k, e)) (hK : KeyLaw E.P k) (hx : f.eval x = .map (some b)) (hy : f.eval y = key) (hz : f.eval z = .bool true)
    (hH : Turn (.mp b (setKv ks)) (.mp b (setKv (ks ++ [key]))) H H') (hks : ∀ u ∈ ks, Keyable E.P k u) (hkey : Keyable E.P k key) (hnew : key ∉ ks) (hk : K (putF E.n f d undef) H') :
    OpStep E ⟨d, .mapUpdate t x y z, ty, pos, after, gd⟩ f H K := by
  intro a w ha hs Kw Q' hKw
  have hu := mapOfT_spec ht
  obtain ⟨H1, H2, rfl, rfl⟩ := hH.split
  have hs' := hs.perm List.perm_middle
  obtain ⟨es, clock, hb, he⟩ := hs'.mpAt (.head _)
  obtain ⟨hk1, hk2⟩ := setKv_keys he
  obtain ⟨l, hl⟩ := hkey
  have hes : ∀ e ∈ es.toList, ∃ l, keyOf E.P k e.key = some l := fun e he => hks _ (by rw [← hk1]; exact List.mem_map.2 ⟨e, he, rfl⟩)
  rcases hK.find w hl es.toList hes with ⟨h1, h2⟩ | ⟨j, e0, h1, h2, h3⟩
  · have hrun : (Instr.mapUpdate t (.map (some b)) key (.bool true)).run E.P w = .ok () (setBlock w b (.map (es.push ⟨key, .bool true, clock⟩) (clock + 1))) := by
      simp [Instr.mapUpdate, run_underlying hu, MapKept.run_getObj_map hb, hK.check w _ hl, h1, MapKept.run_setObj_map _ hb, setBlock]
    unfold Oper.wp
    rw [ha.eval]
    simp only [execOp, hx, hy, hz]
    simp [hrun, Result.andThen]
    refine hKw _ _ _ _ (ha.put _ _) ?_ hk
    exact (hs'.putMap hb (by simp [he, setKv])).perm List.perm_middle.symm
  · exact absurd (by rw [← hk1]; exact List.mem_map.2 ⟨e0, List.mem_of_getElem? h2, h3⟩) hnew
/-- The same, where a map is written out. -/
theorem OpStep.insertLit {t : TypeId} {x y z : Operand} {b : Nat} {k e : TypeId} {ks : List Value} {key : Value} {H' : List Res} (ht : mapOfT E.P t = some (k, e)) (hK : KeyLaw E.P k) (hx : f.eval x = .map (some b)) (hy : f.eval y = key) (hz : f.eval z = .bool true)
    (hH : Turn (.mp b (setKv ks)) (.mp b (setKv (ks ++ [key]))) H H') (hks : ∀ u ∈ ks, Keyable E.P k u) (hkey : Keyable E.P k key) (hnew : key ∉ ks) (hk : K (putF E.n f d undef) H') :
    OpStep E ⟨d, .insert t x y z, ty, pos, after, gd⟩ f H K := by
  intro a w ha hs Kw Q' hKw
  have hu := mapOfT_spec ht
  obtain ⟨H1, H2, rfl, rfl⟩ := hH.split
  have hs' := hs.perm List.perm_middle
  obtain ⟨es, clock, hb, he⟩ := hs'.mpAt (.head _)
  obtain ⟨hk1, hk2⟩ := setKv_keys he
  obtain ⟨l, hl⟩ := hkey
  have hes : ∀ e ∈ es.toList, ∃ l, keyOf E.P k e.key = some l := fun e he => hks _ (by rw [← hk1]; exact List.mem_map.2 ⟨e, he, rfl⟩)
  rcases hK.find w hl es.toList hes with ⟨h1, h2⟩ | ⟨j, e0, h1, h2, h3⟩
  · have hrun : (Instr.mapUpdate t (.map (some b)) key (.bool true)).run E.P w = .ok () (setBlock w b (.map (es.push ⟨key, .bool true, clock⟩) (clock + 1))) := by
      simp [Instr.mapUpdate, run_underlying hu, MapKept.run_getObj_map hb, hK.check w _ hl, h1, MapKept.run_setObj_map _ hb, setBlock]
    unfold Oper.wp
    rw [ha.eval]
    simp only [execOp, hx, hy, hz]
    simp [hrun, Result.andThen]
    refine hKw _ _ _ _ (ha.put _ _) ?_ hk
    exact (hs'.putMap hb (by simp [he, setKv])).perm List.perm_middle.symm
  · exact absurd (by rw [← hk1]; exact List.mem_map.2 ⟨e0, List.mem_of_getElem? h2, h3⟩) hnew
/-- A new map. -/
theorem OpStep.makeMap {t : TypeId} (hk : ∀ b, K (putF E.n f d (.map (some b))) (.mp b (setKv []) :: H)) : OpStep E ⟨d, .makeMap t none, ty, pos, after, gd⟩ f H K := by
  refine OpStep.of_value (v := fun w => .map (some w.heap.size)) (w' := fun w => w.alloc (.map #[] 0)) (H' := fun w => .mp w.heap.size (setKv []) :: H) fun w hs => ⟨?_, ?_, hk _⟩
  · simp [execOp, Instr.makeMap]
  · refine St.call (H' := [.mp w.heap.size (setKv [])]) hs ⟨rfl, rfl, rfl, by simp, fun k hk _ => Below.heap_alloc w _ k hk, ?_, ?_, by simp⟩
    · intro r hr
      simp only [List.mem_singleton] at hr; subst hr
      exact ⟨#[], 0, heap_alloc_new w _, rfl⟩
    · intro r hr k hk hl
      simp only [List.mem_singleton] at hr; subst hr
      simp only [Res.has] at hk
      omega
end Go.Proofs.Ytekikmdjldincaa
