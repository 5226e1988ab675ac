/- Slices of an array that a block holds; copies into a block. -/
import Derived.Test.YtekikmdjldincaaBase
set_option linter.unusedSimpArgs false
set_option linter.unusedVariables false
namespace Go.Proofs.Ytekikmdjldincaa
open Go Go.RowKit

theorem OpY.sliceArr {E : Env} {f : Fr} {H : List Res} {d : Option Tmp} {ty : TypeId} {pos : String} {after : Array Edge} {gd : Option (Nat × Bool)} {t : TypeId} {x : Operand} {b o n size : Nat} (ht : arrayOf E.P t = some (n, size)) (hx : f.eval x = .pointer (some ⟨b, o, none⟩)) (h0 : 0 < n) :
    OpY E ⟨d, .slice t x none none none, ty, pos, after, gd⟩ f H (.slice (some ⟨b, o, none⟩) n n) := by
  intro w _
  unfold arrayOf at ht
  split at ht
  · rename_i n' e hu
    obtain ⟨i, hi, he⟩ := Option.map_eq_some_iff.1 ht
    simp only [Prod.mk.injEq] at he
    obtain ⟨rfl, rfl⟩ := he
    have hne : ¬ n' = 0 := by omega
    simp [execOp, hx, Instr.sliceAt, run_underlying hu, Instr.sliceBounds, sizeOf, typeInfo, hi, Instr.sureAddr, hne, Addr.add]
  · cases ht
theorem OpStep.copyBlk {E : Env} {f : Fr} {H : List Res} {d : Option Tmp} {pos : String} {after : Array Edge} {gd : Option (Nat × Bool)} {K : Fr → List Res → Prop} {dT sT ty' : TypeId} {x y : Operand} {g o dn dc sn cnt : Nat} {bt e : TypeId} {size bytes : Nat} {zs cs ys us : List Value} {u : Value} {H' : List Res}
    (ht : sliceOf E.P dT = some (e, size, bytes, zs)) (hx : f.eval x = .slice (some ⟨g, o, none⟩) dn dc) (hy : f.eval y = u) (hr : ∀ w, St E.M E.w0 w H → Sl w u size sn ys) (hsn : 0 < sn) (hc : Nat.min sn dn = cnt) (hus : ys.take (cnt * size) = us) (hone : us.all (·.oneCell') = true)
    (hH : Turn (.blk g bt cs) (.blk g bt (spl cs o us)) H H') (hfit : o + cnt * size ≤ cs.length) (hk : K (putF E.n f d (.int .i64 cnt)) H') :
    OpStep E ⟨d, .call { callee := .builtin .copy, args := #[x, y], argTypes := #[dT, sT] }, ty', pos, after, gd⟩ f H K := by
  refine OpStep.of_value (v := fun _ => .int .i64 cnt) (w' := fun w => w.setCells g o us) (H' := fun _ => H') (fun w hs => ?_)
  obtain ⟨hu, i, z, hi, hz, hsz, _, _⟩ := sliceOf_spec ht
  obtain ⟨hyl, A, c, rfl, h1, h2, h3⟩ := hr w hs
  obtain ⟨b2, o2, rfl, _, hrg⟩ := h3 hsn
  obtain ⟨H1, H2, rfl, rfl⟩ := hH.split
  have hs' := hs.perm List.perm_middle
  have hul : us.length = cnt * size := by
    rw [← hus, List.length_take, hyl]
    have : cnt * size ≤ sn * size := Nat.mul_le_mul_right _ (by rw [← hc]; exact Nat.min_le_left _ _)
    omega
  have hl := run_loadCells_list (P := E.P) w ⟨b2, o2, none⟩ us (fun j v hv => by
    rw [Addr.add_mid]
    refine hrg j v ?_
    rw [← hus, List.getElem?_take] at hv
    split at hv
    · exact hv
    · cases hv)
  rw [hul] at hl
  have hst := run_storeCells_cells (P := E.P) g o us 0 w (fun j hj => by
      have h2 := hs'.cell_blk (b := g) (List.Mem.head _) (o + j)
      rw [List.getElem?_eq_getElem (show o + j < cs.length by omega)] at h2
      rw [Nat.add_zero, h2]; rfl) (fun j hj => by rw [Nat.add_zero]; exact hs'.frozen_blk (List.Mem.head _) (o + j)) (fun v hv => (List.all_eq_true.1 hone) v hv)
  simp only [Nat.add_zero] at hst
  refine ⟨?_, (St.setCells us o w cs hs').perm List.perm_middle.symm, hk⟩
  have hcp : (Builtin.copy_ #[dT, sT] ty' #[.slice (some ⟨g, o, none⟩) dn dc, .slice (some ⟨b2, o2, none⟩) sn c]).run E.P w = .ok (goInt cnt) (w.setCells g o us) := by
    simp [Builtin.copy_, run_underlying hu, Builtin.lenOf, Builtin.firstCells, sizeOf, typeInfo, hi, hsz, hc, hl, hst]
  simp [execOp, resolve, invoke, builtin, hx, hy, hcp, goInt]

end Go.Proofs.Ytekikmdjldincaa
