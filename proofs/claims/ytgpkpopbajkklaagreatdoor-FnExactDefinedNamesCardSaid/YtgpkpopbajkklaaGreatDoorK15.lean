/- Walks: what the reference tells of a circuit text. -/
import Derived.Test.YtgpkpopbajkklaaGreatDoorK14
import Derived.Test.YtgpkpopbajkklaaGreatDoorProg
import Derived.Test.YtgpkpopbajkklaaGreatDoorRows
import Derived.OpenShut
import Derived.ProofKit
import Derived.Lib.LaidTab
import Derived.MakeChecks
import Derived.LaidMore
import Derived.Lay
import Derived.Handed
import Derived.OpenVars
import Derived.Test.YtgpkpopbajkklaaGreatDoorK3
import Derived.Laws.BytesArg
set_option linter.unusedSimpArgs false
set_option linter.unusedVariables false
namespace Go.Proofs.YtgpkpopbajkklaaGreatDoor
open Go Go.RowKit
namespace TybT
theorem Tagg_24 : aggOf Tryz.prog 24 = some 2 := by kernel_rfl
theorem Tagg_50 : aggOf Tryz.prog 50 = some 4 := by kernel_rfl
theorem Tcall_29 : callable Tryz.prog 29 = true := by kernel_rfl
theorem Tcall_48 : callable Tryz.prog 48 = true := by kernel_rfl
theorem Tfo_50_0 : fieldOff Tryz.prog 50 0 = some 0 := by kernel_rfl
theorem Tfo_50_1 : fieldOff Tryz.prog 50 1 = some 1 := by kernel_rfl
theorem Tfo_54_0 : fieldOff Tryz.prog 54 0 = some 0 := by kernel_rfl
theorem Tfo_54_1 : fieldOff Tryz.prog 54 1 = some 1 := by kernel_rfl
theorem Tfo_77_2 : fieldOff Tryz.prog 77 2 = some 4 := by kernel_rfl
theorem Tone_22 : oneOf Tryz.prog 22 = true := by kernel_rfl
theorem Tone_3 : oneOf Tryz.prog 3 = true := by kernel_rfl
theorem Tone_51 : oneOf Tryz.prog 51 = true := by kernel_rfl
theorem Tone_52 : oneOf Tryz.prog 52 = true := by kernel_rfl
theorem Tone_9 : oneOf Tryz.prog 9 = true := by kernel_rfl
theorem Tsize_24 : (Tryz.prog.info? 24).map (·.size) = some 2 := by kernel_rfl
theorem Tsize_50 : (Tryz.prog.info? 50).map (·.size) = some 4 := by kernel_rfl
theorem Tsl_22 : sliceOf Tryz.prog 22 = some (69, 3, 24, [.int .i64 0, .int .i64 0, .int .i64 0]) := by kernel_rfl
theorem Tsl_40 : sliceOf Tryz.prog 40 = some (9, 1, 16, [sv ([])]) := by kernel_rfl
theorem Tsl_46 : sliceOf Tryz.prog 46 = some (50, 4, 40, [sv ([]), .int .i64 0, .int .i64 0, .int .i64 0]) := by kernel_rfl
theorem Tsl_51 : sliceOf Tryz.prog 51 = some (77, 7, 88, [sv ([]), .int .i64 0, .int .i64 0, .int .i64 0, .int .i64 0, sv ([]), .slice none 0 0]) := by kernel_rfl
theorem Tsl_52 : sliceOf Tryz.prog 52 = some (22, 1, 24, [.slice none 0 0]) := by kernel_rfl
theorem Tzero_24 : zeroOf Tryz.prog 24 = some [.int .i64 0, .slice none 0 0] := by kernel_rfl
theorem Tzero_50 : zeroOf Tryz.prog 50 = some [sv ([]), .int .i64 0, .int .i64 0, .int .i64 0] := by kernel_rfl
end TybT
open TybT
theorem rt_bad {s : Bs} (h : (rt s).1.1 ≠ 0) : (rt s).2 = (0, [], []) := by
  unfold rt at h ⊢
  split
  · rename_i h2; rw [if_pos h2] at h; exact absurd rfl h
  · rfl
theorem rt_nam_at {s : Bs} {L : List LV} {G : List GV} {T : List Dn} (h : ChkOk s L G T) : T.map (·.nm) = (rt s).2.2.2.map Df.nm := by
  refine List.ext_getElem (by simp [h.tlen]) fun i h1 h2 => ?_
  rw [List.length_map] at h1
  have h3 := (h.defs i h1).1
  have h4 : i < (rt s).2.2.2.length := by rw [← h.tlen]; exact h1
  simpa [dnx, dfx, List.getD, List.getElem?_eq_getElem h1, List.getElem?_eq_getElem h4] using h3
theorem take_dn {T : List Dn} {k : Nat} (hk : k < T.length) : (T.take (k + 1)).map (·.nm) = (T.take k).map (·.nm) ++ [(dnx T k).nm] := by
  rw [← List.take_append_getElem hk, List.map_append]
  simp [dnx, List.getD, hk]

set_option maxHeartbeats 4000000 in
set_option maxRecDepth 20000 in
theorem sDefinedNames_spec {s : Bs} {w : World} : Calls Tryz.prog 23 #[sv s] w (Post No w fun v H => ∃ vo, v = .tuple #[vo, .bool (decide ((rt s).1.1 = 0))] ∧ H = [.own vo 9 1 ((rt s).2.2.2.map Df.nm).length (strs ((rt s).2.2.2.map Df.nm))]) := by
 refine enter (n := 33) (args := [sv s]) Tryz.func23 rfl rfl (St.empty _ _) ?_
 refine Run.sr ?_
 refine Run.p (.slice none 0 0) rfl rfl ?_
 refine Run.p (.bool false) rfl rfl ?_
 refine Run.dsr ?_
 refine Run.p (sv s) rfl rfl ?_
 refine Run.step rfl (OpStep.call (vs := [sv s]) (caps := []) Tcall_29 rfl rfl (fun w hs => l5Check_spec) ?_)
 rintro _ _ ⟨b, vt, vl, vd, L, G, T, rfl, rfl, hck⟩
 show Run _ _ (putF _ _ _ (.tuple #[.pointer (some ⟨b, 0, none⟩), vt, .int .i64 ((rt s).1.1), .int .i64 ((rt s).1.2)])) [.blk b 54 [vl, vd], .own vl 77 7 (L.length) (rls L), .grp 3 1 (rgr L), .own vd 22 1 (G.length) (gvs G), .grp 69 3 (ggr G), .own vt 50 4 (T.length) (dns T)]
 refine Run.p (.tuple #[.pointer (some ⟨b, 0, none⟩), vt, .int .i64 ((rt s).1.1), .int .i64 ((rt s).1.2)]) rfl rfl ?_
 refine Run.p (.pointer (some ⟨b, 0, none⟩)) rfl rfl ?_
 refine Run.p (vt) rfl rfl ?_
 refine Run.p (.int .i64 ((rt s).1.1)) rfl rfl ?_
 refine Run.p (.int .i64 ((rt s).1.2)) rfl rfl ?_
 refine Run.p (.pointer (some ⟨b, 0, none⟩)) rfl rfl ?_
 refine Run.p (vt) rfl rfl ?_
 refine Run.p (.int .i64 ((rt s).1.1)) rfl rfl ?_
 refine Run.p (.int .i64 ((rt s).1.2)) rfl rfl ?_
 refine Run.done ?_
 refine Run.seq ?_
 refine Run.sr ?_
 refine Run.p (.int .i64 ((rt s).1.1)) rfl rfl ?_
 refine Run.p (.bool (((rt s).1.1) != 0)) rfl rfl ?_
 refine Run.done ?_
 refine Run.cond (b := ((rt s).1.1) != 0) rfl (fun h19 => ?_) (fun h19 => ?_)
 ·have p19 := h19; try simp only [bs] at p19
  have hb := rt_bad p19
  refine Run.sr ?_
  refine Run.p (.slice none 0 0) rfl rfl ?_
  refine Run.p (.bool false) rfl rfl ?_
  refine Run.done ?_
  refine Run.ret ?_
  refine ⟨.tuple #[.slice none 0 0, .bool false], [.own (.slice none 0 0) 9 1 (((rt s).2.2.2.map Df.nm).length) (strs ((rt s).2.2.2.map Df.nm))], Out.two rfl rfl rfl, ((Weak.nilOwn 9 1).trans (Some'.weak (.takeEq (by first | (rw [htk]; done) | (rw [hb]; rfl)) (.nil _)))), ?_⟩
  exact ⟨_, by rw [decide_eq_false p19], rfl⟩
 ·have p19 := h19; try simp only [bs] at p19
  have hc := hck (by simpa using p19)
  have hTn : T.length ≤ 16777216 := by rw [hc.tlen]; exact rt_defs s
  refine Run.skip ?_
  refine Run.sr ?_
  refine Run.p (.slice none 0 0) rfl rfl ?_
  refine Run.done ?_
  refine Run.seq ?_
  refine Run.seq ?_
  refine Run.weak (H' := [.own (.slice none 0 0) 9 1 0 (strs []), .blk b 54 [vl, vd], .own vl 77 7 (L.length) (rls L), .grp 3 1 (rgr L), .own vd 22 1 (G.length) (gvs G), .grp 69 3 (ggr G), .own vt 50 4 (T.length) (dns T)]) (Weak.nilOwn _ _) ?_ ⟨_, _, rfl, fun _ => nofun, fun _ => nofun⟩
  refine Run.region ?_
  refine Run.p (vt) rfl rfl ?_
  refine Run.formOwn (.tail _ (.tail _ (.tail _ (.tail _ (.tail _ (.tail _ (List.Mem.head _))))))) (fun A_vt1 c_vt1 hv hcapc_vt1 hmaxc_vt1 => ?_) (fun _ _ _ => ⟨nofun, nofun, nofun⟩)
  subst hv
  refine Run.y (.int .i64 (((T.length : Nat) : Int))) rfl (OpY.len Tsl_46 rfl) ?_
  refine Run.p (.int .i64 0) rfl rfl ?_
  refine Run.done ?_
  refine Run.block ?_
  refine Run.loop (ι := Nat × Value) [8, 10, 22, 23, 24, 25, 26, 27, 28, 29, 30, 31] (fun ⟨k, vo⟩ => [(8, vo), (22, .int .i64 (((k : Nat) : Int)))]) (fun ⟨k, vo⟩ => [.blk b 54 [vl, vd], .own vl 77 7 (L.length) (rls L), .grp 3 1 (rgr L), .own vd 22 1 (G.length) (gvs G), .grp 69 3 (ggr G), .own (.slice A_vt1 (T.length) c_vt1) 50 4 (T.length) (dns T), .own vo 9 1 (((T.take k).map (·.nm)).length) (strs ((T.take k).map (·.nm)))]) (fun ⟨k, vo⟩ => k ≤ T.length) (fun ⟨k, vo⟩ => T.length - k) (0, .slice none 0 0) ?_ ?_ ?_ ?_
  ·exact Nat.zero_le _
  ·exact ⟨rfl, rfl, trivial⟩
  ·exact ((Weak.selF [1, 1, 1, 1, 1, 1, 0]).trans (Some'.weak (.take (.take (.take (.take (.take (.take (.takeEq (by first | rfl | simp) (.nil _))))))))))
  ·rintro ⟨k, vo⟩ fr hinv
   show Run _ _ (over _ _ [(8, vo), (22, .int .i64 (((k : Nat) : Int)))] fr) [.blk b 54 [vl, vd], .own vl 77 7 (L.length) (rls L), .grp 3 1 (rgr L), .own vd 22 1 (G.length) (gvs G), .grp 69 3 (ggr G), .own (.slice A_vt1 (T.length) c_vt1) 50 4 (T.length) (dns T), .own vo 9 1 (((T.take k).map (·.nm)).length) (strs ((T.take k).map (·.nm)))]
   try dsimp only at hinv
   refine Run.sr ?_
   refine Run.p (.bool (decide ((((k : Nat) : Int)) < (((T.length : Nat) : Int))))) rfl rfl ?_
   refine Run.done ?_
   refine Run.seq ?_
   refine Run.cond (b := decide ((((k : Nat) : Int)) < (((T.length : Nat) : Int)))) rfl (fun h23 => ?_) (fun h23 => ?_)
   ·have p23 := h23; try simp only [bs] at p23
    have hltk : k < T.length := by omega
    refine Run.openOwn (.tail _ (.tail _ (.tail _ (.tail _ (.tail _ (List.Mem.head _)))))) (by omega) (fun gt cg hvgt hcapgt _ => ?_) (fun _ _ _ => ⟨nofun, nofun, nofun⟩)
    injection hvgt with hAgt _ hcgt; subst hAgt; subst hcgt
    refine Run.skip ?_
    refine Run.seq ?_
    refine Run.block ?_
    refine Run.sr ?_
    refine Run.y (.pointer (some ⟨gt, k * 4, none⟩)) rfl (OpY.index (kk := k) Tsl_46 rfl rfl (by omega) (by omega) (by first | rfl | omega)) ?_
    refine Run.y (.agg #[sv ((dnx T k).nm), .int .i64 ((dnx T k).n), .int .i64 ((dnx T k).a), .int .i64 ((dnx T k).z)]) rfl (OpY.loadN (cs := [sv ((dnx T k).nm), .int .i64 ((dnx T k).n), .int .i64 ((dnx T k).a), .int .i64 ((dnx T k).z)]) Tagg_50 rfl (Cells.own0 (.tail _ (.tail _ (.tail _ (.tail _ (.tail _ (List.Mem.head _)))))) (dns_pre0 (k := k) (by omega)))) ?_
    refine Run.step rfl (OpStep.alloc (zs := [sv ([]), .int .i64 0, .int .i64 0, .int .i64 0]) Tzero_50 fun b1 => ?_)
    refine Run.step rfl (OpStep.storeAll (us := [sv ((dnx T k).nm), .int .i64 ((dnx T k).n), .int .i64 ((dnx T k).a), .int .i64 ((dnx T k).z)]) Tsize_50 rfl rfl rfl (.here _) rfl ?_)
    refine Run.dr ?_
    refine Run.p (vo) rfl rfl ?_
    refine Run.y (.pointer (some ⟨b1, 0, none⟩)) rfl (OpY.fieldAddr Tfo_50_0 rfl rfl) ?_
    refine Run.y (sv ((dnx T k).nm)) rfl (OpY.load1 Tone_9 rfl (Cells.blk (.head _) ⟨rfl, trivial⟩)) ?_
    refine Run.step rfl (OpStep.buildSlice (us := [sv ((dnx T k).nm)]) Tsl_40 (by decide) (by decide) ⟨rfl, [sv ((dnx T k).nm)], _, rfl, rfl, rfl, rfl⟩ rfl fun b2 => ?_)
    refine Run.step rfl (OpStep.append (H1 := [.own (.slice (some ⟨b2, 0, none⟩) 1 1) 9 1 1 ([sv ((dnx T k).nm)]), .blk b1 50 [sv ((dnx T k).nm), .int .i64 ((dnx T k).n), .int .i64 ((dnx T k).a), .int .i64 ((dnx T k).z)], .blk b 54 [vl, vd], .own vl 77 7 (L.length) (rls L), .grp 3 1 (rgr L), .own vd 22 1 (G.length) (gvs G), .grp 69 3 (ggr G), .own (.slice (some ⟨gt, 0, none⟩) (T.length) c_vt1) 50 4 (T.length) (dns T)]) (H2 := []) (v := vo) (u := .slice (some ⟨b2, 0, none⟩) 1 1) (n := ((T.take k).map (·.nm)).length) (m := 1) (xs := strs ((T.take k).map (·.nm))) (ys := [sv ((dnx T k).nm)]) Tsl_40 (by decide) rfl rfl rfl rfl (fun w hs => hs.slOwn (.head _)) (by simp [Value.oneCell']) (by (simp only [List.length_map, List.length_take]; omega)) (by simp only [maxLen]; (simp only [List.length_map, List.length_take]; omega)) fun av1 hnav1 => ?_)
    refine Run.weak (H' := [.own (.slice (some ⟨b2, 0, none⟩) 1 1) 9 1 1 ([sv ((dnx T k).nm)]), .blk b1 50 [sv ((dnx T k).nm), .int .i64 ((dnx T k).n), .int .i64 ((dnx T k).a), .int .i64 ((dnx T k).z)], .blk b 54 [vl, vd], .own vl 77 7 (L.length) (rls L), .grp 3 1 (rgr L), .own vd 22 1 (G.length) (gvs G), .grp 69 3 (ggr G), .own (.slice (some ⟨gt, 0, none⟩) (T.length) c_vt1) 50 4 (T.length) (dns T), .own av1 9 1 (((T.take (k + 1)).map (·.nm)).length) (strs ((T.take (k + 1)).map (·.nm)))]) (Some'.weak (.take (.take (.take (.take (.take (.take (.take (.take (.takeEq (by rw [take_dn hltk]; simp [strs]) (.nil _))))))))))) ?_ ⟨_, _, rfl, fun _ => nofun, fun _ => nofun⟩
    refine Run.p (av1) rfl rfl ?_
    refine Run.done ?_
    refine Run.blockEnd ?_
    refine Run.region ?_
    refine Run.y (.int .i64 ((((k : Nat) : Int)) + 1)) rfl (OpY.add rfl rfl rfl (by omega) (by omega)) ?_
    refine Run.p (.int .i64 ((((k : Nat) : Int)) + 1)) rfl rfl ?_
    refine Run.done ?_
    refine Run.goal ⟨(by repeat (first | exact Same.refl _ _ | refine Same.put rfl ?_ | refine Same.over rfl rfl ?_)), (k + 1, av1), ?_, ?_, ?_, ?_⟩
    ·show k + 1 ≤ T.length; omega
    ·show T.length - (k + 1) < T.length - k; omega
    ·exact ⟨(by first | rfl | (congr 1; omega) | simp), (by first | rfl | (congr 1; omega) | simp), trivial⟩
    ·exact (Some'.weak (.skip (.skip (.take (.takeEq (by first | rfl | simp) (.takeEq (by first | rfl | simp) (.takeEq (by first | rfl | simp) (.takeEq (by first | rfl | simp) (.takeEq (by first | rfl | simp) (.takeEq (by first | rfl | simp) (.nil _)))))))))))
   ·have p23 := h23; try simp only [bs] at p23
    have hkn : k = T.length := by omega
    have htk : (T.take k).map (·.nm) = (rt s).2.2.2.map Df.nm := by rw [hkn, List.take_length]; exact rt_nam_at hc
    refine Run.exit rfl ?_
    refine Run.sr ?_
    refine Run.p (vo) rfl rfl ?_
    refine Run.p (vo) rfl rfl ?_
    refine Run.p (.bool true) rfl rfl ?_
    refine Run.done ?_
    refine Run.ret ?_
    refine ⟨.tuple #[vo, .bool true], [.own vo 9 1 (((rt s).2.2.2.map Df.nm).length) (strs ((rt s).2.2.2.map Df.nm))], Out.two rfl rfl rfl, (Some'.weak (.skip (.skip (.skip (.skip (.skip (.skip (.takeEq (by first | (rw [htk]; done) | (rw [hb]; rfl)) (.nil _))))))))), ?_⟩
    exact ⟨_, by rw [decide_eq_true (show (rt s).1.1 = 0 by simpa using p19)], rfl⟩

end Go.Proofs.YtgpkpopbajkklaaGreatDoor
/- Plain: how many gates are read of a circuit text. -/
set_option linter.unusedSimpArgs false
set_option linter.unusedVariables false
namespace Go.Proofs.YtgpkpopbajkklaaGreatDoor
open Go Go.RowKit
end Go.Proofs.YtgpkpopbajkklaaGreatDoor
/- What the laws' rows lay in the world, in the words of the walks. -/
set_option linter.unusedSimpArgs false
set_option linter.unusedVariables false
namespace Go.Proofs.YtgpkpopbajkklaaGreatDoor
open Go Go.RowKit
theorem cells_of_strs {H : Type} {enc : TypeId × Value → H} {P : Program} {w : World} {base : Nat} {spare : Nat → Bool} {held : Bool} {fuel : Nat} {t e : TypeId} {n : Nat} {cs : List Value} {zs : List Bs} {p : List MemPlace}
    (ht : P.underlying t = some (.array n e)) (he : P.underlying e = some .string) (hce : P.cellsOf e = 1) (hct : P.cellsOf t = n)
    (h : DataW.trod enc P w base spare held fuel t cs = some (.agg (zs.map fun z => .lit (.string z)), p)) : cs = strs zs := by
  obtain ⟨xs, m, rfl, hx, hlen, hn, hel⟩ := DataW.trod_array ht h
  simp only [Prod.mk.injEq, DataW.agg.injEq] at hx
  have hzl : zs.length = n := by have := congrArg List.length hx.1; simpa [hn] using this
  refine List.ext_getElem (by rw [hlen, hct, strs_length, hzl]) fun i h1 h2 => ?_
  have hi : i < n := by rw [hlen, hct] at h1; exact h1
  have h3 := hel i hi
  rw [hce, Nat.mul_one, List.getElem?_eq_getElem (by omega)] at h3
  obtain ⟨s, e1, e2, _⟩ := DataW.trod_string he h3
  have e3 : cs[i] = .string s := by
    have : (cs.drop i).take 1 = [cs[i]] := by rw [List.drop_eq_getElem_cons h1]; rfl
    rw [this] at e1; simpa using e1
  have e4 := congrArg (fun l => l[i]?) hx.1
  simp only [List.getElem?_map, List.getElem?_eq_getElem (show i < xs.length by omega), List.getElem?_eq_getElem (show i < zs.length by omega), Option.map_some, Option.some.injEq] at e4
  rw [e2] at e4
  simp only [DataW.lit.injEq, Lit.string.injEq] at e4
  rw [e3, sv_of]
  simp only [strs, List.getElem_map]
  rw [e4]
theorem iface_of_trod {H : Type} {enc : TypeId × Value → H} {P : Program} {w : World} {base : Nat} {spare : Nat → Bool} {held : Bool} {fuel : Nat} {t : TypeId} {cs : List Value} {n : String} {d : DataW H} {p : List MemPlace} {ms : Array (String × TypeId)}
    (ht : P.underlying t = some (.interface ms)) (h : DataW.trod enc P w base spare held fuel t cs = some (.iface n d, p)) : ∃ u x, cs = [.iface u x] := by
  cases fuel with
  | zero => simp [DataW.trod] at h
  | succ m =>
    unfold DataW.trod at h
    rw [ht] at h
    simp only at h
    split at h
    all_goals first | exact ⟨_, _, rfl⟩ | (simp at h; done) | (simp_all; done) | skip
theorem laid_eq : Rows.fnExactCheckTextRow.laid = [("math/bits.deBruijn32tab", Rows.laid_math_bits_deBruijn32tab), ("math/bits.deBruijn64tab", Rows.laid_math_bits_deBruijn64tab), ("internal/strconv.uint64pow10", Rows.laid_internal_strconv_uint64pow10), ("unicode/utf8.acceptRanges", Rows.laid_unicode_utf8_acceptRanges), ("strconv.ErrRange", Rows.laid_strconv_ErrRange), ("strconv.ErrSyntax", Rows.laid_strconv_ErrSyntax), ("loop.example/g00864/impl.gateNames", Rows.laid_loop_example_g00864_impl_gateNames), ("unicode/utf8.first", Rows.laid_unicode_utf8_first)] := rfl
theorem gTab : Tryz.prog.globalNamed "internal/strconv.uint64pow10" = some 1 := by kernel_rfl
theorem gEs : Tryz.prog.globalNamed "strconv.ErrSyntax" = some 7 := by kernel_rfl
theorem gEr : Tryz.prog.globalNamed "strconv.ErrRange" = some 8 := by kernel_rfl
theorem gNm : Tryz.prog.globalNamed "loop.example/g00864/impl.gateNames" = some 0 := by kernel_rfl
theorem names_eq {H : Type} : (Rows.laid_loop_example_g00864_impl_gateNames : DataW H) = .agg (gnames.map fun z => .lit (.string z)) := rfl
theorem tab_eq {H : Type} : (Rows.laid_internal_strconv_uint64pow10 : DataW H) = Lib.tabData .u64 Lib.pow10Tab := rfl
theorem one_cell {W : World} {n : String} {g : Nat} {cs : Array Value} {v : Value} (hg : Tryz.prog.globalNamed n = some g) (hv : W.var? Tryz.prog n = some cs) (hc : cs.toList = [v]) : W.cell? ⟨g, 0, none⟩ = some v := by
  have := World.var?_cell hg hv 0
  rw [Array.eq_one_of_toList hc] at this
  simpa using this
theorem gl_of {W : World} (hl : laidMetH Tryz.prog Rows.fnExactCheckTextRow.laid W) (hs : W.ShapedOpen Tryz.prog) : Gl W := by
  rw [MakeChecks.laidMetH_plain _ _ _ (by kernel_rfl), laid_eq] at hl
  obtain ⟨ps, hV, _, _⟩ := hl
  obtain ⟨g0, t0, c0, f0, p0, q0, _, _, _, _, hV, _⟩ := hV
  obtain ⟨g1, t1, c1, f1, p1, q1, _, _, _, _, hV, _⟩ := hV
  obtain ⟨g2, t2, c2, f2, p2, q2, hg2, ht2, hv2, hd2, hV, _⟩ := hV
  obtain ⟨g3, t3, c3, f3, p3, q3, _, _, _, _, hV, _⟩ := hV
  obtain ⟨g4, t4, c4, f4, p4, q4, hg4, ht4, hv4, hd4, hV, _⟩ := hV
  obtain ⟨g5, t5, c5, f5, p5, q5, hg5, ht5, hv5, hd5, hV, _⟩ := hV
  obtain ⟨g6, t6, c6, f6, p6, q6, hg6, ht6, hv6, hd6, _, _⟩ := hV
  obtain rfl := Option.some.inj (gTab.symm.trans hg2)
  obtain rfl := Option.some.inj (gEr.symm.trans hg4)
  obtain rfl := Option.some.inj (gEs.symm.trans hg5)
  obtain rfl := Option.some.inj (gNm.symm.trans hg6)
  obtain rfl := Option.some.inj ((show (Tryz.prog.globals[1]?).map (·.type) = some 145 by kernel_rfl).symm.trans ht2)
  obtain rfl := Option.some.inj ((show (Tryz.prog.globals[8]?).map (·.type) = some 155 by kernel_rfl).symm.trans ht4)
  obtain rfl := Option.some.inj ((show (Tryz.prog.globals[7]?).map (·.type) = some 155 by kernel_rfl).symm.trans ht5)
  obtain rfl := Option.some.inj ((show (Tryz.prog.globals[0]?).map (·.type) = some 125 by kernel_rfl).symm.trans ht6)
  refine ⟨?_, ?_, ?_, Tryz.laysM146.s1_3 W hs, ?_⟩
  · rw [tab_eq] at hd2
    unfold Lib.TabIs
    rw [hv2, ← Lib.cells_of_tab Tryz.underlying145 Tryz.underlying71 (by kernel_rfl) (by kernel_rfl) hd2]
  · obtain ⟨u, x, hc⟩ := iface_of_trod Tryz.underlying155 hd5
    exact ⟨u, x, one_cell gEs hv5 hc⟩
  · obtain ⟨u, x, hc⟩ := iface_of_trod Tryz.underlying155 hd4
    exact ⟨u, x, one_cell gEr hv4 hc⟩
  · rw [names_eq] at hd6
    have hc := cells_of_strs Tryz.underlying125 Tryz.underlying9 (by kernel_rfl) (by kernel_rfl) hd6
    have hcell : ∀ (j : Nat) u, (strs gnames)[j]? = some u → W.cell? ⟨0, j, none⟩ = some u := fun j u hj => by
      have := World.var?_cell gNm hv6 j
      rw [this, ← hj, ← hc, Array.getElem?_toList]
    exact ⟨rfl, _, _, rfl, by decide, by decide, fun _ => ⟨_, 0, rfl, Lib.lt_of_cell (hcell 0 _ rfl), fun j u hj => by rw [Nat.zero_add]; exact hcell j u hj⟩⟩
/-- The kit's wrap with a condition on the world, the world's shape kept. -/
theorem rih_and_shaped {H : Type} {enc : TypeId × Value → H} {a : Assume} {C : Checked} {os : Os} {f : FuncId} {fn : Func} {s : ChangeSpec} {conds : List PathCond} {apart fresh handsOn again : Bool} {X : World → Array Value → Prop}
    (hX : ∀ (w w' : World) (args : Array Value), w.heap = w'.heap → X w args → X w' args)
    (own : ownKnob C.prog.godebug = none) (started : os.Started) (noInit : C.prog.inits.idxOf? f = none) (hfn : C.prog.funcs[f]? = some fn)
    (witness : ∃ (w : World) (tape : Tape) (i : Input), w.os = os ∧ (w.forCall tape i).Shaped C.prog ∧ i.vars = [] ∧ Input.okWide C.prog (w.forCall tape i) .any w.heap.size f i ∧
      ((s.pre enc C.prog fn conds apart (w.forCall tape i).memory i.args ∧ X (w.forCall tape i).memory i.args) ∧ sizedMet enc C.prog fn (OpenSpec.ofChange s) apart (w.forCall tape i).memory i.args) ∧ a.holds C.prog (lone (Frame.enter C.prog f i.args .normal) [] (w.forCall tape i)))
    (contract : ∀ (W : World) (base : Nat) (args : Array Value) (ds gs : List (DataW H)) (before : List MemPlace),
      (∀ (j : Nat) t v, fn.params[j]? = some t → args[j]? = some v → Value.okWide C.prog W .any base t v) →
      DataW.Whole enc C.prog fn.params.toList s.vars apart W args.toList ds gs before → X W args → W.ShapedOpen C.prog →
      Calls C.prog f args W fun e W' => ∃ v, e = .returned v ∧ s.post enc C.prog fn apart fresh handsOn again W args v W') :
    ReturnsInHanded a C os f .any (fun w args => (s.pre enc C.prog fn conds apart w args ∧ X w args) ∧ sizedMet enc C.prog fn (OpenSpec.ofChange s) apart w args) (s.post enc C.prog fn apart fresh handsOn again) := by
  refine returnsInHanded_of_calls own started noInit witness ?_
  intro w tape i _ hsh _ hok hpre hholds
  obtain ⟨_, _, _, fn', hfn', _, _, _, _, hval⟩ := hok
  have e : fn' = fn := Option.some.inj (hfn'.symm.trans hfn)
  subst e
  obtain ⟨⟨⟨ds, gs, before, hw, hc⟩, hx⟩, hz⟩ := hpre
  have hw' := DataW.Whole.of_heap (w' := w.forCall tape i) (by rfl) hw
  refine (contract (w.forCall tape i) w.heap.size i.args ds gs before hval hw' (hX _ _ _ (by rfl) hx) hsh).mono fun e W' ⟨v, he, hp⟩ => ?_
  subst he
  exact ChangeSpec.post_blind hp

end Go.Proofs.YtgpkpopbajkklaaGreatDoor
/- Plain: bytes to strings, stores of strings, the laws' marks in slices of strings. -/
set_option linter.unusedSimpArgs false
set_option linter.unusedVariables false
namespace Go.Proofs.YtgpkpopbajkklaaGreatDoor
open Go Go.RowKit
/-- The byte of a number. -/
def chr (i : Int) : UInt8 := UInt8.ofNat i.toNat
def bytesT (P : Program) (t : TypeId) : Bool := match P.underlying t with
  | some (.slice e) => (match P.underlying e with
    | some (.int .u8) => true
    | _ => false)
  | _ => false
theorem OpY.bytesS {E : Env} {f : Fr} {H : List Res} {d : Option Tmp} {ty : TypeId} {pos : String} {after : Array Edge} {gd : Option (Nat × Bool)} {s t : TypeId} {x : Operand} {b o n c : Nat} {xs : List Int} (hs : bytesT E.P s = true) (ht : strT E.P t = true) (hx : f.eval x = .slice (some ⟨b, o, none⟩) n c) (hl : xs.length = n) (hc : Cells E H b o (xs.map (Value.int .u8))) :
    OpY E ⟨d, .convert s t x, ty, pos, after, gd⟩ f H (sv (xs.map chr)) := by
  intro w hw
  unfold bytesT at hs
  split at hs
  · rename_i e hu
    split at hs
    · rename_i hu2
      have h1 := run_convert_bytes_arg (P := E.P) w s e hu hu2 b o n c xs hl (fun i hi => by
        have h2 := hc w hw i (.int .u8 (xs.getD i 0)) (by simp [List.getD, show i < xs.length by omega])
        exact h2) t (strT_spec ht)
      simp only [execOp, hx, h1, Sem.run_bind, Result.andThen_ok, Sem.run_pure]
      rfl
    · cases hs
  · cases hs
theorem spl_one : ∀ (cs : List Value) (o : Nat) (u : Value), spl cs o [u] = cs.set o u := fun _ _ _ => rfl
theorem OpStep.storeOwnS {E : Env} {f : Fr} {H : List Res} {d : Option Tmp} {ty : TypeId} {pos : String} {after : Array Edge} {gd : Option (Nat × Bool)} {K : Fr → List Res → Prop} {t : TypeId} {x y : Operand} {g cap n m o : Nat} {e : TypeId} {size : Nat} {L : List Bs} {a : Bs} {H' : List Res} (ht : (E.P.info? t).map (·.size) = some 1) (hx : f.eval x = .pointer (some ⟨g, o, none⟩)) (hy : f.eval y = sv a)
    (hH : Turn (.own (.slice (some ⟨g, 0, none⟩) m cap) e size n (strs L)) (.own (.slice (some ⟨g, 0, none⟩) m cap) e size n (strs (L.set o a))) H H') (hfit : o + 1 ≤ n * size) (hk : K (putF E.n f d undef) H') :
    OpStep E ⟨d, .store t x y, ty, pos, after, gd⟩ f H K := by
  refine OpStep.storeOwn (us := [sv a]) (v := .slice (some ⟨g, 0, none⟩) m cap) (m := m) (cap := cap) (e := e) ht hx rfl (by rw [hy]; rfl) rfl (cs := strs L) ?_ hfit hk
  rw [spl_one, show (strs L).set o (sv a) = strs (L.set o a) by simp [strs, List.map_set]]
  exact hH
/-- The digits of a number; nothing for 0. -/
def dg (k : Nat) : Bs := if h : k = 0 then [] else dg (k / 10) ++ [chr (48 + ((k % 10 : Nat) : Int))]
termination_by k
decreasing_by omega
theorem dg_zero : dg 0 = [] := by rw [dg, dif_pos rfl]
theorem dg_pos {k : Nat} (h : 0 < k) : dg k = dg (k / 10) ++ [chr (48 + ((k % 10 : Nat) : Int))] := by
  conv => lhs; rw [dg, dif_neg (by omega)]
theorem dg_len : ∀ k : Nat, (dg k).length ≤ k := by
  intro k
  induction k using Nat.strongRecOn with
  | _ k ih =>
    rcases Nat.eq_zero_or_pos k with h | h
    · subst h; rw [dg_zero]; exact Nat.le_refl _
    · rw [dg_pos h, List.length_append]
      have := ih (k / 10) (by omega)
      simp only [List.length_cons, List.length_nil]; omega
/-- The mark of a number. -/
def mt (k : Nat) : Bs := [109] ++ dg k
/-- A slice's marks. -/
def mtL (k n : Nat) : List Bs := (List.range n).map fun i => mt (k + i)
@[simp] theorem mtL_length (k n : Nat) : (mtL k n).length = n := by simp [mtL]
theorem mtL_succ (k n : Nat) : mtL k (n + 1) = mtL k n ++ [mt (k + n)] := by simp [mtL, List.range_succ]
theorem stx_mtL {k n i : Nat} (h : i < n) : stx (mtL k n) i = mt (k + i) := by simp [stx, mtL, List.getD, h]
theorem mtL_set {k i : Nat} {L : List Bs} (h : i < L.length) : (mtL k i ++ L.drop i).set i (mt (k + i)) = mtL k (i + 1) ++ L.drop (i + 1) := by
  rw [List.set_append_right _ _ (by rw [mtL_length]; exact Nat.le_refl _), mtL_length, Nat.sub_self, List.drop_eq_getElem_cons h, List.set_cons_zero, mtL_succ, List.append_assoc]
  rfl
theorem set_strs {k i : Nat} {L : List Bs} (h : i < L.length) : strs ((mtL k i ++ L.drop i).set i (mt (k + i))) = strs (mtL k (i + 1) ++ L.drop (i + 1)) := by rw [mtL_set h]

theorem OpY.quoN {E : Env} {f : Fr} {H : List Res} {d : Option Tmp} {ty : TypeId} {pos : String} {after : Array Edge} {gd : Option (Nat × Bool)} {t t' : TypeId} {x y : Operand} {k : Nat} (hx : f.eval x = .int .i64 ((k : Nat) : Int)) (hy : f.eval y = .int .i64 10) (h : k ≤ 9223372036854775807) :
    OpY E ⟨d, .binOp .quo t x y t', ty, pos, after, gd⟩ f H (.int .i64 ((k / 10 : Nat) : Int)) := by
  have h1 := OpY.quo (E := E) (H := H) (d := d) (ty := ty) (pos := pos) (after := after) (gd := gd) (t := t) (t' := t') hx hy (by omega) (by omega) (by omega)
  rwa [show ((k : Nat) : Int) / 10 = ((k / 10 : Nat) : Int) by omega] at h1

end Go.Proofs.YtgpkpopbajkklaaGreatDoor
/- Walks: the laws' marks in slices of strings. -/
set_option linter.unusedSimpArgs false
set_option linter.unusedVariables false
namespace Go.Proofs.YtgpkpopbajkklaaGreatDoor
open Go Go.RowKit
namespace TzbT
theorem Tbytes_30 : bytesT Tryz.prog 30 = true := by kernel_rfl
theorem Tcall_47 : callable Tryz.prog 47 = true := by kernel_rfl
theorem Tint_5 : Tryz.prog.underlying 5 = some (.int .u8) := by kernel_rfl
theorem Tone_9 : oneOf Tryz.prog 9 = true := by kernel_rfl
theorem Tsize_9 : (Tryz.prog.info? 9).map (·.size) = some 1 := by kernel_rfl
theorem Tsl_30 : sliceOf Tryz.prog 30 = some (5, 1, 1, [.int .u8 0]) := by kernel_rfl
theorem Tsl_40 : sliceOf Tryz.prog 40 = some (9, 1, 16, [sv ([])]) := by kernel_rfl
theorem Tsome_3 : (Tryz.prog.underlying 3).isSome = true := by kernel_rfl
theorem Tstr_9 : strT Tryz.prog 9 = true := by kernel_rfl
end TzbT
open TzbT
set_option maxHeartbeats 1000000 in
set_option maxRecDepth 20000 in
theorem markText_spec {k0 : Nat} (h0 : 0 < k0) (h1 : k0 ≤ 4611686018427387904) (w : World) : Calls Tryz.prog 47 #[.int .i64 ((k0 : Nat) : Int)] w (Post No w fun v _ => v = sv (mt k0)) := by
 refine enter (n := 20) (args := [.int .i64 (((k0 : Nat) : Int))]) Tryz.func47 rfl rfl (St.empty _ _) ?_
 refine Run.sr ?_
 refine Run.p (sv ([])) rfl rfl ?_
 refine Run.done ?_
 refine Run.seq ?_
 refine Run.sr ?_
 refine Run.p (.int .i64 (((k0 : Nat) : Int))) rfl rfl ?_
 refine Run.p (.bool (decide ((((k0 : Nat) : Int)) ≤ 0))) rfl rfl ?_
 refine Run.done ?_
 refine Run.cond (b := decide ((((k0 : Nat) : Int)) ≤ 0)) rfl (fun h5 => ?_) (fun h5 => ?_)
 ·exact absurd h5 (by simp; omega) --DONE
 ·have p5 := h5; try simp only [bs] at p5
  refine Run.skip ?_
  refine Run.sr ?_
  refine Run.p (sv ([])) rfl rfl ?_
  refine Run.done ?_
  refine Run.seq ?_
  refine Run.block ?_
  refine Run.loop (ι := Nat × Bs) [0, 3, 6, 7, 8, 9, 10, 11, 12, 13, 14, 15, 16, 17] (fun ⟨k, out⟩ => [(0, .int .i64 (((k : Nat) : Int))), (3, sv out)]) (fun ⟨k, out⟩ => []) (fun ⟨k, out⟩ => dg k ++ out = dg k0 ∧ k ≤ k0) (fun ⟨k, out⟩ => k) (k0, []) ?_ ?_ ?_ ?_
  ·exact ⟨by simp, Nat.le_refl _⟩
  ·exact ⟨rfl, rfl, trivial⟩
  ·exact (Some'.weak (.nil _))
  ·rintro ⟨k, out⟩ fr hinv
   show Run _ _ (over _ _ [(0, .int .i64 (((k : Nat) : Int))), (3, sv out)] fr) []
   try dsimp only at hinv
   refine Run.seq ?_
   refine Run.sr ?_
   refine Run.p (.int .i64 (((k : Nat) : Int))) rfl rfl ?_
   refine Run.p (.bool (decide ((((k : Nat) : Int)) > 0))) rfl rfl ?_
   refine Run.done ?_
   refine Run.cond (b := decide ((((k : Nat) : Int)) > 0)) rfl (fun h7 => ?_) (fun h7 => ?_)
   ·have p7 := h7; try simp only [bs] at p7
    have hk0 : 0 < k := by omega
    have hout : out.length ≤ k0 := by have h := congrArg List.length hinv.1; rw [List.length_append] at h; have := dg_len k0; omega
    refine Run.skip ?_
    refine Run.block ?_
    refine Run.sr ?_
    refine Run.p (.int .i64 (((k : Nat) : Int))) rfl rfl ?_
    refine Run.y (.int .i64 ((((k : Nat) : Int)) % 10)) rfl (OpY.rem rfl rfl (by omega) (by omega)) ?_
    refine Run.y (.int .i64 (48 + ((((k : Nat) : Int)) % 10))) rfl (OpY.add rfl rfl rfl (by omega) (by omega)) ?_
    refine Run.y (.int .u8 (48 + ((k % 10 : Nat) : Int))) rfl (OpY.convIntEq Tsome_3 Tint_5 rfl (by rw [wrapU8 (by omega) (by omega)]; omega)) ?_
    refine Run.step rfl (OpStep.buildSlice (us := [.int .u8 (48 + ((k % 10 : Nat) : Int))]) Tsl_30 (by decide) (by decide) ⟨rfl, [.int .u8 (48 + ((k % 10 : Nat) : Int))], _, rfl, rfl, rfl, rfl⟩ rfl fun b1 => ?_)
    refine Run.y (sv ([chr (48 + ((k % 10 : Nat) : Int))])) rfl (OpY.bytesS (xs := [48 + ((k % 10 : Nat) : Int)]) Tbytes_30 Tstr_9 rfl rfl (Cells.own0 (.head _) ⟨rfl, trivial⟩)) ?_
    refine Run.p (sv out) rfl rfl ?_
    refine Run.y (sv ([chr (48 + ((k % 10 : Nat) : Int))] ++ out)) rfl (OpY.addS rfl rfl (by simp only [List.length_append, List.length_cons, List.length_nil]; omega)) ?_
    refine Run.p (sv ([chr (48 + ((k % 10 : Nat) : Int))] ++ out)) rfl rfl ?_
    refine Run.dr ?_
    refine Run.p (.int .i64 (((k : Nat) : Int))) rfl rfl ?_
    refine Run.y (.int .i64 (((k / 10 : Nat) : Int))) rfl (OpY.quoN rfl rfl (by omega)) ?_
    refine Run.p (.int .i64 (((k / 10 : Nat) : Int))) rfl rfl ?_
    refine Run.done ?_
    refine Run.blockEnd ?_
    refine Run.goal ⟨(by repeat (first | exact Same.refl _ _ | refine Same.put rfl ?_ | refine Same.over rfl rfl ?_)), (k / 10, [chr (48 + ((k % 10 : Nat) : Int))] ++ out), ?_, ?_, ?_, ?_⟩
    ·refine ⟨?_, by omega⟩
     have h := hinv.1
     rw [dg_pos hk0, List.append_assoc] at h; exact h
    ·show k / 10 < k; omega
    ·exact ⟨(by first | rfl | (congr 1; omega) | simp), (by first | rfl | (congr 1; omega) | simp), trivial⟩
    ·exact (Some'.weak (.nil _))
   ·have p7 := h7; try simp only [bs] at p7
    have hkz : k = 0 := by omega
    subst hkz
    have hout : out = dg k0 := by have h := hinv.1; rw [dg_zero, List.nil_append] at h; exact h
    have hol : out.length ≤ k0 := by rw [hout]; exact dg_len k0
    refine Run.exit rfl ?_
    refine Run.sr ?_
    refine Run.p (sv out) rfl rfl ?_
    refine Run.y (sv (([109]) ++ out)) rfl (OpY.addS rfl rfl (by simp only [List.length_append, List.length_cons, List.length_nil]; omega)) ?_
    refine Run.p (sv (([109]) ++ out)) rfl rfl ?_
    refine Run.done ?_
    refine Run.ret ?_
    refine ⟨sv (([109]) ++ out), [], Out.one rfl rfl, (Some'.weak (.nil _)), ?_⟩
    show _ = _; rw [hout]; rfl

set_option maxHeartbeats 1000000 in
set_option maxRecDepth 20000 in
theorem markStringS_spec {va : Value} {n k0 : Nat} {L : List Bs} {w : World} (ha : (Res.own va 9 1 n (strs L)).holds w) (h0 : 0 < k0) (hk : k0 + n ≤ 4611686018427387904) : Calls Tryz.prog 26 #[va, .int .i64 ((k0 : Nat) : Int)] w (Post (Of [.own va 9 1 n (strs L)]) w fun v H => v = .int .i64 ((k0 + n : Nat) : Int) ∧ H = [.own va 9 1 n (strs (mtL k0 n))]) := by
 have hxl : L.length = n := by simpa using ha.1
 have hsl := (St.start1 ha).slOwn (.head _)
 have hn := hsl.le
 obtain ⟨A, c0, rfl, _, _⟩ := hsl.form0
 refine enter (n := 20) (args := [.slice A n c0, .int .i64 (((k0 : Nat) : Int))]) Tryz.func26 rfl rfl (St.start1 ha) ?_
 refine Run.sr ?_
 refine Run.p (.int .i64 0) rfl rfl ?_
 refine Run.done ?_
 refine Run.seq ?_
 refine Run.sr ?_
 refine Run.p (.int .i64 0) rfl rfl ?_
 refine Run.done ?_
 refine Run.block ?_
 refine Run.loop (ι := Nat) [1, 5, 6, 7, 8, 9, 10, 11, 12, 13, 14, 15, 16, 17, 18] (fun i => [(1, .int .i64 (((k0 + i : Nat) : Int))), (5, .int .i64 (((i : Nat) : Int)))]) (fun i => [.own (.slice A n c0) 9 1 n (strs (mtL k0 i ++ L.drop i))]) (fun i => i ≤ n) (fun i => n - i) 0 ?_ ?_ ?_ ?_
 ·exact Nat.zero_le _
 ·exact ⟨rfl, rfl, trivial⟩
 ·exact (Some'.weak (.takeEq (by simp [mtL]) (.nil _)))
 ·rintro i fr hinv
  show Run _ _ (over _ _ [(1, .int .i64 (((k0 + i : Nat) : Int))), (5, .int .i64 (((i : Nat) : Int)))] fr) [.own (.slice A n c0) 9 1 n (strs (mtL k0 i ++ L.drop i))]
  try dsimp only at hinv
  refine Run.seq ?_
  refine Run.sr ?_
  refine Run.p (.int .i64 (((i : Nat) : Int))) rfl rfl ?_
  refine Run.p (.slice A n c0) rfl rfl ?_
  refine Run.y (.int .i64 (((n : Nat) : Int))) rfl (OpY.len Tsl_40 rfl) ?_
  refine Run.p (.bool (decide ((((i : Nat) : Int)) < (((n : Nat) : Int))))) rfl rfl ?_
  refine Run.done ?_
  refine Run.cond (b := decide ((((i : Nat) : Int)) < (((n : Nat) : Int)))) rfl (fun h9 => ?_) (fun h9 => ?_)
  ·have p9 := h9; try simp only [bs] at p9
   have hlt : i < n := by omega
   refine Run.openOwn (.head _) (by omega) (fun g c hvg hcapg _ => ?_) (fun _ _ _ => ⟨nofun, nofun, nofun⟩)
   injection hvg with hAg _ hcg; subst hAg; subst hcg
   refine Run.skip ?_
   refine Run.seq ?_
   refine Run.block ?_
   refine Run.sr ?_
   refine Run.p (.slice (some ⟨g, 0, none⟩) n c0) rfl rfl ?_
   refine Run.p (.int .i64 (((i : Nat) : Int))) rfl rfl ?_
   refine Run.p (.int .i64 (((k0 + i : Nat) : Int))) rfl rfl ?_
   refine Run.q (v := sv (mt (k0 + i))) rfl (OpQ.call (vs := [.int .i64 (((k0 + i : Nat) : Int))]) (caps := []) Tcall_47 rfl rfl (fun w hs => markText_spec (k0 := k0 + i) (by omega) (by omega) w)) ?_
   refine Run.y (.pointer (some ⟨g, i, none⟩)) rfl (OpY.index (kk := i) Tsl_40 rfl rfl (by omega) (by omega) (by first | rfl | omega)) ?_
   refine Run.step rfl (OpStep.storeOwnS (o := i) (a := mt (k0 + i)) Tsize_9 rfl rfl (.here _) (by omega) ?_)
   refine Run.dr ?_
   refine Run.p (.int .i64 (((k0 + i : Nat) : Int))) rfl rfl ?_
   refine Run.y (.int .i64 ((((k0 + i : Nat) : Int)) + 1)) rfl (OpY.add rfl rfl rfl (by omega) (by omega)) ?_
   refine Run.p (.int .i64 ((((k0 + i : Nat) : Int)) + 1)) rfl rfl ?_
   refine Run.done ?_
   refine Run.blockEnd ?_
   refine Run.region ?_
   refine Run.p (.int .i64 (((i : Nat) : Int))) rfl rfl ?_
   refine Run.y (.int .i64 ((((i : Nat) : Int)) + 1)) rfl (OpY.add rfl rfl rfl (by omega) (by omega)) ?_
   refine Run.p (.int .i64 ((((i : Nat) : Int)) + 1)) rfl rfl ?_
   refine Run.done ?_
   refine Run.goal ⟨(by repeat (first | exact Same.refl _ _ | refine Same.put rfl ?_ | refine Same.over rfl rfl ?_)), i + 1, ?_, ?_, ?_, ?_⟩
   ·omega
   ·omega
   ·exact ⟨(by first | rfl | (congr 1; omega) | simp), (by first | rfl | (congr 1; omega) | simp), trivial⟩
   ·exact (Some'.weak (.takeEq (congrArg (fun z => Res.own _ _ _ _ z) (set_strs (by omega))) (.nil _)))
  ·have p9 := h9; try simp only [bs] at p9
   have hkn : i = n := by omega
   have hdr : mtL k0 i ++ L.drop i = mtL k0 n := by rw [hkn, List.drop_eq_nil_iff.2 (by omega), List.append_nil]
   refine Run.exit rfl ?_
   refine Run.sr ?_
   refine Run.p (.int .i64 (((k0 + i : Nat) : Int))) rfl rfl ?_
   refine Run.p (.int .i64 (((k0 + i : Nat) : Int))) rfl rfl ?_
   refine Run.done ?_
   refine Run.ret ?_
   refine ⟨.int .i64 (((k0 + i : Nat) : Int)), [.own (.slice A n c0) 9 1 n (strs (mtL k0 n))], Out.one rfl rfl, (Some'.weak (.takeEq (by rw [hdr]) (.nil _))), ?_⟩
   exact ⟨by rw [hkn], rfl⟩

set_option maxHeartbeats 1000000 in
set_option maxRecDepth 20000 in
theorem heldStringS_true {va : Value} {n k0 : Nat} {w : World} (ha : Sl w va 1 n (strs (mtL k0 n))) (h0 : 0 < k0) (hk : k0 + n ≤ 4611686018427387904) : Calls Tryz.prog 27 #[va, .int .i64 ((k0 : Nat) : Int)] w (Post No w fun v _ => v = .int .i64 ((k0 + n : Nat) : Int)) := by
 have hn := ha.le
 obtain ⟨A, c, rfl, _, _⟩ := ha.form0
 refine enter (n := 22) (args := [.slice A n c, .int .i64 (((k0 : Nat) : Int))]) Tryz.func27 rfl rfl (St.empty _ _) ?_
 refine Run.sr ?_
 refine Run.p (.int .i64 0) rfl rfl ?_
 refine Run.done ?_
 refine Run.seq ?_
 refine Run.sr ?_
 refine Run.p (.int .i64 0) rfl rfl ?_
 refine Run.done ?_
 refine Run.block ?_
 refine Run.loop (ι := Nat) [1, 4, 5, 6, 7, 8, 9, 10, 11, 12, 13, 14, 15, 16, 17, 18, 19, 20] (fun i => [(1, .int .i64 (((k0 + i : Nat) : Int))), (5, .int .i64 (((i : Nat) : Int)))]) (fun i => []) (fun i => i ≤ n) (fun i => n - i) 0 ?_ ?_ ?_ ?_
 ·exact Nat.zero_le _
 ·exact ⟨rfl, rfl, trivial⟩
 ·exact (Some'.weak (.nil _))
 ·rintro i fr hinv
  show Run _ _ (over _ _ [(1, .int .i64 (((k0 + i : Nat) : Int))), (5, .int .i64 (((i : Nat) : Int)))] fr) []
  try dsimp only at hinv
  refine Run.seq ?_
  refine Run.sr ?_
  refine Run.p (.int .i64 (((i : Nat) : Int))) rfl rfl ?_
  refine Run.p (.slice A n c) rfl rfl ?_
  refine Run.y (.int .i64 (((n : Nat) : Int))) rfl (OpY.len Tsl_40 rfl) ?_
  refine Run.p (.bool (decide ((((i : Nat) : Int)) < (((n : Nat) : Int))))) rfl rfl ?_
  refine Run.done ?_
  refine Run.cond (b := decide ((((i : Nat) : Int)) < (((n : Nat) : Int)))) rfl (fun h9 => ?_) (fun h9 => ?_)
  ·have p9 := h9; try simp only [bs] at p9
   have hlt : i < n := by omega
   obtain ⟨b, o, rfl⟩ := ha.opn (by omega)
   refine Run.skip ?_
   refine Run.seq ?_
   refine Run.block ?_
   refine Run.seq ?_
   refine Run.seq ?_
   refine Run.draws (by kernel_rfl) (by kernel_rfl) ?_
   refine Lex.q (v := .slice (some ⟨b, o, none⟩) n c) rfl (OpQ.y (OpY.pure rfl)) ?_
   refine Lex.q (v := .int .i64 (((i : Nat) : Int))) rfl (OpQ.y (OpY.pure rfl)) ?_
   refine Lex.q (v := .pointer (some ⟨b, o + i, none⟩)) rfl (OpQ.y (OpY.index (kk := i) Tsl_40 rfl rfl (by omega) (by omega) (by first | rfl | omega))) ?_
   refine Lex.q (v := sv (stx ((mtL k0 n)) i)) rfl (OpQ.y (OpY.load1 Tone_9 rfl (Cells.arg (k := i) ha rfl (by omega) (preS (by first | omega | (simp; omega)))))) ?_
   refine Lex.q (v := .int .i64 (((k0 + i : Nat) : Int))) rfl (OpQ.y (OpY.pure rfl)) ?_
   refine Lex.q (v := sv (mt (k0 + i))) rfl (OpQ.call (vs := [.int .i64 (((k0 + i : Nat) : Int))]) (caps := []) Tcall_47 rfl rfl (fun w hs => markText_spec (k0 := k0 + i) (by omega) (by omega) w)) ?_
   refine Lex.q (v := .bool ((stx ((mtL k0 n)) i) != (mt (k0 + i)))) rfl (OpQ.y (OpY.neS rfl rfl)) ?_
   refine Lex.done ?_
   refine Run.cond (b := (stx ((mtL k0 n)) i) != (mt (k0 + i))) rfl (fun h18 => ?_) (fun h18 => ?_)
   ·exact absurd h18 (by rw [stx_mtL hlt]; simp) --DONE
   ·have p18 := h18; try simp only [bs] at p18
    refine Run.skip ?_
    refine Run.region ?_
    refine Run.p (.int .i64 (((k0 + i : Nat) : Int))) rfl rfl ?_
    refine Run.y (.int .i64 ((((k0 + i : Nat) : Int)) + 1)) rfl (OpY.add rfl rfl rfl (by omega) (by omega)) ?_
    refine Run.p (.int .i64 ((((k0 + i : Nat) : Int)) + 1)) rfl rfl ?_
    refine Run.done ?_
    refine Run.blockEnd ?_
    refine Run.region ?_
    refine Run.p (.int .i64 (((i : Nat) : Int))) rfl rfl ?_
    refine Run.y (.int .i64 ((((i : Nat) : Int)) + 1)) rfl (OpY.add rfl rfl rfl (by omega) (by omega)) ?_
    refine Run.p (.int .i64 ((((i : Nat) : Int)) + 1)) rfl rfl ?_
    refine Run.done ?_
    refine Run.goal ⟨(by repeat (first | exact Same.refl _ _ | refine Same.put rfl ?_ | refine Same.over rfl rfl ?_)), i + 1, ?_, ?_, ?_, ?_⟩
    ·omega
    ·omega
    ·exact ⟨(by first | rfl | (congr 1; omega) | simp), (by first | rfl | (congr 1; omega) | simp), trivial⟩
    ·exact (Some'.weak (.nil _))
  ·have p9 := h9; try simp only [bs] at p9
   have hkn : i = n := by omega
   refine Run.exit rfl ?_
   refine Run.sr ?_
   refine Run.p (.int .i64 (((k0 + i : Nat) : Int))) rfl rfl ?_
   refine Run.p (.int .i64 (((k0 + i : Nat) : Int))) rfl rfl ?_
   refine Run.done ?_
   refine Run.ret ?_
   refine ⟨.int .i64 (((k0 + i : Nat) : Int)), [], Out.one rfl rfl, (Some'.weak (.nil _)), ?_⟩
   show _ = _; rw [hkn]

set_option maxHeartbeats 1000000 in
set_option maxRecDepth 20000 in
theorem eqStringS_one {va vb : Value} {n : Nat} {L : List Bs} {w : World} (ha : Sl w va 1 n (strs L)) (hb : Sl w vb 1 n (strs L)) : Calls Tryz.prog 25 #[va, vb] w (Post No w fun v _ => v = .bool true) := by
 have hn := ha.le
 have hxl : L.length = n := by have h := ha.1; simpa using h
 obtain ⟨A, c, rfl, _, _⟩ := ha.form0
 obtain ⟨B, d, rfl, _, _⟩ := hb.form0
 refine enter (n := 26) (args := [.slice A n c, .slice B n d]) Tryz.func25 rfl rfl (St.empty _ _) ?_
 refine Run.sr ?_
 refine Run.p (.bool false) rfl rfl ?_
 refine Run.done ?_
 refine Run.seq ?_
 refine Run.sr ?_
 refine Run.p (.slice A n c) rfl rfl ?_
 refine Run.y (.int .i64 (((n : Nat) : Int))) rfl (OpY.len Tsl_40 rfl) ?_
 refine Run.p (.slice B n d) rfl rfl ?_
 refine Run.y (.int .i64 (((n : Nat) : Int))) rfl (OpY.len Tsl_40 rfl) ?_
 refine Run.y (.bool false) rfl (OpY.neqSame rfl rfl rfl) ?_
 refine Run.done ?_
 refine Run.cond (b := false) rfl (fun h => nomatch h) (fun _ => ?_)
 refine Run.skip ?_
 refine Run.seq ?_
 refine Run.sr ?_
 refine Run.p (.int .i64 0) rfl rfl ?_
 refine Run.done ?_
 refine Run.block ?_
 refine Run.loop (ι := Nat) [4, 5, 11, 12, 13, 14, 15, 16, 17, 18, 19, 20, 21, 22, 23, 24, 25] (fun i => [(5, .int .i64 (((i : Nat) : Int)))]) (fun i => []) (fun i => i ≤ n) (fun i => n - i) 0 ?_ ?_ ?_ ?_
 ·exact Nat.zero_le _
 ·exact ⟨rfl, trivial⟩
 ·exact (Some'.weak (.nil _))
 ·rintro i fr hinv
  show Run _ _ (over _ _ [(5, .int .i64 (((i : Nat) : Int)))] fr) []
  try dsimp only at hinv
  refine Run.seq ?_
  refine Run.sr ?_
  refine Run.p (.int .i64 (((i : Nat) : Int))) rfl rfl ?_
  refine Run.p (.slice A n c) rfl rfl ?_
  refine Run.y (.int .i64 (((n : Nat) : Int))) rfl (OpY.len Tsl_40 rfl) ?_
  refine Run.p (.bool (decide ((((i : Nat) : Int)) < (((n : Nat) : Int))))) rfl rfl ?_
  refine Run.done ?_
  refine Run.cond (b := decide ((((i : Nat) : Int)) < (((n : Nat) : Int)))) rfl (fun h14 => ?_) (fun h14 => ?_)
  ·have p14 := h14; try simp only [bs] at p14
   have hlt : i < n := by omega
   obtain ⟨b, o, rfl⟩ := ha.opn (by omega)
   obtain ⟨b2, o2, rfl⟩ := hb.opn (by omega)
   refine Run.skip ?_
   refine Run.seq ?_
   refine Run.block ?_
   refine Run.seq ?_
   refine Run.draws (by kernel_rfl) (by kernel_rfl) ?_
   refine Lex.q (v := .slice (some ⟨b, o, none⟩) n c) rfl (OpQ.y (OpY.pure rfl)) ?_
   refine Lex.q (v := .int .i64 (((i : Nat) : Int))) rfl (OpQ.y (OpY.pure rfl)) ?_
   refine Lex.q (v := .pointer (some ⟨b, o + i, none⟩)) rfl (OpQ.y (OpY.index (kk := i) Tsl_40 rfl rfl (by omega) (by omega) (by first | rfl | omega))) ?_
   refine Lex.q (v := sv (stx L i)) rfl (OpQ.y (OpY.load1 Tone_9 rfl (Cells.arg (k := i) ha rfl (by omega) (preS (by omega))))) ?_
   refine Lex.q (v := .slice (some ⟨b2, o2, none⟩) n d) rfl (OpQ.y (OpY.pure rfl)) ?_
   refine Lex.q (v := .int .i64 (((i : Nat) : Int))) rfl (OpQ.y (OpY.pure rfl)) ?_
   refine Lex.q (v := .pointer (some ⟨b2, o2 + i, none⟩)) rfl (OpQ.y (OpY.index (kk := i) Tsl_40 rfl rfl (by omega) (by omega) (by first | rfl | omega))) ?_
   refine Lex.q (v := sv (stx L i)) rfl (OpQ.y (OpY.load1 Tone_9 rfl (Cells.arg (k := i) hb rfl (by omega) (preS (by omega))))) ?_
   refine Lex.q (v := .bool ((stx L i) != (stx L i))) rfl (OpQ.y (OpY.neS rfl rfl)) ?_
   refine Lex.done ?_
   refine Run.cond (b := (stx L i) != (stx L i)) rfl (fun h25 => ?_) (fun h25 => ?_)
   ·exact absurd h25 (by simp) --DONE
   ·have p25 := h25; try simp only [bs] at p25
    refine Run.skip ?_
    refine Run.blockEnd ?_
    refine Run.region ?_
    refine Run.p (.int .i64 (((i : Nat) : Int))) rfl rfl ?_
    refine Run.y (.int .i64 ((((i : Nat) : Int)) + 1)) rfl (OpY.add rfl rfl rfl (by omega) (by omega)) ?_
    refine Run.p (.int .i64 ((((i : Nat) : Int)) + 1)) rfl rfl ?_
    refine Run.done ?_
    refine Run.goal ⟨(by repeat (first | exact Same.refl _ _ | refine Same.put rfl ?_ | refine Same.over rfl rfl ?_)), i + 1, ?_, ?_, ?_, ?_⟩
    ·omega
    ·omega
    ·exact ⟨(by first | rfl | (congr 1; omega) | simp), trivial⟩
    ·exact (Some'.weak (.nil _))
  ·have p14 := h14; try simp only [bs] at p14
   refine Run.exit rfl ?_
   refine Run.sr ?_
   refine Run.p (.bool true) rfl rfl ?_
   refine Run.done ?_
   refine Run.ret ?_
   refine ⟨.bool true, [], Out.one rfl rfl, (Some'.weak (.nil _)), ?_⟩
   rfl


theorem eqStringS_true {va vb : Value} {n m : Nat} {L M : List Bs} {w : World} (ha : Sl w va 1 n (strs L)) (hb : Sl w vb 1 m (strs M)) (he : L = M) : Calls Tryz.prog 25 #[va, vb] w (Post No w fun v _ => v = .bool true) := by
  subst he
  have e : n = m := by
    have h1 := ha.1; have h2 := hb.1
    simp at h1 h2; omega
  subst e
  exact eqStringS_one ha hb

end Go.Proofs.YtgpkpopbajkklaaGreatDoor
/- The walk of the law FnExactDefinedNames. -/
set_option linter.unusedSimpArgs false
set_option linter.unusedVariables false
namespace Go.Proofs.YtgpkpopbajkklaaGreatDoor
open Go Go.RowKit
namespace L56T
theorem Tbool_4 : Tryz.prog.underlying 4 = some .bool := by kernel_rfl
theorem Tcall_23 : callable Tryz.prog 23 = true := by kernel_rfl
theorem Tcall_24 : callable Tryz.prog 24 = true := by kernel_rfl
theorem Tcall_25 : callable Tryz.prog 25 = true := by kernel_rfl
theorem Tcall_26 : callable Tryz.prog 26 = true := by kernel_rfl
theorem Tcall_27 : callable Tryz.prog 27 = true := by kernel_rfl
theorem Tstr_9 : strT Tryz.prog 9 = true := by kernel_rfl
end L56T
open L56T
set_option maxHeartbeats 1000000 in
set_option maxRecDepth 20000 in
theorem law_spec {s : Bs} {w : World} (hg : Gl w) (sl : s.length ≤ 9223372036854775807) : Calls Tryz.prog 6 #[sv s] w (Post No w fun v _ => v = .bool true) := by
 have hlen : ((rt s).2.2.2.map Df.nm).length ≤ 16777216 := by rw [List.length_map]; exact rt_defs s
 refine enter (n := 66) (args := [sv s]) Tryz.func6 rfl rfl (St.empty _ _) ?_
 refine Run.sr ?_
 refine Run.p (.bool false) rfl rfl ?_
 refine Run.done ?_
 refine Run.seq ?_
 refine Run.sr ?_
 refine Run.p (sv s) rfl rfl ?_
 refine Run.y (.int .i64 (((s.length : Nat) : Int))) rfl (OpY.lenS Tstr_9 rfl) ?_
 refine Run.p (.bool (decide ((((s.length : Nat) : Int)) > 1048576))) rfl rfl ?_
 refine Run.done ?_
 refine Run.cond (b := decide ((((s.length : Nat) : Int)) > 1048576)) rfl (fun h13 => ?_) (fun h13 => ?_)
 ·have p13 := h13; try simp only [bs] at p13
  refine Run.sr ?_
  refine Run.p (.bool true) rfl rfl ?_
  refine Run.done ?_
  refine Run.ret ?_
  refine ⟨.bool true, [], Out.one rfl rfl, (Some'.weak (.nil _)), ?_⟩
  rfl
 ·have p13 := h13; try simp only [bs] at p13
  refine Run.skip ?_
  refine Run.sr ?_
  refine Run.p (sv s) rfl rfl ?_
  refine Run.step rfl (OpStep.call (vs := [sv s]) (caps := []) Tcall_23 rfl rfl (fun w hs => sDefinedNames_spec) ?_)
  rintro _ _ ⟨u1, rfl, rfl⟩
  show Run _ _ (putF _ _ _ (.tuple #[u1, .bool (decide ((rt s).1.1 = 0))])) [.own u1 9 1 (((rt s).2.2.2.map Df.nm).length) (strs ((rt s).2.2.2.map Df.nm))]
  refine Run.p (.tuple #[u1, .bool (decide ((rt s).1.1 = 0))]) rfl rfl ?_
  refine Run.p (u1) rfl rfl ?_
  refine Run.p (.bool (decide ((rt s).1.1 = 0))) rfl rfl ?_
  refine Run.p (u1) rfl rfl ?_
  refine Run.p (.bool (decide ((rt s).1.1 = 0))) rfl rfl ?_
  refine Run.dsr ?_
  refine Run.p (sv s) rfl rfl ?_
  refine Run.step rfl (OpStep.call (vs := [sv s]) (caps := []) Tcall_24 rfl rfl (fun w hs => DefinedNames_spec (hg.go hs) sl) ?_)
  rintro _ _ ⟨u2, rfl, rfl⟩
  show Run _ _ (putF _ _ _ (.tuple #[u2, .bool (decide ((rt s).1.1 = 0))])) [.own u2 9 1 (((rt s).2.2.2.map Df.nm).length) (strs ((rt s).2.2.2.map Df.nm)), .own u1 9 1 (((rt s).2.2.2.map Df.nm).length) (strs ((rt s).2.2.2.map Df.nm))]
  refine Run.p (.tuple #[u2, .bool (decide ((rt s).1.1 = 0))]) rfl rfl ?_
  refine Run.p (u2) rfl rfl ?_
  refine Run.p (.bool (decide ((rt s).1.1 = 0))) rfl rfl ?_
  refine Run.p (u2) rfl rfl ?_
  refine Run.p (.bool (decide ((rt s).1.1 = 0))) rfl rfl ?_
  refine Run.done ?_
  refine Run.seq ?_
  refine Run.sr ?_
  refine Run.p (u2) rfl rfl ?_
  refine Run.p (u1) rfl rfl ?_
  refine Run.q (v := .bool true) rfl (OpQ.call (vs := [u2, u1]) (caps := []) Tcall_25 rfl rfl (fun w hs => eqStringS_true (hs.slOwn (.head _)) (hs.slOwn (.tail _ (List.Mem.head _))) rfl)) ?_
  refine Run.p (.bool false) rfl rfl ?_
  refine Run.p (.bool false) rfl rfl ?_
  refine Run.p (.bool (decide ((rt s).1.1 = 0))) rfl rfl ?_
  refine Run.p (.bool (decide ((rt s).1.1 = 0))) rfl rfl ?_
  refine Run.y (.bool false) rfl (OpY.neqBSame Tbool_4 rfl rfl rfl) ?_
  refine Run.p (.bool false) rfl rfl ?_
  refine Run.done ?_
  refine Run.cond (b := false) rfl (fun h => nomatch h) (fun _ => ?_)
  refine Run.skip ?_
  refine Run.sr ?_
  refine Run.p (.int .i64 1) rfl rfl ?_
  refine Run.dsr ?_
  refine Run.p (u2) rfl rfl ?_
  refine Run.p (.int .i64 1) rfl rfl ?_
  refine Run.step rfl (OpStep.callM (H1 := [.own u2 9 1 (((rt s).2.2.2.map Df.nm).length) (strs ((rt s).2.2.2.map Df.nm))]) (H2 := [.own u1 9 1 (((rt s).2.2.2.map Df.nm).length) (strs ((rt s).2.2.2.map Df.nm))]) (vs := [u2, .int .i64 1]) (caps := []) Tcall_26 rfl rfl (Weak.refl _) (fun w hs => markStringS_spec (k0 := 1) (hs.holds _ (.head _)) (by omega) (by omega)) ?_)
  rintro _ _ ⟨rfl, rfl⟩
  show Run _ _ (putF _ _ _ (.int .i64 (((1 + ((rt s).2.2.2.map Df.nm).length : Nat) : Int)))) [.own u2 9 1 (((rt s).2.2.2.map Df.nm).length) (strs (mtL 1 (((rt s).2.2.2.map Df.nm).length))), .own u1 9 1 (((rt s).2.2.2.map Df.nm).length) (strs ((rt s).2.2.2.map Df.nm))]
  refine Run.p (.int .i64 (((1 + ((rt s).2.2.2.map Df.nm).length : Nat) : Int))) rfl rfl ?_
  refine Run.dsr ?_
  refine Run.p (.int .i64 1) rfl rfl ?_
  refine Run.dsr ?_
  refine Run.p (u2) rfl rfl ?_
  refine Run.p (.int .i64 1) rfl rfl ?_
  refine Run.q (v := .int .i64 (((1 + ((rt s).2.2.2.map Df.nm).length : Nat) : Int))) rfl (OpQ.call (vs := [u2, .int .i64 1]) (caps := []) Tcall_27 rfl rfl (fun w hs => heldStringS_true (k0 := 1) (hs.slOwn (.head _)) (by omega) (by omega))) ?_
  refine Run.p (.int .i64 (((1 + ((rt s).2.2.2.map Df.nm).length : Nat) : Int))) rfl rfl ?_
  refine Run.done ?_
  refine Run.seq ?_
  refine Run.sr ?_
  refine Run.p (.int .i64 (((1 + ((rt s).2.2.2.map Df.nm).length : Nat) : Int))) rfl rfl ?_
  refine Run.p (.bool (decide ((((1 + ((rt s).2.2.2.map Df.nm).length : Nat) : Int)) < 0))) rfl rfl ?_
  refine Run.done ?_
  refine Run.cond (b := decide ((((1 + ((rt s).2.2.2.map Df.nm).length : Nat) : Int)) < 0)) rfl (fun h40 => ?_) (fun h40 => ?_)
  ·have p40 := h40; try simp only [bs] at p40
   exact absurd h40 (by simp <;> omega) --DONE
  ·have p40 := h40; try simp only [bs] at p40
   refine Run.skip ?_
   refine Run.seq ?_
   refine Run.sr ?_
   refine Run.p (.int .i64 (((1 + ((rt s).2.2.2.map Df.nm).length : Nat) : Int))) rfl rfl ?_
   refine Run.p (.int .i64 (((1 + ((rt s).2.2.2.map Df.nm).length : Nat) : Int))) rfl rfl ?_
   refine Run.y (.bool false) rfl (OpY.neqSame rfl rfl rfl) ?_
   refine Run.done ?_
   refine Run.cond (b := false) rfl (fun h => nomatch h) (fun _ => ?_)
   refine Run.skip ?_
   refine Run.sr ?_
   refine Run.p (sv s) rfl rfl ?_
   refine Run.step rfl (OpStep.call (vs := [sv s]) (caps := []) Tcall_24 rfl rfl (fun w hs => DefinedNames_spec (hg.go hs) sl) ?_)
   rintro _ _ ⟨u3, rfl, rfl⟩
   show Run _ _ (putF _ _ _ (.tuple #[u3, .bool (decide ((rt s).1.1 = 0))])) [.own u3 9 1 (((rt s).2.2.2.map Df.nm).length) (strs ((rt s).2.2.2.map Df.nm)), .own u2 9 1 (((rt s).2.2.2.map Df.nm).length) (strs (mtL 1 (((rt s).2.2.2.map Df.nm).length))), .own u1 9 1 (((rt s).2.2.2.map Df.nm).length) (strs ((rt s).2.2.2.map Df.nm))]
   refine Run.p (.tuple #[u3, .bool (decide ((rt s).1.1 = 0))]) rfl rfl ?_
   refine Run.p (u3) rfl rfl ?_
   refine Run.p (.bool (decide ((rt s).1.1 = 0))) rfl rfl ?_
   refine Run.p (u3) rfl rfl ?_
   refine Run.p (.bool (decide ((rt s).1.1 = 0))) rfl rfl ?_
   refine Run.done ?_
   refine Run.seq ?_
   refine Run.sr ?_
   refine Run.p (u3) rfl rfl ?_
   refine Run.p (u1) rfl rfl ?_
   refine Run.q (v := .bool true) rfl (OpQ.call (vs := [u3, u1]) (caps := []) Tcall_25 rfl rfl (fun w hs => eqStringS_true (hs.slOwn (.head _)) (hs.slOwn (.tail _ (.tail _ (List.Mem.head _)))) rfl)) ?_
   refine Run.p (.bool false) rfl rfl ?_
   refine Run.p (.bool false) rfl rfl ?_
   refine Run.p (.bool (decide ((rt s).1.1 = 0))) rfl rfl ?_
   refine Run.p (.bool (decide ((rt s).1.1 = 0))) rfl rfl ?_
   refine Run.y (.bool false) rfl (OpY.neqBSame Tbool_4 rfl rfl rfl) ?_
   refine Run.p (.bool false) rfl rfl ?_
   refine Run.done ?_
   refine Run.cond (b := false) rfl (fun h => nomatch h) (fun _ => ?_)
   refine Run.skip ?_
   refine Run.sr ?_
   refine Run.p (.int .i64 1) rfl rfl ?_
   refine Run.dsr ?_
   refine Run.p (u2) rfl rfl ?_
   refine Run.p (.int .i64 1) rfl rfl ?_
   refine Run.q (v := .int .i64 (((1 + ((rt s).2.2.2.map Df.nm).length : Nat) : Int))) rfl (OpQ.call (vs := [u2, .int .i64 1]) (caps := []) Tcall_27 rfl rfl (fun w hs => heldStringS_true (k0 := 1) (hs.slOwn (.tail _ (List.Mem.head _))) (by omega) (by omega))) ?_
   refine Run.p (.int .i64 (((1 + ((rt s).2.2.2.map Df.nm).length : Nat) : Int))) rfl rfl ?_
   refine Run.done ?_
   refine Run.seq ?_
   refine Run.sr ?_
   refine Run.p (.int .i64 (((1 + ((rt s).2.2.2.map Df.nm).length : Nat) : Int))) rfl rfl ?_
   refine Run.p (.bool (decide ((((1 + ((rt s).2.2.2.map Df.nm).length : Nat) : Int)) < 0))) rfl rfl ?_
   refine Run.done ?_
   refine Run.cond (b := decide ((((1 + ((rt s).2.2.2.map Df.nm).length : Nat) : Int)) < 0)) rfl (fun h62 => ?_) (fun h62 => ?_)
   ·have p62 := h62; try simp only [bs] at p62
    exact absurd h62 (by simp <;> omega) --DONE
   ·have p62 := h62; try simp only [bs] at p62
    refine Run.skip ?_
    refine Run.seq ?_
    refine Run.sr ?_
    refine Run.p (.int .i64 (((1 + ((rt s).2.2.2.map Df.nm).length : Nat) : Int))) rfl rfl ?_
    refine Run.p (.int .i64 (((1 + ((rt s).2.2.2.map Df.nm).length : Nat) : Int))) rfl rfl ?_
    refine Run.y (.bool false) rfl (OpY.neqSame rfl rfl rfl) ?_
    refine Run.done ?_
    refine Run.cond (b := false) rfl (fun h => nomatch h) (fun _ => ?_)
    refine Run.skip ?_
    refine Run.sr ?_
    refine Run.p (.bool true) rfl rfl ?_
    refine Run.done ?_
    refine Run.ret ?_
    refine ⟨.bool true, [], Out.one rfl rfl, (Some'.weak (.nil _)), ?_⟩
    rfl

end Go.Proofs.YtgpkpopbajkklaaGreatDoor
