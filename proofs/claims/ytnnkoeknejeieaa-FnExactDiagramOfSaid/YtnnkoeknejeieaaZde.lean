/- Walks: wires join and go (the program); pending types. -/
import Derived.Test.YtnnkoeknejeieaaZdb
import Derived.Test.YtnnkoeknejeieaaZdc
import Derived.Test.YtnnkoeknejeieaaZdd
import Derived.Test.YtnnkoeknejeieaaProg
set_option linter.unusedSimpArgs false
set_option linter.unusedVariables false
namespace Go.Proofs.Ytnnkoeknejeieaa
open Go Go.RowKit
namespace ZdeT
theorem Tagg_29 : aggOf Try.prog 29 = some 5 := by kernel_rfl
theorem Tcall_59 : callable Try.prog 59 = true := by kernel_rfl
theorem Tcall_61 : callable Try.prog 61 = true := by kernel_rfl
theorem Tcall_75 : callable Try.prog 75 = true := by kernel_rfl
theorem Tfo_29_2 : fieldOff Try.prog 29 2 = some 2 := by kernel_rfl
theorem Tone_27 : oneOf Try.prog 27 = true := by kernel_rfl
theorem Tsize_27 : (Try.prog.info? 27).map (·.size) = some 1 := by kernel_rfl
theorem Tsl_27 : sliceOf Try.prog 27 = some (71, 3, 24, [.int .i64 0, .int .i64 0, .bool false]) := by kernel_rfl
end ZdeT
open ZdeT

theorem OpStep.storeOwnB {E : Env} {f : Fr} {H : List Res} {d : Option Tmp} {ty : TypeId} {pos : String} {after : Array Edge} {gd : Option (Nat × Bool)} {K : Fr → List Res → Prop} {t : TypeId} {x y : Operand} {g cap n m o : Nat} {e : TypeId} {size : Nat} {H' : List Res} {l : List Bool} {a : Bool} (ht : (E.P.info? t).map (·.size) = some 1) (hx : f.eval x = .pointer (some ⟨g, o, none⟩)) (hy : f.eval y = .bool a)
    (hH : Turn (.own (.slice (some ⟨g, 0, none⟩) m cap) e size n (bls l)) (.own (.slice (some ⟨g, 0, none⟩) m cap) e size n (bls (l.set o a))) H H') (hfit : o < n * size) (hk : K (putF E.n f d undef) H') :
    OpStep E ⟨d, .store t x y, ty, pos, after, gd⟩ f H K := by
  refine OpStep.storeOwn (us := [.bool a]) (cs := bls l) ht hx rfl (by rw [hy]; rfl) rfl (by rw [bls_set]; exact hH) (by simp only [List.length_cons, List.length_nil]; omega) hk
theorem OpStep.storeOwnP {E : Env} {f : Fr} {H : List Res} {d : Option Tmp} {ty : TypeId} {pos : String} {after : Array Edge} {gd : Option (Nat × Bool)} {K : Fr → List Res → Prop} {t : TypeId} {x y : Operand} {g cap n m : Nat} {e : TypeId} {size : Nat} {H' : List Res} {L : List N2} {k : Nat} {p : Int} (ht : (E.P.info? t).map (·.size) = some 1) (hx : f.eval x = .pointer (some ⟨g, k * 2 + 1, none⟩)) (hy : f.eval y = .int .i64 p)
    (hH : Turn (.own (.slice (some ⟨g, 0, none⟩) m cap) e size n (nds L)) (.own (.slice (some ⟨g, 0, none⟩) m cap) e size n (nds (L.set k ((ndx L k).1, p)))) H H') (hkl : k < L.length) (hfit : k * 2 + 1 < n * size) (hk : K (putF E.n f d undef) H') :
    OpStep E ⟨d, .store t x y, ty, pos, after, gd⟩ f H K := by
  refine OpStep.storeOwn (us := [.int .i64 p]) (cs := nds L) ht hx rfl (by rw [hy]; rfl) rfl (by rw [nds_set hkl]; exact hH) (by simp only [List.length_cons, List.length_nil]; omega) hk

set_option maxHeartbeats 1000000 in
set_option maxRecDepth 20000 in
theorem join_spec {hd : Bool} {r Q n : Nat} {t rt a b : Int} {vn vw vl vh : Value} {L : List W3} {w : World} (hLn : L.length = n) (hn4 : n ≤ 1000000) (hs0 : WSrt L) (hx0 : ∀ y ∈ L, ¬ (y.1 = ((min a b, max a b, hd) : W3).1 ∧ y.2.1 = ((min a b, max a b, hd) : W3).2.1)) (h : St (Of [.blk r 50 [.int .i64 (((Q : Nat) : Int)), vn, vw, .int .i64 t, .int .i64 rt, vl, vh], .own vw 71 3 n (wls L)]) w w [.blk r 50 [.int .i64 (((Q : Nat) : Int)), vn, vw, .int .i64 t, .int .i64 rt, vl, vh], .own vw 71 3 n (wls L)]) : Calls Try.prog 46 #[.pointer (some ⟨r, 0, none⟩), .int .i64 a, .int .i64 b, .bool hd] w (Post (Of [.blk r 50 [.int .i64 (((Q : Nat) : Int)), vn, vw, .int .i64 t, .int .i64 rt, vl, vh], .own vw 71 3 n (wls L)]) w fun v H => ∃ vw2, v = .tuple #[] ∧ H = [.blk r 50 [.int .i64 (((Q : Nat) : Int)), vn, vw2, .int .i64 t, .int .i64 rt, vl, vh], .own vw2 71 3 (n + 1) (wls (insW L ((min a b, max a b, hd) : W3)))]) := by
 refine enter (n := 30) (args := [.pointer (some ⟨r, 0, none⟩), .int .i64 a, .int .i64 b, .bool hd]) Try.func46 rfl rfl (h) ?_
 refine .sr ?_
 iterate 2 refine .m ?_
 refine .u (.pointer (some ⟨r, 0, none⟩)) (.nilCheck rfl) ?_
 refine .fa Tfo_29_2 ?_
 refine .u vw (.load1 Tone_27 rfl (.b (.head _))) ?_
 iterate 2 refine .m ?_
 refine .u (.int .i64 (min a b)) (.min rfl rfl) ?_
 iterate 2 refine .m ?_
 refine .u (.int .i64 (max a b)) (.max rfl rfl) ?_
 refine .m ?_
 refine .u (.agg #[.int .i64 (min a b), .int .i64 (max a b), .bool hd]) (.build (cs := [.int .i64 (min a b), .int .i64 (max a b), .bool hd]) (by kernel_rfl)) ?_
 refine .step rfl (.buildSlice (us := [.int .i64 (min a b), .int .i64 (max a b), .bool hd]) Tsl_27 (by decide) (by decide) ⟨rfl, [.int .i64 (min a b), .int .i64 (max a b), .bool hd], _, rfl, rfl, rfl, rfl⟩ rfl fun b1 => ?_)
 refine .step rfl (.append (H1 := [.own (.slice (some ⟨b1, 0, none⟩) 1 1) 71 3 1 ([.int .i64 (min a b), .int .i64 (max a b), .bool hd]), .blk r 50 [.int .i64 (((Q : Nat) : Int)), vn, vw, .int .i64 t, .int .i64 rt, vl, vh]]) (H2 := []) (v := vw) (u := .slice (some ⟨b1, 0, none⟩) 1 1) (n := n) (m := 1) (xs := wls L) (ys := [.int .i64 (min a b), .int .i64 (max a b), .bool hd]) Tsl_27 (by decide) rfl rfl rfl rfl (fun w hs => hs.slOwn (.head _)) (by simp [Value.oneCell']) (by omega) (by simp only [maxLen]; omega) fun av1 hnav1 => ?_)
 refine Run.weak (H' := [.own (.slice (some ⟨b1, 0, none⟩) 1 1) 71 3 1 ([.int .i64 (min a b), .int .i64 (max a b), .bool hd]), .blk r 50 [.int .i64 (((Q : Nat) : Int)), vn, vw, .int .i64 t, .int .i64 rt, vl, vh], .own av1 71 3 (n + 1) (wls (L ++ [((min a b, max a b, hd) : W3)]))]) (Some'.weak (.take (.take (.takeEq (by rw [wls_append, wls_one]) (.nil _))))) ?_ ⟨_, _, rfl, fun _ => nofun, fun _ => nofun⟩
 refine .u (.pointer (some ⟨r, 0, none⟩)) (.nilCheck rfl) ?_
 refine .fa Tfo_29_2 ?_
 refine Run.formOwn (.tail _ (.tail _ (.head _))) (fun A_av11 c_av11 hv hcapc_av11 hmaxc_av11 => ?_) (fun _ _ _ => ⟨nofun, nofun, nofun⟩)
 subst hv
 refine .step rfl (.store (us := [.slice A_av11 (n + 1) c_av11]) Tsize_27 rfl rfl rfl (.there _ (.here _)) (by simp only [List.length_cons, List.length_nil]; omega) ?_)
 show Run _ _ _ [.own (.slice (some ⟨b1, 0, none⟩) 1 1) 71 3 1 ([.int .i64 (min a b), .int .i64 (max a b), .bool hd]), .blk r 50 [.int .i64 (((Q : Nat) : Int)), vn, .slice A_av11 (n + 1) c_av11, .int .i64 t, .int .i64 rt, vl, vh], .own (.slice A_av11 (n + 1) c_av11) 71 3 (n + 1) (wls (L ++ [((min a b, max a b, hd) : W3)]))]
 refine .done ?_
 refine Run.openOwn (.tail _ (.tail _ (.head _))) (by omega) (fun g cw hvg hcapg _ => ?_) (fun _ _ _ => ⟨nofun, nofun, nofun⟩)
 injection hvg with hAg _ hcg; subst hAg; subst hcg
 refine .region ?_
 refine .m ?_
 refine .u (.pointer (some ⟨r, 0, none⟩)) (.nilCheck rfl) ?_
 refine .fa Tfo_29_2 ?_
 refine .u (.slice (some ⟨g, 0, none⟩) (n + 1) c_av11) (.load1 Tone_27 rfl (.b (.tail _ (.head _)))) ?_
 refine .step rfl (.callM (H1 := [.own (.slice (some ⟨g, 0, none⟩) (n + 1) c_av11) 71 3 (n + 1) (wls (L ++ [((min a b, max a b, hd) : W3)]))]) (H2 := [.own (.slice (some ⟨b1, 0, none⟩) 1 1) 71 3 1 ([.int .i64 (min a b), .int .i64 (max a b), .bool hd]), .blk r 50 [.int .i64 (((Q : Nat) : Int)), vn, .slice (some ⟨g, 0, none⟩) (n + 1) c_av11, .int .i64 t, .int .i64 rt, vl, vh]]) (vs := [.slice (some ⟨g, 0, none⟩) (n + 1) c_av11, .func (.func 62) #[] #[]]) (caps := []) Tcall_61 rfl rfl (Weak.selF [2]) (fun w hs => sortIns_k (by omega) (by omega) hs0 hx0 (hs.holds _ (.head _))) ?_)
 rintro _ _ ⟨rfl, rfl⟩
 show Run _ _ (putF _ _ _ (.tuple #[])) [.own (.slice (some ⟨g, 0, none⟩) (n + 1) c_av11) 71 3 (n + 1) (wls (insW L ((min a b, max a b, hd) : W3))), .own (.slice (some ⟨b1, 0, none⟩) 1 1) 71 3 1 ([.int .i64 (min a b), .int .i64 (max a b), .bool hd]), .blk r 50 [.int .i64 (((Q : Nat) : Int)), vn, .slice (some ⟨g, 0, none⟩) (n + 1) c_av11, .int .i64 t, .int .i64 rt, vl, vh]]
 refine .done ?_
 refine .fin ?_
 refine ⟨.tuple #[], [.blk r 50 [.int .i64 (((Q : Nat) : Int)), vn, .slice (some ⟨g, 0, none⟩) (n + 1) c_av11, .int .i64 t, .int .i64 rt, vl, vh], .own (.slice (some ⟨g, 0, none⟩) (n + 1) c_av11) 71 3 (n + 1) (wls (insW L ((min a b, max a b, hd) : W3)))], Out.none rfl, ((Weak.selF [2, 0]).trans (Some'.weak (.take (.take (.nil _))))), ?_⟩
 exact ⟨_, rfl, rfl⟩

theorem wireAt_is {Q t r a b i : Int} {vn va : Value} {n : Nat} {L : List W3} {w : World} (hf : fdW L a b = i) (ha : Sl w va 3 n (wls L)) : Calls Try.prog 59 #[.agg #[.int .i64 Q, vn, va, .int .i64 t, .int .i64 r], .int .i64 a, .int .i64 b] w (Post No w fun v _ => v = .int .i64 i) := by subst hf; exact wireAt_spec ha

set_option maxHeartbeats 1000000 in
set_option maxRecDepth 20000 in
theorem cut_spec {i : Nat} {r Q n : Nat} {t rt a b : Int} {vn vw vl vh : Value} {L : List W3} {w : World} (hLn : L.length = n) (hn4 : n ≤ 1000000) (hi : i < n) (hf : fdW L a b = (i : Nat)) (h : St (Of [.blk r 50 [.int .i64 (((Q : Nat) : Int)), vn, vw, .int .i64 t, .int .i64 rt, vl, vh], .own vw 71 3 n (wls L)]) w w [.blk r 50 [.int .i64 (((Q : Nat) : Int)), vn, vw, .int .i64 t, .int .i64 rt, vl, vh], .own vw 71 3 n (wls L)]) : Calls Try.prog 60 #[.pointer (some ⟨r, 0, none⟩), .int .i64 a, .int .i64 b] w (Post (Of [.blk r 50 [.int .i64 (((Q : Nat) : Int)), vn, vw, .int .i64 t, .int .i64 rt, vl, vh], .own vw 71 3 n (wls L)]) w fun v H => ∃ vw2, v = .tuple #[] ∧ H = [.blk r 50 [.int .i64 (((Q : Nat) : Int)), vn, vw2, .int .i64 t, .int .i64 rt, vl, vh], .own vw2 71 3 (n - 1) (wls (L.eraseIdx i))]) := by
 refine enter (n := 26) (args := [.pointer (some ⟨r, 0, none⟩), .int .i64 a, .int .i64 b]) Try.func60 rfl rfl (h) ?_
 refine .sr ?_
 refine .m ?_
 refine .u (.pointer (some ⟨r, 0, none⟩)) (.nilCheck rfl) ?_
 refine .u (.agg #[.int .i64 (((Q : Nat) : Int)), vn, vw, .int .i64 t, .int .i64 rt]) (.loadN (cs := [.int .i64 (((Q : Nat) : Int)), vn, vw, .int .i64 t, .int .i64 rt]) Tagg_29 rfl (Cells.blk (.head _) ⟨rfl, rfl, rfl, rfl, rfl, trivial⟩)) ?_
 iterate 2 refine .m ?_
 refine .c (.int .i64 (((i : Nat) : Int))) [.agg #[.int .i64 (((Q : Nat) : Int)), vn, vw, .int .i64 t, .int .i64 rt], .int .i64 a, .int .i64 b] Tcall_59 (fun w hs => wireAt_is hf (hs.slOwn (.tail _ (.head _)))) ?_
 refine .m ?_
 refine .dsr ?_
 refine .m ?_
 refine .w (.bool (decide ((((i : Nat) : Int)) ≥ 0))) ?_
 refine .done ?_
 refine .cond (b := decide ((((i : Nat) : Int)) ≥ 0)) rfl (fun h14 => ?_) (fun h14 => ?_)
 ·have p14 := h14; try simp only [bs] at p14
  refine Run.openOwn (.tail _ (.head _)) (by omega) (fun g cw hvg hcapg _ => ?_) (fun _ _ _ => ⟨nofun, nofun, nofun⟩)
  subst hvg
  refine .region ?_
  iterate 2 refine .m ?_
  refine .u (.pointer (some ⟨r, 0, none⟩)) (.nilCheck rfl) ?_
  refine .fa Tfo_29_2 ?_
  refine .u (.slice (some ⟨g, 0, none⟩) n cw) (.load1 Tone_27 rfl (.b (.head _))) ?_
  iterate 2 refine .m ?_
  refine .u (.int .i64 (((i + 1 : Nat) : Int))) (.add rfl rfl (by omega) (by omega) (by omega)) ?_
  refine .step rfl (.callM (H1 := [.own (.slice (some ⟨g, 0, none⟩) n cw) 71 3 n (wls L)]) (H2 := [.blk r 50 [.int .i64 (((Q : Nat) : Int)), vn, .slice (some ⟨g, 0, none⟩) n cw, .int .i64 t, .int .i64 rt, vl, vh]]) (vs := [.slice (some ⟨g, 0, none⟩) n cw, .int .i64 (((i : Nat) : Int)), .int .i64 (((i + 1 : Nat) : Int))]) (caps := []) Tcall_75 rfl rfl (Weak.selF [1]) (fun w hs => delete_k (by omega) (by omega) (hs.holds _ (.head _))) ?_)
  rintro _ _ ⟨rfl, rfl⟩
  show Run _ _ (putF _ _ _ (.slice (some ⟨g, 0, none⟩) (n - 1) cw)) [.own (.slice (some ⟨g, 0, none⟩) (n - 1) cw) 71 3 (n - 1) (wls (L.eraseIdx i)), .blk r 50 [.int .i64 (((Q : Nat) : Int)), vn, .slice (some ⟨g, 0, none⟩) n cw, .int .i64 t, .int .i64 rt, vl, vh]]
  refine .u (.pointer (some ⟨r, 0, none⟩)) (.nilCheck rfl) ?_
  refine .fa Tfo_29_2 ?_
  refine .step rfl (.store (us := [.slice (some ⟨g, 0, none⟩) (n - 1) cw]) Tsize_27 rfl rfl rfl (.there _ (.here _)) (by simp only [List.length_cons, List.length_nil]; omega) ?_)
  show Run _ _ _ [.own (.slice (some ⟨g, 0, none⟩) (n - 1) cw) 71 3 (n - 1) (wls (L.eraseIdx i)), .blk r 50 [.int .i64 (((Q : Nat) : Int)), vn, .slice (some ⟨g, 0, none⟩) (n - 1) cw, .int .i64 t, .int .i64 rt, vl, vh]]
  refine .done ?_
  refine .fin ?_
  refine ⟨.tuple #[], [.blk r 50 [.int .i64 (((Q : Nat) : Int)), vn, .slice (some ⟨g, 0, none⟩) (n - 1) cw, .int .i64 t, .int .i64 rt, vl, vh], .own (.slice (some ⟨g, 0, none⟩) (n - 1) cw) 71 3 (n - 1) (wls (L.eraseIdx i))], Out.none rfl, ((Weak.selF [1, 0]).trans (Some'.weak (.take (.take (.nil _))))), ?_⟩
  exact ⟨_, rfl, rfl⟩
 exact absurd h14 (by simp) --DONE

end Go.Proofs.Ytnnkoeknejeieaa
