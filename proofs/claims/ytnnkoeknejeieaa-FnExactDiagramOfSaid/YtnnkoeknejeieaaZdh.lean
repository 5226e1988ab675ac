/- Walks: the reference draws nodes, wires, gates. -/
import Derived.Test.YtnnkoeknejeieaaZdg
import Derived.Test.YtnnkoeknejeieaaProg
set_option linter.unusedSimpArgs false
set_option linter.unusedVariables false
namespace Go.Proofs.Ytnnkoeknejeieaa
open Go Go.RowKit
namespace ZdhT
theorem Tcall_33 : callable Try.prog 33 = true := by kernel_rfl
theorem Tcall_51 : callable Try.prog 51 = true := by kernel_rfl
theorem Tcall_52 : callable Try.prog 52 = true := by kernel_rfl
theorem Tcall_53 : callable Try.prog 53 = true := by kernel_rfl
theorem Tcall_54 : callable Try.prog 54 = true := by kernel_rfl
theorem Tcall_68 : callable Try.prog 68 = true := by kernel_rfl
theorem Tcall_69 : callable Try.prog 69 = true := by kernel_rfl
theorem Tcall_70 : callable Try.prog 70 = true := by kernel_rfl
theorem Tfo_29_1 : fieldOff Try.prog 29 1 = some 1 := by kernel_rfl
theorem Tfo_29_2 : fieldOff Try.prog 29 2 = some 2 := by kernel_rfl
theorem Tfo_29_3 : fieldOff Try.prog 29 3 = some 3 := by kernel_rfl
theorem Tfo_29_4 : fieldOff Try.prog 29 4 = some 4 := by kernel_rfl
theorem Tfo_52_0 : fieldOff Try.prog 52 0 = some 0 := by kernel_rfl
theorem Tfo_52_1 : fieldOff Try.prog 52 1 = some 1 := by kernel_rfl
theorem Tfo_54_0 : fieldOff Try.prog 54 0 = some 0 := by kernel_rfl
theorem Tfo_54_1 : fieldOff Try.prog 54 1 = some 1 := by kernel_rfl
theorem Tfo_54_2 : fieldOff Try.prog 54 2 = some 2 := by kernel_rfl
theorem Tfo_68_0 : fieldOff Try.prog 68 0 = some 0 := by kernel_rfl
theorem Tfo_68_1 : fieldOff Try.prog 68 1 = some 5 := by kernel_rfl
theorem Tfo_68_2 : fieldOff Try.prog 68 2 = some 6 := by kernel_rfl
theorem Tone_26 : oneOf Try.prog 26 = true := by kernel_rfl
theorem Tone_27 : oneOf Try.prog 27 = true := by kernel_rfl
theorem Tone_3 : oneOf Try.prog 3 = true := by kernel_rfl
theorem Tone_4 : oneOf Try.prog 4 = true := by kernel_rfl
theorem Tone_47 : oneOf Try.prog 47 = true := by kernel_rfl
theorem Tone_48 : oneOf Try.prog 48 = true := by kernel_rfl
theorem Tsize_26 : (Try.prog.info? 26).map (·.size) = some 1 := by kernel_rfl
theorem Tsize_27 : (Try.prog.info? 27).map (·.size) = some 1 := by kernel_rfl
theorem Tsize_3 : (Try.prog.info? 3).map (·.size) = some 1 := by kernel_rfl
theorem Tsize_4 : (Try.prog.info? 4).map (·.size) = some 1 := by kernel_rfl
theorem Tsl_26 : sliceOf Try.prog 26 = some (52, 2, 16, [.int .i64 0, .int .i64 0]) := by kernel_rfl
theorem Tsl_47 : sliceOf Try.prog 47 = some (4, 1, 1, [.bool false]) := by kernel_rfl
theorem Tsl_48 : sliceOf Try.prog 48 = some (3, 1, 8, [.int .i64 0]) := by kernel_rfl
end ZdhT
open ZdhT

theorem DgS.plc_la {S : DgS} {a b : Nat} (h : a ≠ b) : ix (S.plc b).la a = ix S.la a := by
  unfold DgS.plc
  split
  · simp only [DgS.app, ix, List.getD]
    rw [List.getElem?_set_ne (Ne.symm h)]
  · rfl
theorem l16Cut_is {j : Int} {va : Value} {n i : Nat} {L : List W3} {w : World} (hj : j = (i : Nat)) (ha : Sl w va 3 n (wls L)) (hn4 : n ≤ 1000000) (hi : i < n) : Calls Try.prog 70 #[va, .int .i64 j] w (Post No w fun v H => H = [.own v 71 3 (n - 1) (wls (L.eraseIdx i))]) := by
  subst hj; exact l16Cut_spec ha hn4 hi
theorem rot_pre {k : Int} (hk : 4 ≤ k ∧ k ≤ 8) : Pre [.int .i64 4, .int .i64 2, .int .i64 6, .int .i64 1, .int .i64 7] (k - 4).toNat [.int .i64 (DgS.rot k)] := by
  rcases (by omega : k = 4 ∨ k = 5 ∨ k = 6 ∨ k = 7 ∨ k = 8) with rfl | rfl | rfl | rfl | rfl <;> exact ⟨rfl, trivial⟩

set_option maxHeartbeats 1000000 in
set_option maxRecDepth 20000 in
theorem flipR_spec {r Q m : Nat} {t : Int} {vn vw vl vh : Value} {S : DgS} {w : World} (hok : S.Ok Q m) (hm : m ≤ 100000) {q : Nat} (hq : q < Q) (h : St (Of [.blk r 68 [.int .i64 (((Q : Nat) : Int)), vn, vw, .int .i64 t, .int .i64 (S.rt), vl, vh], .own vn 52 2 (S.ns.length) (nds S.ns), .own vw 71 3 (S.ws.length) (wls S.ws), .own vl 3 1 Q (ints S.la), .own vh 4 1 Q (bls S.ha)]) w w [.blk r 68 [.int .i64 (((Q : Nat) : Int)), vn, vw, .int .i64 t, .int .i64 (S.rt), vl, vh], .own vn 52 2 (S.ns.length) (nds S.ns), .own vw 71 3 (S.ws.length) (wls S.ws), .own vl 3 1 Q (ints S.la), .own vh 4 1 Q (bls S.ha)]) : Calls Try.prog 51 #[.pointer (some ⟨r, 0, none⟩), .int .i64 (q : Nat)] w (Post (Of [.blk r 68 [.int .i64 (((Q : Nat) : Int)), vn, vw, .int .i64 t, .int .i64 (S.rt), vl, vh], .own vn 52 2 (S.ns.length) (nds S.ns), .own vw 71 3 (S.ws.length) (wls S.ws), .own vl 3 1 Q (ints S.la), .own vh 4 1 Q (bls S.ha)]) w fun v H => ∃ vn2 vw2, v = .tuple #[] ∧ H = [.blk r 68 [.int .i64 (((Q : Nat) : Int)), vn2, vw2, .int .i64 t, .int .i64 ((S.flp q).rt), vl, vh], .own vn2 52 2 ((S.flp q).ns.length) (nds (S.flp q).ns), .own vw2 71 3 ((S.flp q).ws.length) (wls (S.flp q).ws), .own vl 3 1 Q (ints (S.flp q).la), .own vh 4 1 Q (bls (S.flp q).ha)]) := by
 have hla := hok.la
 have hha := hok.ha
 have hbn := hok.bn
 have hbw := hok.bw
 have hbr := hok.br
 have hrq := hok.rng q hq
 
 refine enter (n := 18) (args := [.pointer (some ⟨r, 0, none⟩), .int .i64 (((q : Nat) : Int))]) Try.func51 rfl rfl (h) ?_
 refine Run.openOwn (.tail _ (.tail _ (.tail _ (.tail _ (.head _))))) (by omega) (fun gh cgh hvgh hcapgh _ => ?_) (fun _ _ _ => ⟨nofun, nofun, nofun⟩)
 subst hvgh
 refine .lastly [14] (by kernel_rfl) ?_
 refine DL.m 0 rfl ?_
 refine DL.tP 1 rfl (.pointer (some ⟨r, 0, none⟩)) (fun _ => OpY.nilCheck rfl) ?_
 refine DL.tP 2 rfl (.pointer (some ⟨r, 6, none⟩)) (fun _ => OpY.fieldAddr Tfo_68_2 rfl rfl) ?_
 refine DL.t 3 rfl (Some'.weak (.take (.take (.take (.take (.take (.nil _))))))) (.slice (some ⟨gh, 0, none⟩) Q cgh) (.load1 Tone_47 rfl (.b (.head _))) ?_
 refine DL.m 4 rfl ?_
 refine DL.m 5 rfl ?_
 refine DL.tP 6 rfl (.pointer (some ⟨r, 0, none⟩)) (fun _ => OpY.nilCheck rfl) ?_
 refine DL.tP 7 rfl (.pointer (some ⟨r, 6, none⟩)) (fun _ => OpY.fieldAddr Tfo_68_2 rfl rfl) ?_
 refine DL.t 8 rfl (Some'.weak (.take (.take (.take (.take (.take (.nil _))))))) (.slice (some ⟨gh, 0, none⟩) Q cgh) (.load1 Tone_47 rfl (.b (.head _))) ?_
 refine DL.m 9 rfl ?_
 refine DL.tP 10 rfl (.pointer (some ⟨gh, q, none⟩)) (fun _ => OpY.ix q Tsl_47) ?_
 refine DL.t 11 rfl (Some'.weak (.take (.take (.take (.take (.take (.nil _))))))) (.bool (bx (S.ha) q)) (.load1 Tone_4 rfl (Cells.own0 (.tail _ (.tail _ (.tail _ (.tail _ (.head _))))) (preBl (by omega)))) ?_
 refine DL.tP 12 rfl (.bool (!(bx (S.ha) q))) (fun _ => OpY.pure rfl) ?_
 refine DL.tP 13 rfl (.pointer (some ⟨gh, q, none⟩)) (fun _ => OpY.ix q Tsl_47) ?_
 refine DL.step (i := 14) (by kernel_rfl) (by kernel_rfl) rfl rfl (OpStep.storeOwnB (o := q) (a := !(bx (S.ha) q)) Tsize_4 rfl rfl (.there _ (.there _ (.there _ (.there _ (.here _))))) (by omega) ?_)
 refine DL.done (by kernel_rfl) ?_
 refine .fin ?_
 refine ⟨.tuple #[], [.blk r 68 [.int .i64 (((Q : Nat) : Int)), vn, vw, .int .i64 t, .int .i64 ((S.flp q).rt), vl, .slice (some ⟨gh, 0, none⟩) Q cgh], .own vn 52 2 ((S.flp q).ns.length) (nds (S.flp q).ns), .own vw 71 3 ((S.flp q).ws.length) (wls (S.flp q).ws), .own vl 3 1 Q (ints (S.flp q).la), .own (.slice (some ⟨gh, 0, none⟩) Q cgh) 4 1 Q (bls (S.flp q).ha)], Out.none rfl, (Some'.weak (.takeEq (by first | rfl | simp) (.takeEq (by first | rfl | simp) (.takeEq (by first | rfl | simp) (.takeEq (by first | rfl | simp) (.takeEq (by first | rfl | simp) (.nil _))))))), ?_⟩
 exact ⟨_, _, rfl, rfl⟩

set_option maxHeartbeats 1000000 in
set_option maxRecDepth 20000 in
theorem node_spec {r Q m : Nat} {t : Int} {vn vw vl vh : Value} {S : DgS} {w : World} (hok : S.Ok Q m) (hm : m ≤ 100000) {q : Nat} {x1 x2 : Int} (hq : q < Q) (h : St (Of [.blk r 68 [.int .i64 (((Q : Nat) : Int)), vn, vw, .int .i64 t, .int .i64 (S.rt), vl, vh], .own vn 52 2 (S.ns.length) (nds S.ns), .own vw 71 3 (S.ws.length) (wls S.ws), .own vl 3 1 Q (ints S.la), .own vh 4 1 Q (bls S.ha)]) w w [.blk r 68 [.int .i64 (((Q : Nat) : Int)), vn, vw, .int .i64 t, .int .i64 (S.rt), vl, vh], .own vn 52 2 (S.ns.length) (nds S.ns), .own vw 71 3 (S.ws.length) (wls S.ws), .own vl 3 1 Q (ints S.la), .own vh 4 1 Q (bls S.ha)]) : Calls Try.prog 33 #[.pointer (some ⟨r, 0, none⟩), .int .i64 x1, .int .i64 x2, .int .i64 (q : Nat)] w (Post (Of [.blk r 68 [.int .i64 (((Q : Nat) : Int)), vn, vw, .int .i64 t, .int .i64 (S.rt), vl, vh], .own vn 52 2 (S.ns.length) (nds S.ns), .own vw 71 3 (S.ws.length) (wls S.ws), .own vl 3 1 Q (ints S.la), .own vh 4 1 Q (bls S.ha)]) w fun v H => ∃ vn2 vw2, v = .tuple #[] ∧ H = [.blk r 68 [.int .i64 (((Q : Nat) : Int)), vn2, vw2, .int .i64 t, .int .i64 ((S.app q (x1, x2)).rt), vl, vh], .own vn2 52 2 ((S.app q (x1, x2)).ns.length) (nds (S.app q (x1, x2)).ns), .own vw2 71 3 ((S.app q (x1, x2)).ws.length) (wls (S.app q (x1, x2)).ws), .own vl 3 1 Q (ints (S.app q (x1, x2)).la), .own vh 4 1 Q (bls (S.app q (x1, x2)).ha)]) := by
 have hla := hok.la
 have hha := hok.ha
 have hbn := hok.bn
 have hbw := hok.bw
 have hbr := hok.br
 have hrq := hok.rng q hq
 
 refine enter (n := 68) (args := [.pointer (some ⟨r, 0, none⟩), .int .i64 x1, .int .i64 x2, .int .i64 (((q : Nat) : Int))]) Try.func33 rfl rfl (h) ?_
 refine .sr ?_
 iterate 2 refine .m ?_
 refine .u (.pointer (some ⟨r, 0, none⟩)) (.nilCheck rfl) ?_
 refine .fa Tfo_68_0 ?_
 refine .fa Tfo_29_1 ?_
 refine .u vn (.load1 Tone_26 rfl (.b (.head _))) ?_
 iterate 2 refine .m ?_
 refine .u (.agg #[.int .i64 x1, .int .i64 x2]) (.build (cs := [.int .i64 x1, .int .i64 x2]) (by kernel_rfl)) ?_
 refine .step rfl (.buildSlice (us := [.int .i64 x1, .int .i64 x2]) Tsl_26 (by decide) (by decide) ⟨rfl, [.int .i64 x1, .int .i64 x2], _, rfl, rfl, rfl, rfl⟩ rfl fun b1 => ?_)
 refine .step rfl (.append (H1 := [.own (.slice (some ⟨b1, 0, none⟩) 1 1) 52 2 1 ([.int .i64 x1, .int .i64 x2]), .blk r 68 [.int .i64 (((Q : Nat) : Int)), vn, vw, .int .i64 t, .int .i64 (S.rt), vl, vh]]) (H2 := [.own vw 71 3 (S.ws.length) (wls S.ws), .own vl 3 1 Q (ints S.la), .own vh 4 1 Q (bls S.ha)]) (v := vn) (u := .slice (some ⟨b1, 0, none⟩) 1 1) (n := S.ns.length) (m := 1) (xs := nds S.ns) (ys := [.int .i64 x1, .int .i64 x2]) Tsl_26 (by decide) rfl rfl rfl rfl (fun w hs => hs.slOwn (.head _)) (by simp [Value.oneCell']) (by omega) (by simp only [maxLen]; omega) fun av1 hnav1 => ?_)
 refine Run.weak (H' := [.own (.slice (some ⟨b1, 0, none⟩) 1 1) 52 2 1 ([.int .i64 x1, .int .i64 x2]), .blk r 68 [.int .i64 (((Q : Nat) : Int)), vn, vw, .int .i64 t, .int .i64 (S.rt), vl, vh], .own av1 52 2 (S.ns.length + 1) (nds (S.ns ++ [(x1, x2)])), .own vw 71 3 (S.ws.length) (wls S.ws), .own vl 3 1 Q (ints S.la), .own vh 4 1 Q (bls S.ha)]) (Some'.weak (.take (.take (.takeEq (by rw [nds_append, nds_one]) (.take (.take (.take (.nil _)))))))) ?_ ⟨_, _, rfl, fun _ => nofun, fun _ => nofun⟩
 refine .u (.pointer (some ⟨r, 0, none⟩)) (.nilCheck rfl) ?_
 refine .fa Tfo_68_0 ?_
 refine .fa Tfo_29_1 ?_
 refine Run.formOwn (.tail _ (.tail _ (.head _))) (fun A_av11 c_av11 hv hcapc_av11 hmaxc_av11 => ?_) (fun _ _ _ => ⟨nofun, nofun, nofun⟩)
 subst hv
 refine .step rfl (.store (us := [.slice A_av11 (S.ns.length + 1) c_av11]) Tsize_26 rfl rfl rfl (.there _ (.here _)) (by simp only [List.length_cons, List.length_nil]; omega) ?_)
 show Run _ _ _ [.own (.slice (some ⟨b1, 0, none⟩) 1 1) 52 2 1 ([.int .i64 x1, .int .i64 x2]), .blk r 68 [.int .i64 (((Q : Nat) : Int)), .slice A_av11 (S.ns.length + 1) c_av11, vw, .int .i64 t, .int .i64 (S.rt), vl, vh], .own (.slice A_av11 (S.ns.length + 1) c_av11) 52 2 (S.ns.length + 1) (nds (S.ns ++ [(x1, x2)])), .own vw 71 3 (S.ws.length) (wls S.ws), .own vl 3 1 Q (ints S.la), .own vh 4 1 Q (bls S.ha)]
 refine .dsr ?_
 refine .m ?_
 refine .u (.pointer (some ⟨r, 0, none⟩)) (.nilCheck rfl) ?_
 refine .fa Tfo_68_0 ?_
 refine .fa Tfo_29_1 ?_
 refine .u (.slice A_av11 (S.ns.length + 1) c_av11) (.load1 Tone_26 rfl (.b (.tail _ (.head _)))) ?_
 refine .u (.int .i64 (((S.ns.length + 1 : Nat) : Int))) (.len Tsl_26 rfl) ?_
 refine .u (.int .i64 (((S.ns.length : Nat) : Int))) (.sub rfl rfl (by omega) (by omega) (by omega)) ?_
 refine .m ?_
 refine .done ?_
 refine .seq ?_
 refine Run.openOwn (.tail _ (.tail _ (.tail _ (.tail _ (.tail _ (.head _)))))) (by omega) (fun gh cgh hvgh hcapgh _ => ?_) (fun _ _ _ => ⟨nofun, nofun, nofun⟩)
 subst hvgh
 refine Run.openOwn (.tail _ (.tail _ (.tail _ (.tail _ (.head _))))) (by omega) (fun gl cgl hvgl hcapgl _ => ?_) (fun _ _ _ => ⟨nofun, nofun, nofun⟩)
 subst hvgl
 refine .lastlyB [25] [.own (.slice (some ⟨b1, 0, none⟩) 1 1) 52 2 1 ([.int .i64 x1, .int .i64 x2]), .blk r 68 [.int .i64 (((Q : Nat) : Int)), .slice A_av11 (S.ns.length + 1) c_av11, vw, .int .i64 t, .int .i64 (S.rt), .slice (some ⟨gl, 0, none⟩) Q cgl, .slice (some ⟨gh, 0, none⟩) Q cgh], .own (.slice A_av11 (S.ns.length + 1) c_av11) 52 2 (S.ns.length + 1) (nds (S.ns ++ [(x1, x2)])), .own vw 71 3 (S.ws.length) (wls S.ws), .own (.slice (some ⟨gl, 0, none⟩) Q cgl) 3 1 Q (ints S.la), .own (.slice (some ⟨gh, 0, none⟩) Q cgh) 4 1 Q (bls S.ha)] (by kernel_rfl) ?_
 refine DL.m 0 rfl ?_
 refine DL.m 1 rfl ?_
 refine DL.tP 2 rfl (.pointer (some ⟨r, 0, none⟩)) (fun _ => OpY.nilCheck rfl) ?_
 refine DL.tP 3 rfl (.pointer (some ⟨r, 0, none⟩)) (fun _ => OpY.fieldAddr Tfo_68_0 rfl rfl) ?_
 refine DL.tP 4 rfl (.pointer (some ⟨r, 2, none⟩)) (fun _ => OpY.fieldAddr Tfo_29_2 rfl rfl) ?_
 refine DL.tT 5 rfl (Some'.weak (.take (.take (.take (.take (.take (.take (.nil _)))))))) vw (.load1 Tone_27 rfl (.b (.tail _ (.head _)))) ?_
 refine DL.m 6 rfl ?_
 refine DL.tP 7 rfl (.pointer (some ⟨r, 0, none⟩)) (fun _ => OpY.nilCheck rfl) ?_
 refine DL.tP 8 rfl (.pointer (some ⟨r, 5, none⟩)) (fun _ => OpY.fieldAddr Tfo_68_1 rfl rfl) ?_
 refine DL.tT 9 rfl (Some'.weak (.take (.take (.take (.take (.take (.take (.nil _)))))))) (.slice (some ⟨gl, 0, none⟩) Q cgl) (.load1 Tone_48 rfl (.b (.tail _ (.head _)))) ?_
 refine DL.m 10 rfl ?_
 refine DL.tP 11 rfl (.pointer (some ⟨gl, q, none⟩)) (fun _ => OpY.ix q Tsl_48) ?_
 refine DL.tT 12 rfl (Some'.weak (.take (.take (.take (.take (.take (.take (.nil _)))))))) (.int .i64 (ix S.la (q))) (.load1 Tone_3 rfl (Cells.own0 (.tail _ (.tail _ (.tail _ (.tail _ (.head _))))) (pre1 (by omega)))) ?_
 refine DL.m 13 rfl ?_
 refine DL.m 14 rfl ?_
 refine DL.tP 15 rfl (.pointer (some ⟨r, 0, none⟩)) (fun _ => OpY.nilCheck rfl) ?_
 refine DL.tP 16 rfl (.pointer (some ⟨r, 6, none⟩)) (fun _ => OpY.fieldAddr Tfo_68_2 rfl rfl) ?_
 refine DL.tT 17 rfl (Some'.weak (.take (.take (.take (.take (.take (.take (.nil _)))))))) (.slice (some ⟨gh, 0, none⟩) Q cgh) (.load1 Tone_47 rfl (.b (.tail _ (.head _)))) ?_
 refine DL.m 18 rfl ?_
 refine DL.tP 19 rfl (.pointer (some ⟨gh, q, none⟩)) (fun _ => OpY.ix q Tsl_47) ?_
 refine DL.tT 20 rfl (Some'.weak (.take (.take (.take (.take (.take (.take (.nil _)))))))) (.bool (bx (S.ha) q)) (.load1 Tone_4 rfl (Cells.own0 (.tail _ (.tail _ (.tail _ (.tail _ (.tail _ (.head _)))))) (preBl (by omega)))) ?_
 refine DL.stepS (i := 21) (by kernel_rfl) rfl rfl (OpStep.c [vw, .int .i64 (ix S.la (q)), .int .i64 (((S.ns.length : Nat) : Int)), .bool (bx (S.ha) q)] Tcall_54 (fun w hs => l16Join_spec (hs.slOwn (.tail _ (.tail _ (.tail _ (.head _))))) (by omega)) ?_)
 rintro vj1 _ rfl
 refine ⟨(Some'.weak (.skip (.take (.take (.take (.take (.take (.take (.nil _))))))))), ?_⟩
 refine DL.tP 22 rfl (.pointer (some ⟨r, 0, none⟩)) (fun _ => OpY.nilCheck rfl) ?_
 refine DL.tP 23 rfl (.pointer (some ⟨r, 0, none⟩)) (fun _ => OpY.fieldAddr Tfo_68_0 rfl rfl) ?_
 refine DL.tP 24 rfl (.pointer (some ⟨r, 2, none⟩)) (fun _ => OpY.fieldAddr Tfo_29_2 rfl rfl) ?_
 refine DL.formOwn (.head _) (fun A_vj11 c_vj11 hv hcapc_vj11 hmaxc_vj11 => ?_)
 subst hv
 refine DL.step (i := 25) (by kernel_rfl) (by kernel_rfl) rfl rfl (OpStep.store (us := [.slice A_vj11 (S.ws.length + 1) c_vj11]) Tsize_27 rfl rfl rfl (.there _ (.there _ (.here _))) (by simp only [List.length_cons, List.length_nil]; omega) ?_)
 show DL _ _ _ _ _ _ _ _ [.own (.slice A_vj11 (S.ws.length + 1) c_vj11) 71 3 (S.ws.length + 1) (wls (insW (S.ws) (min (ix S.la (q)) (((S.ns.length : Nat) : Int)), max (ix S.la (q)) (((S.ns.length : Nat) : Int)), bx (S.ha) q))), .own (.slice (some ⟨b1, 0, none⟩) 1 1) 52 2 1 ([.int .i64 x1, .int .i64 x2]), .blk r 68 [.int .i64 (((Q : Nat) : Int)), .slice A_av11 (S.ns.length + 1) c_av11, .slice A_vj11 (S.ws.length + 1) c_vj11, .int .i64 t, .int .i64 (S.rt), .slice (some ⟨gl, 0, none⟩) Q cgl, .slice (some ⟨gh, 0, none⟩) Q cgh], .own (.slice A_av11 (S.ns.length + 1) c_av11) 52 2 (S.ns.length + 1) (nds (S.ns ++ [(x1, x2)])), .own vw 71 3 (S.ws.length) (wls S.ws), .own (.slice (some ⟨gl, 0, none⟩) Q cgl) 3 1 Q (ints S.la), .own (.slice (some ⟨gh, 0, none⟩) Q cgh) 4 1 Q (bls S.ha)]
 refine DL.done (by kernel_rfl) ?_
 refine .sr ?_
 refine .m ?_
 refine .u (.pointer (some ⟨r, 0, none⟩)) (.nilCheck rfl) ?_
 refine .fa Tfo_68_1 ?_
 refine .u (.slice (some ⟨gl, 0, none⟩) Q cgl) (.load1 Tone_48 rfl (.b (.tail _ (.tail _ (.head _))))) ?_
 iterate 2 refine .m ?_
 refine .u (.pointer (some ⟨gl, q, none⟩)) (.ix q Tsl_48) ?_
 refine .step rfl (.storeOwnInt (o := q) (a := ((S.ns.length : Nat) : Int)) Tsize_3 rfl rfl (.there _ (.there _ (.there _ (.there _ (.there _ (.here _)))))) (by omega) ?_)
 refine .dr ?_
 refine .m ?_
 refine .u (.pointer (some ⟨r, 0, none⟩)) (.nilCheck rfl) ?_
 refine .fa Tfo_68_2 ?_
 refine .u (.slice (some ⟨gh, 0, none⟩) Q cgh) (.load1 Tone_47 rfl (.b (.tail _ (.tail _ (.head _))))) ?_
 refine .m ?_
 refine .u (.pointer (some ⟨gh, q, none⟩)) (.ix q Tsl_47) ?_
 refine .step rfl (.storeOwnB (o := q) (a := false) Tsize_4 rfl rfl (.there _ (.there _ (.there _ (.there _ (.there _ (.there _ (.here _))))))) (by omega) ?_)
 refine .done ?_
 refine .fin ?_
 refine ⟨.tuple #[], [.blk r 68 [.int .i64 (((Q : Nat) : Int)), .slice A_av11 (S.ns.length + 1) c_av11, .slice A_vj11 (S.ws.length + 1) c_vj11, .int .i64 t, .int .i64 ((S.app q (x1, x2)).rt), .slice (some ⟨gl, 0, none⟩) Q cgl, .slice (some ⟨gh, 0, none⟩) Q cgh], .own (.slice A_av11 (S.ns.length + 1) c_av11) 52 2 ((S.app q (x1, x2)).ns.length) (nds (S.app q (x1, x2)).ns), .own (.slice A_vj11 (S.ws.length + 1) c_vj11) 71 3 ((S.app q (x1, x2)).ws.length) (wls (S.app q (x1, x2)).ws), .own (.slice (some ⟨gl, 0, none⟩) Q cgl) 3 1 Q (ints (S.app q (x1, x2)).la), .own (.slice (some ⟨gh, 0, none⟩) Q cgh) 4 1 Q (bls (S.app q (x1, x2)).ha)], Out.none rfl, ((Weak.selF [2, 2, 0, 2, 2]).trans (Some'.weak (.takeEq (by first | rfl | (simp only [DgS.app, DgS.trn, DgS.add, DgS.tog, insW_length, List.length_append, List.length_cons, List.length_nil, Nat.zero_add]; done)) (.takeEq (by first | rfl | (simp only [DgS.app, DgS.trn, DgS.add, DgS.tog, insW_length, List.length_append, List.length_cons, List.length_nil, Nat.zero_add]; done)) (.takeEq (by first | rfl | (simp only [DgS.app, DgS.trn, DgS.add, DgS.tog, insW_length, List.length_append, List.length_cons, List.length_nil, Nat.zero_add]; done)) (.takeEq (by first | rfl | (simp only [DgS.app, DgS.trn, DgS.add, DgS.tog, insW_length, List.length_append, List.length_cons, List.length_nil, Nat.zero_add]; done)) (.takeEq (by first | rfl | (simp only [DgS.app, DgS.trn, DgS.add, DgS.tog, insW_length, List.length_append, List.length_cons, List.length_nil, Nat.zero_add]; done)) (.nil _)))))))), ?_⟩
 exact ⟨_, _, rfl, rfl⟩

set_option maxHeartbeats 1000000 in
set_option maxRecDepth 20000 in
theorem placeR_spec {r Q m : Nat} {t : Int} {vn vw vl vh : Value} {S : DgS} {w : World} (hok : S.Ok Q m) (hm : m ≤ 100000) {q : Nat} (hq : q < Q) (h : St (Of [.blk r 68 [.int .i64 (((Q : Nat) : Int)), vn, vw, .int .i64 t, .int .i64 (S.rt), vl, vh], .own vn 52 2 (S.ns.length) (nds S.ns), .own vw 71 3 (S.ws.length) (wls S.ws), .own vl 3 1 Q (ints S.la), .own vh 4 1 Q (bls S.ha)]) w w [.blk r 68 [.int .i64 (((Q : Nat) : Int)), vn, vw, .int .i64 t, .int .i64 (S.rt), vl, vh], .own vn 52 2 (S.ns.length) (nds S.ns), .own vw 71 3 (S.ws.length) (wls S.ws), .own vl 3 1 Q (ints S.la), .own vh 4 1 Q (bls S.ha)]) : Calls Try.prog 68 #[.pointer (some ⟨r, 0, none⟩), .int .i64 (q : Nat)] w (Post (Of [.blk r 68 [.int .i64 (((Q : Nat) : Int)), vn, vw, .int .i64 t, .int .i64 (S.rt), vl, vh], .own vn 52 2 (S.ns.length) (nds S.ns), .own vw 71 3 (S.ws.length) (wls S.ws), .own vl 3 1 Q (ints S.la), .own vh 4 1 Q (bls S.ha)]) w fun v H => ∃ vn2 vw2, v = .int .i64 (ix (S.plc q).la q) ∧ H = [.blk r 68 [.int .i64 (((Q : Nat) : Int)), vn2, vw2, .int .i64 t, .int .i64 ((S.plc q).rt), vl, vh], .own vn2 52 2 ((S.plc q).ns.length) (nds (S.plc q).ns), .own vw2 71 3 ((S.plc q).ws.length) (wls (S.plc q).ws), .own vl 3 1 Q (ints (S.plc q).la), .own vh 4 1 Q (bls (S.plc q).ha)]) := by
 have hla := hok.la
 have hha := hok.ha
 have hbn := hok.bn
 have hbw := hok.bw
 have hbr := hok.br
 have hrq := hok.rng q hq
 obtain ⟨k, hk⟩ : ∃ k, (ix S.la q).toNat = k := ⟨_, rfl⟩
 refine enter (n := 40) (args := [.pointer (some ⟨r, 0, none⟩), .int .i64 (((q : Nat) : Int))]) Try.func68 rfl rfl (h) ?_
 refine .sr ?_
 refine .m ?_
 refine .done ?_
 refine .seq ?_
 refine .seq ?_
 refine Run.openOwn (.tail _ (.tail _ (.tail _ (.tail _ (.head _))))) (by omega) (fun gh cgh hvgh hcapgh _ => ?_) (fun _ _ _ => ⟨nofun, nofun, nofun⟩)
 subst hvgh
 refine Run.openOwn (.tail _ (.tail _ (.tail _ (.head _)))) (by omega) (fun gl cgl hvgl hcapgl _ => ?_) (fun _ _ _ => ⟨nofun, nofun, nofun⟩)
 subst hvgl
 refine Run.openOwn (.tail _ (.head _)) (by omega) (fun gn cgn hvgn hcapgn _ => ?_) (fun _ _ _ => ⟨nofun, nofun, nofun⟩)
 subst hvgn
 refine .draws (by kernel_rfl) (by kernel_rfl) ?_
 refine .m ?_
 refine .u (.pointer (some ⟨r, 0, none⟩)) (.nilCheck rfl) ?_
 refine .u (.pointer (some ⟨r, 6, none⟩)) (.fieldAddr Tfo_68_2 rfl rfl) ?_
 refine .u (.slice (some ⟨gh, 0, none⟩) Q cgh) (.load1 Tone_47 rfl (.b (.head _))) ?_
 refine .m ?_
 refine .u (.pointer (some ⟨gh, q, none⟩)) (.ix q Tsl_47) ?_
 refine .u (.bool (bx (S.ha) q)) (.load1 Tone_4 rfl (Cells.own0 (.tail _ (.tail _ (.tail _ (.tail _ (.head _))))) (preBl (by omega)))) ?_
 rcases Bool.eq_false_or_eq_true (bx (S.ha) q) with h12 | h12
 ·refine .u (.bool true) (.moveB rfl h12) ?_
  have p12 := h12; try simp only [bs] at p12
  iterate 16 refine .pass rfl ?_
  refine .w (.bool true) ?_
  refine .done ?_
  refine .cond (b := true) rfl (fun _ => ?_) (fun h => nomatch h)
  have hneed : S.need q = true := by rw [DgS.need, hk]; simp [*]
  have hpl : S.plc q = S.app q (3, 0) := if_pos hneed
  have hlA : (S.app q (3, 0)).la.length = Q := by simp [DgS.app, hla]
  refine .region ?_
  iterate 2 refine .m ?_
  refine .step rfl (.callM (H1 := [.blk r 68 [.int .i64 (((Q : Nat) : Int)), .slice (some ⟨gn, 0, none⟩) (S.ns.length) cgn, vw, .int .i64 t, .int .i64 (S.rt), .slice (some ⟨gl, 0, none⟩) Q cgl, .slice (some ⟨gh, 0, none⟩) Q cgh], .own (.slice (some ⟨gn, 0, none⟩) (S.ns.length) cgn) 52 2 (S.ns.length) (nds S.ns), .own vw 71 3 (S.ws.length) (wls S.ws), .own (.slice (some ⟨gl, 0, none⟩) Q cgl) 3 1 Q (ints S.la), .own (.slice (some ⟨gh, 0, none⟩) Q cgh) 4 1 Q (bls S.ha)]) (H2 := []) (vs := [.pointer (some ⟨r, 0, none⟩), .int .i64 3, .int .i64 0, .int .i64 (((q : Nat) : Int))]) (caps := []) Tcall_33 rfl rfl (Weak.refl _) (fun w hs => node_spec hok hm hq (hs.sub (List.sublist_append_left _ _)).self) ?_)
  rintro _ _ ⟨vn1, vw1, rfl, rfl⟩
  show Run _ _ (putF _ _ _ (.tuple #[])) [.blk r 68 [.int .i64 (((Q : Nat) : Int)), vn1, vw1, .int .i64 t, .int .i64 ((S.app q (3, 0)).rt), .slice (some ⟨gl, 0, none⟩) Q cgl, .slice (some ⟨gh, 0, none⟩) Q cgh], .own vn1 52 2 ((S.app q (3, 0)).ns.length) (nds (S.app q (3, 0)).ns), .own vw1 71 3 ((S.app q (3, 0)).ws.length) (wls (S.app q (3, 0)).ws), .own (.slice (some ⟨gl, 0, none⟩) Q cgl) 3 1 Q (ints (S.app q (3, 0)).la), .own (.slice (some ⟨gh, 0, none⟩) Q cgh) 4 1 Q (bls (S.app q (3, 0)).ha)]
  refine .dsr ?_
  refine .m ?_
  refine .u (.pointer (some ⟨r, 0, none⟩)) (.nilCheck rfl) ?_
  refine .fa Tfo_68_1 ?_
  refine .u (.slice (some ⟨gl, 0, none⟩) Q cgl) (.load1 Tone_48 rfl (.b (.head _))) ?_
  refine .m ?_
  refine .u (.pointer (some ⟨gl, q, none⟩)) (.ix q Tsl_48) ?_
  refine .u (.int .i64 (ix (S.app q (3, 0)).la (q))) (.load1 Tone_3 rfl (Cells.own0 (.tail _ (.tail _ (.tail _ (.head _)))) (pre1 (by omega)))) ?_
  refine .m ?_
  refine .done ?_
  refine .ret ?_
  refine ⟨.int .i64 (ix (S.app q (3, 0)).la (q)), [.blk r 68 [.int .i64 (((Q : Nat) : Int)), vn1, vw1, .int .i64 t, .int .i64 ((S.plc q).rt), .slice (some ⟨gl, 0, none⟩) Q cgl, .slice (some ⟨gh, 0, none⟩) Q cgh], .own vn1 52 2 ((S.plc q).ns.length) (nds (S.plc q).ns), .own vw1 71 3 ((S.plc q).ws.length) (wls (S.plc q).ws), .own (.slice (some ⟨gl, 0, none⟩) Q cgl) 3 1 Q (ints (S.plc q).la), .own (.slice (some ⟨gh, 0, none⟩) Q cgh) 4 1 Q (bls (S.plc q).ha)], Out.one rfl rfl, (Some'.weak (.takeEq (by first | rfl | (rw [hpl]; done)) (.takeEq (by first | rfl | (rw [hpl]; done)) (.takeEq (by first | rfl | (rw [hpl]; done)) (.takeEq (by first | rfl | (rw [hpl]; done)) (.takeEq (by first | rfl | (rw [hpl]; done)) (.nil _))))))), ?_⟩
  exact ⟨_, _, by rw [hpl], rfl⟩
 refine .u (.bool false) (.moveB rfl h12) ?_
 have p12 := h12; try simp only [bs] at p12
 refine .m ?_
 refine .u (.pointer (some ⟨r, 0, none⟩)) (.nilCheck rfl) ?_
 refine .u (.pointer (some ⟨r, 0, none⟩)) (.fieldAddr Tfo_68_0 rfl rfl) ?_
 refine .u (.pointer (some ⟨r, 1, none⟩)) (.fieldAddr Tfo_29_1 rfl rfl) ?_
 refine .u (.slice (some ⟨gn, 0, none⟩) (S.ns.length) cgn) (.load1 Tone_26 rfl (.b (.head _))) ?_
 refine .m ?_
 refine .u (.pointer (some ⟨r, 0, none⟩)) (.nilCheck rfl) ?_
 refine .u (.pointer (some ⟨r, 5, none⟩)) (.fieldAddr Tfo_68_1 rfl rfl) ?_
 refine .u (.slice (some ⟨gl, 0, none⟩) Q cgl) (.load1 Tone_48 rfl (.b (.head _))) ?_
 refine .m ?_
 refine .u (.pointer (some ⟨gl, q, none⟩)) (.ix q Tsl_48) ?_
 refine .u (.int .i64 (ix S.la (q))) (.load1 Tone_3 rfl (Cells.own0 (.tail _ (.tail _ (.tail _ (.head _)))) (pre1 (by omega)))) ?_
 refine .u (.pointer (some ⟨gn, k * 2, none⟩)) (.ix k Tsl_26) ?_
 refine .u (.pointer (some ⟨gn, k * 2, none⟩)) (.fieldAddr Tfo_52_0 rfl rfl) ?_
 refine .u (.int .i64 ((ndx (S.ns) k).1)) (.load1 Tone_3 rfl (Cells.own0 (.tail _ (.head _)) (preNa (k := k) (by omega)))) ?_
 refine .w (.bool (((ndx (S.ns) k).1) != 3)) ?_
 refine .w (.bool (((ndx (S.ns) k).1) != 3)) ?_
 refine .done ?_
 refine .cond (b := ((ndx (S.ns) k).1) != 3) rfl (fun h29 => ?_) (fun h29 => ?_)
 ·have p29 := h29; try simp only [bs] at p29
  have hneed : S.need q = true := by rw [DgS.need, hk]; simp [*]
  have hpl : S.plc q = S.app q (3, 0) := if_pos hneed
  have hlA : (S.app q (3, 0)).la.length = Q := by simp [DgS.app, hla]
  refine .region ?_
  iterate 2 refine .m ?_
  refine .step rfl (.callM (H1 := [.blk r 68 [.int .i64 (((Q : Nat) : Int)), .slice (some ⟨gn, 0, none⟩) (S.ns.length) cgn, vw, .int .i64 t, .int .i64 (S.rt), .slice (some ⟨gl, 0, none⟩) Q cgl, .slice (some ⟨gh, 0, none⟩) Q cgh], .own (.slice (some ⟨gn, 0, none⟩) (S.ns.length) cgn) 52 2 (S.ns.length) (nds S.ns), .own vw 71 3 (S.ws.length) (wls S.ws), .own (.slice (some ⟨gl, 0, none⟩) Q cgl) 3 1 Q (ints S.la), .own (.slice (some ⟨gh, 0, none⟩) Q cgh) 4 1 Q (bls S.ha)]) (H2 := []) (vs := [.pointer (some ⟨r, 0, none⟩), .int .i64 3, .int .i64 0, .int .i64 (((q : Nat) : Int))]) (caps := []) Tcall_33 rfl rfl (Weak.refl _) (fun w hs => node_spec hok hm hq (hs.sub (List.sublist_append_left _ _)).self) ?_)
  rintro _ _ ⟨vn2, vw2, rfl, rfl⟩
  show Run _ _ (putF _ _ _ (.tuple #[])) [.blk r 68 [.int .i64 (((Q : Nat) : Int)), vn2, vw2, .int .i64 t, .int .i64 ((S.app q (3, 0)).rt), .slice (some ⟨gl, 0, none⟩) Q cgl, .slice (some ⟨gh, 0, none⟩) Q cgh], .own vn2 52 2 ((S.app q (3, 0)).ns.length) (nds (S.app q (3, 0)).ns), .own vw2 71 3 ((S.app q (3, 0)).ws.length) (wls (S.app q (3, 0)).ws), .own (.slice (some ⟨gl, 0, none⟩) Q cgl) 3 1 Q (ints (S.app q (3, 0)).la), .own (.slice (some ⟨gh, 0, none⟩) Q cgh) 4 1 Q (bls (S.app q (3, 0)).ha)]
  refine .dsr ?_
  refine .m ?_
  refine .u (.pointer (some ⟨r, 0, none⟩)) (.nilCheck rfl) ?_
  refine .fa Tfo_68_1 ?_
  refine .u (.slice (some ⟨gl, 0, none⟩) Q cgl) (.load1 Tone_48 rfl (.b (.head _))) ?_
  refine .m ?_
  refine .u (.pointer (some ⟨gl, q, none⟩)) (.ix q Tsl_48) ?_
  refine .u (.int .i64 (ix (S.app q (3, 0)).la (q))) (.load1 Tone_3 rfl (Cells.own0 (.tail _ (.tail _ (.tail _ (.head _)))) (pre1 (by omega)))) ?_
  refine .m ?_
  refine .done ?_
  refine .ret ?_
  refine ⟨.int .i64 (ix (S.app q (3, 0)).la (q)), [.blk r 68 [.int .i64 (((Q : Nat) : Int)), vn2, vw2, .int .i64 t, .int .i64 ((S.plc q).rt), .slice (some ⟨gl, 0, none⟩) Q cgl, .slice (some ⟨gh, 0, none⟩) Q cgh], .own vn2 52 2 ((S.plc q).ns.length) (nds (S.plc q).ns), .own vw2 71 3 ((S.plc q).ws.length) (wls (S.plc q).ws), .own (.slice (some ⟨gl, 0, none⟩) Q cgl) 3 1 Q (ints (S.plc q).la), .own (.slice (some ⟨gh, 0, none⟩) Q cgh) 4 1 Q (bls (S.plc q).ha)], Out.one rfl rfl, (Some'.weak (.takeEq (by first | rfl | (rw [hpl]; done)) (.takeEq (by first | rfl | (rw [hpl]; done)) (.takeEq (by first | rfl | (rw [hpl]; done)) (.takeEq (by first | rfl | (rw [hpl]; done)) (.takeEq (by first | rfl | (rw [hpl]; done)) (.nil _))))))), ?_⟩
  exact ⟨_, _, by rw [hpl], rfl⟩
 have p29 := h29; try simp only [bs] at p29
 have hneed : S.need q = false := by rw [DgS.need, hk]; simp [*]
 have hpl : S.plc q = S := if_neg (by rw [hneed]; decide)
 refine .skip ?_
 refine .sr ?_
 refine .m ?_
 refine .u (.pointer (some ⟨r, 0, none⟩)) (.nilCheck rfl) ?_
 refine .fa Tfo_68_1 ?_
 refine .u (.slice (some ⟨gl, 0, none⟩) Q cgl) (.load1 Tone_48 rfl (.b (.head _))) ?_
 refine .m ?_
 refine .u (.pointer (some ⟨gl, q, none⟩)) (.ix q Tsl_48) ?_
 refine .u (.int .i64 (ix S.la (q))) (.load1 Tone_3 rfl (Cells.own0 (.tail _ (.tail _ (.tail _ (.head _)))) (pre1 (by omega)))) ?_
 refine .m ?_
 refine .done ?_
 refine .ret ?_
 refine ⟨.int .i64 (ix S.la (q)), [.blk r 68 [.int .i64 (((Q : Nat) : Int)), .slice (some ⟨gn, 0, none⟩) (S.ns.length) cgn, vw, .int .i64 t, .int .i64 ((S.plc q).rt), .slice (some ⟨gl, 0, none⟩) Q cgl, .slice (some ⟨gh, 0, none⟩) Q cgh], .own (.slice (some ⟨gn, 0, none⟩) (S.ns.length) cgn) 52 2 ((S.plc q).ns.length) (nds (S.plc q).ns), .own vw 71 3 ((S.plc q).ws.length) (wls (S.plc q).ws), .own (.slice (some ⟨gl, 0, none⟩) Q cgl) 3 1 Q (ints (S.plc q).la), .own (.slice (some ⟨gh, 0, none⟩) Q cgh) 4 1 Q (bls (S.plc q).ha)], Out.one rfl rfl, (Some'.weak (.takeEq (by first | rfl | (rw [hpl]; done)) (.takeEq (by first | rfl | (rw [hpl]; done)) (.takeEq (by first | rfl | (rw [hpl]; done)) (.takeEq (by first | rfl | (rw [hpl]; done)) (.takeEq (by first | rfl | (rw [hpl]; done)) (.nil _))))))), ?_⟩
 exact ⟨_, _, by rw [hpl], rfl⟩

set_option maxHeartbeats 1000000 in
set_option maxRecDepth 20000 in
theorem turnR_spec {r Q m : Nat} {t : Int} {vn vw vl vh : Value} {S : DgS} {w : World} (hok : S.Ok Q m) (hm : m ≤ 100000) {q : Nat} {cf : Int} (hq : q < Q) (hcf : 0 ≤ cf ∧ cf ≤ 7) (h : St (Of [.blk r 68 [.int .i64 (((Q : Nat) : Int)), vn, vw, .int .i64 t, .int .i64 (S.rt), vl, vh], .own vn 52 2 (S.ns.length) (nds S.ns), .own vw 71 3 (S.ws.length) (wls S.ws), .own vl 3 1 Q (ints S.la), .own vh 4 1 Q (bls S.ha)]) w w [.blk r 68 [.int .i64 (((Q : Nat) : Int)), vn, vw, .int .i64 t, .int .i64 (S.rt), vl, vh], .own vn 52 2 (S.ns.length) (nds S.ns), .own vw 71 3 (S.ws.length) (wls S.ws), .own vl 3 1 Q (ints S.la), .own vh 4 1 Q (bls S.ha)]) : Calls Try.prog 52 #[.pointer (some ⟨r, 0, none⟩), .int .i64 (q : Nat), .int .i64 cf] w (Post (Of [.blk r 68 [.int .i64 (((Q : Nat) : Int)), vn, vw, .int .i64 t, .int .i64 (S.rt), vl, vh], .own vn 52 2 (S.ns.length) (nds S.ns), .own vw 71 3 (S.ws.length) (wls S.ws), .own vl 3 1 Q (ints S.la), .own vh 4 1 Q (bls S.ha)]) w fun v H => ∃ vn2 vw2, v = .tuple #[] ∧ H = [.blk r 68 [.int .i64 (((Q : Nat) : Int)), vn2, vw2, .int .i64 t, .int .i64 ((S.trn q cf).rt), vl, vh], .own vn2 52 2 ((S.trn q cf).ns.length) (nds (S.trn q cf).ns), .own vw2 71 3 ((S.trn q cf).ws.length) (wls (S.trn q cf).ws), .own vl 3 1 Q (ints (S.trn q cf).la), .own vh 4 1 Q (bls (S.trn q cf).ha)]) := by
 have hla := hok.la
 have hha := hok.ha
 have hbn := hok.bn
 have hbw := hok.bw
 have hbr := hok.br
 have hrq := hok.rng q hq
 have hokU := hok.plc hq
 obtain ⟨k, hk⟩ : ∃ k, (ix (S.plc q).la q).toNat = k := ⟨_, rfl⟩
 have hrU := hokU.rng q hq
 have hlU := hokU.la
 have hhU := hokU.ha
 have hph := hokU.ph k (by omega)
 refine enter (n := 30) (args := [.pointer (some ⟨r, 0, none⟩), .int .i64 (((q : Nat) : Int)), .int .i64 cf]) Try.func52 rfl rfl (h) ?_
 refine .sr ?_
 iterate 2 refine .m ?_
 refine .step rfl (.callM (H1 := [.blk r 68 [.int .i64 (((Q : Nat) : Int)), vn, vw, .int .i64 t, .int .i64 (S.rt), vl, vh], .own vn 52 2 (S.ns.length) (nds S.ns), .own vw 71 3 (S.ws.length) (wls S.ws), .own vl 3 1 Q (ints S.la), .own vh 4 1 Q (bls S.ha)]) (H2 := []) (vs := [.pointer (some ⟨r, 0, none⟩), .int .i64 (((q : Nat) : Int))]) (caps := []) Tcall_68 rfl rfl (Weak.refl _) (fun w hs => placeR_spec hok hm hq (hs.sub (List.sublist_append_left _ _)).self) ?_)
 rintro _ _ ⟨vn1, vw1, rfl, rfl⟩
 show Run _ _ (putF _ _ _ (.int .i64 (ix (S.plc q).la q))) [.blk r 68 [.int .i64 (((Q : Nat) : Int)), vn1, vw1, .int .i64 t, .int .i64 ((S.plc q).rt), vl, vh], .own vn1 52 2 ((S.plc q).ns.length) (nds (S.plc q).ns), .own vw1 71 3 ((S.plc q).ws.length) (wls (S.plc q).ws), .own vl 3 1 Q (ints (S.plc q).la), .own vh 4 1 Q (bls (S.plc q).ha)]
 refine .m ?_
 refine .done ?_
 refine Run.openOwn (.tail _ (.head _)) (by omega) (fun gn cgn hvgn hcapgn _ => ?_) (fun _ _ _ => ⟨nofun, nofun, nofun⟩)
 subst hvgn
 refine .lastlyB [20] [.blk r 68 [.int .i64 (((Q : Nat) : Int)), .slice (some ⟨gn, 0, none⟩) ((S.plc q).ns.length) cgn, vw1, .int .i64 t, .int .i64 ((S.plc q).rt), vl, vh], .own (.slice (some ⟨gn, 0, none⟩) ((S.plc q).ns.length) cgn) 52 2 ((S.plc q).ns.length) (nds (S.plc q).ns), .own vw1 71 3 ((S.plc q).ws.length) (wls (S.plc q).ws), .own vl 3 1 Q (ints (S.plc q).la), .own vh 4 1 Q (bls (S.plc q).ha)] (by kernel_rfl) ?_
 refine DL.m 0 rfl ?_
 refine DL.tP 1 rfl (.pointer (some ⟨r, 0, none⟩)) (fun _ => OpY.nilCheck rfl) ?_
 refine DL.tP 2 rfl (.pointer (some ⟨r, 0, none⟩)) (fun _ => OpY.fieldAddr Tfo_68_0 rfl rfl) ?_
 refine DL.tP 3 rfl (.pointer (some ⟨r, 1, none⟩)) (fun _ => OpY.fieldAddr Tfo_29_1 rfl rfl) ?_
 refine DL.tT 4 rfl (Some'.weak (.take (.take (.take (.take (.take (.nil _))))))) (.slice (some ⟨gn, 0, none⟩) ((S.plc q).ns.length) cgn) (.load1 Tone_26 rfl (.b (.head _))) ?_
 refine DL.m 5 rfl ?_
 refine DL.m 6 rfl ?_
 refine DL.tP 7 rfl (.pointer (some ⟨r, 0, none⟩)) (fun _ => OpY.nilCheck rfl) ?_
 refine DL.tP 8 rfl (.pointer (some ⟨r, 0, none⟩)) (fun _ => OpY.fieldAddr Tfo_68_0 rfl rfl) ?_
 refine DL.tP 9 rfl (.pointer (some ⟨r, 1, none⟩)) (fun _ => OpY.fieldAddr Tfo_29_1 rfl rfl) ?_
 refine DL.tT 10 rfl (Some'.weak (.take (.take (.take (.take (.take (.nil _))))))) (.slice (some ⟨gn, 0, none⟩) ((S.plc q).ns.length) cgn) (.load1 Tone_26 rfl (.b (.head _))) ?_
 refine DL.m 11 rfl ?_
 refine DL.tP 12 rfl (.pointer (some ⟨gn, k * 2, none⟩)) (fun _ => OpY.ix k Tsl_26) ?_
 refine DL.tP 13 rfl (.pointer (some ⟨gn, k * 2 + 1, none⟩)) (fun _ => OpY.fieldAddr Tfo_52_1 rfl rfl) ?_
 refine DL.tT 14 rfl (Some'.weak (.take (.take (.take (.take (.take (.nil _))))))) (.int .i64 ((ndx ((S.plc q).ns) k).2)) (.load1 Tone_3 rfl (Cells.own0 (.tail _ (.head _)) (preNb (k := k) (by omega)))) ?_
 refine DL.m 15 rfl ?_
 refine DL.tP 16 rfl (.int .i64 (((ndx ((S.plc q).ns) k).2) + cf)) (fun _ => OpY.add rfl rfl rfl (by omega) (by omega)) ?_
 refine DL.tP 17 rfl (.int .i64 ((((ndx ((S.plc q).ns) k).2) + cf) % 8)) (fun _ => OpY.rem rfl rfl (by omega) (by omega)) ?_
 refine DL.tP 18 rfl (.pointer (some ⟨gn, k * 2, none⟩)) (fun _ => OpY.ix k Tsl_26) ?_
 refine DL.tP 19 rfl (.pointer (some ⟨gn, k * 2 + 1, none⟩)) (fun _ => OpY.fieldAddr Tfo_52_1 rfl rfl) ?_
 refine DL.step (i := 20) (by kernel_rfl) (by kernel_rfl) rfl rfl (OpStep.storeOwnP (k := k) (p := (((ndx ((S.plc q).ns) k).2) + cf) % 8) Tsize_3 rfl rfl (.there _ (.here _)) (by omega) (by omega) ?_)
 refine DL.done (by kernel_rfl) ?_
 refine .fin ?_
 refine ⟨.tuple #[], [.blk r 68 [.int .i64 (((Q : Nat) : Int)), .slice (some ⟨gn, 0, none⟩) ((S.plc q).ns.length) cgn, vw1, .int .i64 t, .int .i64 ((S.trn q cf).rt), vl, vh], .own (.slice (some ⟨gn, 0, none⟩) ((S.plc q).ns.length) cgn) 52 2 ((S.trn q cf).ns.length) (nds (S.trn q cf).ns), .own vw1 71 3 ((S.trn q cf).ws.length) (wls (S.trn q cf).ws), .own vl 3 1 Q (ints (S.trn q cf).la), .own vh 4 1 Q (bls (S.trn q cf).ha)], Out.none rfl, (Some'.weak (.takeEq (by first | rfl | (simp only [DgS.trn, DgS.add, hk, List.length_set]; done) | (simp only [DgS.trn, DgS.add, hk]; rfl)) (.takeEq (by first | rfl | (simp only [DgS.trn, DgS.add, hk, List.length_set]; done) | (simp only [DgS.trn, DgS.add, hk]; rfl)) (.takeEq (by first | rfl | (simp only [DgS.trn, DgS.add, hk, List.length_set]; done) | (simp only [DgS.trn, DgS.add, hk]; rfl)) (.takeEq (by first | rfl | (simp only [DgS.trn, DgS.add, hk, List.length_set]; done) | (simp only [DgS.trn, DgS.add, hk]; rfl)) (.takeEq (by first | rfl | (simp only [DgS.trn, DgS.add, hk, List.length_set]; done) | (simp only [DgS.trn, DgS.add, hk]; rfl)) (.nil _))))))), ?_⟩
 exact ⟨_, _, rfl, rfl⟩

set_option maxHeartbeats 2000000 in
set_option maxRecDepth 20000 in
theorem czR_spec {r Q m : Nat} {t : Int} {vn vw vl vh : Value} {S : DgS} {w : World} (hok : S.Ok Q m) (hm : m ≤ 99000) {a b : Nat} (ha : a < Q) (hb : b < Q) (hne : a ≠ b) (h : St (Of [.blk r 68 [.int .i64 (((Q : Nat) : Int)), vn, vw, .int .i64 t, .int .i64 (S.rt), vl, vh], .own vn 52 2 (S.ns.length) (nds S.ns), .own vw 71 3 (S.ws.length) (wls S.ws), .own vl 3 1 Q (ints S.la), .own vh 4 1 Q (bls S.ha)]) w w [.blk r 68 [.int .i64 (((Q : Nat) : Int)), vn, vw, .int .i64 t, .int .i64 (S.rt), vl, vh], .own vn 52 2 (S.ns.length) (nds S.ns), .own vw 71 3 (S.ws.length) (wls S.ws), .own vl 3 1 Q (ints S.la), .own vh 4 1 Q (bls S.ha)]) : Calls Try.prog 53 #[.pointer (some ⟨r, 0, none⟩), .int .i64 (a : Nat), .int .i64 (b : Nat)] w (Post (Of [.blk r 68 [.int .i64 (((Q : Nat) : Int)), vn, vw, .int .i64 t, .int .i64 (S.rt), vl, vh], .own vn 52 2 (S.ns.length) (nds S.ns), .own vw 71 3 (S.ws.length) (wls S.ws), .own vl 3 1 Q (ints S.la), .own vh 4 1 Q (bls S.ha)]) w fun v H => ∃ vn2 vw2, v = .tuple #[] ∧ H = [.blk r 68 [.int .i64 (((Q : Nat) : Int)), vn2, vw2, .int .i64 t, .int .i64 ((S.czd a b).rt), vl, vh], .own vn2 52 2 ((S.czd a b).ns.length) (nds (S.czd a b).ns), .own vw2 71 3 ((S.czd a b).ws.length) (wls (S.czd a b).ws), .own vl 3 1 Q (ints (S.czd a b).la), .own vh 4 1 Q (bls (S.czd a b).ha)]) := by
 have hla := hok.la
 have hha := hok.ha
 have hbn := hok.bn
 have hbw := hok.bw
 have hbr := hok.br
 have hoka := hok.plc ha
 have hokU := hoka.plc hb
 have hra := hokU.rng a ha
 have hrb := hokU.rng b hb
 have hlU := hokU.la
 have hhU := hokU.ha
 have hbwU := hokU.bw
 have hbrU := hokU.br
 have hlt := DgS.Ok.fdW_lt (L := ((S.plc a).plc b).ws) (a := ix ((S.plc a).plc b).la a) (b := ix ((S.plc a).plc b).la b)
 have hx : ((S.plc a).plc b).la.getD a 0 = (S.plc a).la.getD a 0 := DgS.plc_la hne
 change ix ((S.plc a).plc b).la a = ix (S.plc a).la a at hx
 rw [hx] at hlt
 refine enter (n := 66) (args := [.pointer (some ⟨r, 0, none⟩), .int .i64 (((a : Nat) : Int)), .int .i64 (((b : Nat) : Int))]) Try.func53 rfl rfl (h) ?_
 refine .sr ?_
 iterate 2 refine .m ?_
 refine .step rfl (.callM (H1 := [.blk r 68 [.int .i64 (((Q : Nat) : Int)), vn, vw, .int .i64 t, .int .i64 (S.rt), vl, vh], .own vn 52 2 (S.ns.length) (nds S.ns), .own vw 71 3 (S.ws.length) (wls S.ws), .own vl 3 1 Q (ints S.la), .own vh 4 1 Q (bls S.ha)]) (H2 := []) (vs := [.pointer (some ⟨r, 0, none⟩), .int .i64 (((a : Nat) : Int))]) (caps := []) Tcall_68 rfl rfl (Weak.refl _) (fun w hs => placeR_spec hok (by omega) ha (hs.sub (List.sublist_append_left _ _)).self) ?_)
 rintro _ _ ⟨vn1, vw1, rfl, rfl⟩
 show Run _ _ (putF _ _ _ (.int .i64 (ix (S.plc a).la a))) [.blk r 68 [.int .i64 (((Q : Nat) : Int)), vn1, vw1, .int .i64 t, .int .i64 ((S.plc a).rt), vl, vh], .own vn1 52 2 ((S.plc a).ns.length) (nds (S.plc a).ns), .own vw1 71 3 ((S.plc a).ws.length) (wls (S.plc a).ws), .own vl 3 1 Q (ints (S.plc a).la), .own vh 4 1 Q (bls (S.plc a).ha)]
 refine .m ?_
 refine .dsr ?_
 iterate 2 refine .m ?_
 refine .step rfl (.callM (H1 := [.blk r 68 [.int .i64 (((Q : Nat) : Int)), vn1, vw1, .int .i64 t, .int .i64 ((S.plc a).rt), vl, vh], .own vn1 52 2 ((S.plc a).ns.length) (nds (S.plc a).ns), .own vw1 71 3 ((S.plc a).ws.length) (wls (S.plc a).ws), .own vl 3 1 Q (ints (S.plc a).la), .own vh 4 1 Q (bls (S.plc a).ha)]) (H2 := []) (vs := [.pointer (some ⟨r, 0, none⟩), .int .i64 (((b : Nat) : Int))]) (caps := []) Tcall_68 rfl rfl (Weak.refl _) (fun w hs => placeR_spec hoka (by omega) hb (hs.sub (List.sublist_append_left _ _)).self) ?_)
 rintro _ _ ⟨vn2, vw2, rfl, rfl⟩
 show Run _ _ (putF _ _ _ (.int .i64 (ix ((S.plc a).plc b).la b))) [.blk r 68 [.int .i64 (((Q : Nat) : Int)), vn2, vw2, .int .i64 t, .int .i64 (((S.plc a).plc b).rt), vl, vh], .own vn2 52 2 (((S.plc a).plc b).ns.length) (nds ((S.plc a).plc b).ns), .own vw2 71 3 (((S.plc a).plc b).ws.length) (wls ((S.plc a).plc b).ws), .own vl 3 1 Q (ints ((S.plc a).plc b).la), .own vh 4 1 Q (bls ((S.plc a).plc b).ha)]
 refine .m ?_
 refine .done ?_
 refine .seq ?_
 refine .sr ?_
 refine .m ?_
 refine .u (.pointer (some ⟨r, 0, none⟩)) (.nilCheck rfl) ?_
 refine .fa Tfo_68_0 ?_
 refine .fa Tfo_29_2 ?_
 refine .u vw2 (.load1 Tone_27 rfl (.b (.head _))) ?_
 iterate 2 refine .m ?_
 refine .c (.int .i64 (fdW ((S.plc a).plc b).ws (ix (S.plc a).la a) (ix ((S.plc a).plc b).la b))) [vw2, .int .i64 (ix (S.plc a).la a), .int .i64 (ix ((S.plc a).plc b).la b)] Tcall_69 (fun w hs => l16Find_spec (hs.slOwn (.tail _ (.tail _ (.head _))))) ?_
 refine .m ?_
 refine .dsr ?_
 refine .m ?_
 refine .w (.bool (decide ((fdW ((S.plc a).plc b).ws (ix (S.plc a).la a) (ix ((S.plc a).plc b).la b)) ≥ 0))) ?_
 refine .done ?_
 refine .cond (b := decide ((fdW ((S.plc a).plc b).ws (ix (S.plc a).la a) (ix ((S.plc a).plc b).la b)) ≥ 0)) rfl (fun h24 => ?_) (fun h24 => ?_)
 ·have p24 := h24; try simp only [bs] at p24
  obtain ⟨i, hi⟩ : ∃ i : Nat, fdW ((S.plc a).plc b).ws (ix (S.plc a).la a) (ix ((S.plc a).plc b).la b) = (i : Nat) := ⟨_, (Int.toNat_of_nonneg p24).symm⟩
  have hto : S.czd a b = { ((S.plc a).plc b) with ws := ((S.plc a).plc b).ws.eraseIdx i, rt := ((S.plc a).plc b).rt - 1 } := by rw [DgS.czd, DgS.tog, hx, if_pos (by omega), hi, Int.toNat_natCast]
  refine .sr ?_
  iterate 2 refine .m ?_
  refine .u (.pointer (some ⟨r, 0, none⟩)) (.nilCheck rfl) ?_
  refine .fa Tfo_68_0 ?_
  refine .fa Tfo_29_2 ?_
  refine .u vw2 (.load1 Tone_27 rfl (.b (.head _))) ?_
  refine .m ?_
  refine .step rfl (.c [vw2, .int .i64 (fdW ((S.plc a).plc b).ws (ix (S.plc a).la a) (ix ((S.plc a).plc b).la b))] Tcall_70 (fun w hs => l16Cut_is hi (hs.slOwn (.tail _ (.tail _ (.head _)))) (by omega) (by omega)) ?_)
  rintro vj1 _ rfl
  show Run _ _ (putF _ _ _ vj1) [.own vj1 71 3 (((S.plc a).plc b).ws.length - 1) (wls (((S.plc a).plc b).ws.eraseIdx i)), .blk r 68 [.int .i64 (((Q : Nat) : Int)), vn2, vw2, .int .i64 t, .int .i64 (((S.plc a).plc b).rt), vl, vh], .own vn2 52 2 (((S.plc a).plc b).ns.length) (nds ((S.plc a).plc b).ns), .own vw2 71 3 (((S.plc a).plc b).ws.length) (wls ((S.plc a).plc b).ws), .own vl 3 1 Q (ints ((S.plc a).plc b).la), .own vh 4 1 Q (bls ((S.plc a).plc b).ha)]
  refine .u (.pointer (some ⟨r, 0, none⟩)) (.nilCheck rfl) ?_
  refine .fa Tfo_68_0 ?_
  refine .fa Tfo_29_2 ?_
  refine Run.formOwn (.head _) (fun A_vj11 c_vj11 hv hcapc_vj11 hmaxc_vj11 => ?_) (fun _ _ _ => ⟨nofun, nofun, nofun⟩)
  subst hv
  refine .step rfl (.store (us := [.slice A_vj11 (((S.plc a).plc b).ws.length - 1) c_vj11]) Tsize_27 rfl rfl rfl (.there _ (.here _)) (by simp only [List.length_cons, List.length_nil]; omega) ?_)
  show Run _ _ _ [.own (.slice A_vj11 (((S.plc a).plc b).ws.length - 1) c_vj11) 71 3 (((S.plc a).plc b).ws.length - 1) (wls (((S.plc a).plc b).ws.eraseIdx i)), .blk r 68 [.int .i64 (((Q : Nat) : Int)), vn2, .slice A_vj11 (((S.plc a).plc b).ws.length - 1) c_vj11, .int .i64 t, .int .i64 (((S.plc a).plc b).rt), vl, vh], .own vn2 52 2 (((S.plc a).plc b).ns.length) (nds ((S.plc a).plc b).ns), .own vw2 71 3 (((S.plc a).plc b).ws.length) (wls ((S.plc a).plc b).ws), .own vl 3 1 Q (ints ((S.plc a).plc b).la), .own vh 4 1 Q (bls ((S.plc a).plc b).ha)]
  refine .dsr ?_
  refine .m ?_
  refine .u (.pointer (some ⟨r, 0, none⟩)) (.nilCheck rfl) ?_
  refine .fa Tfo_68_0 ?_
  refine .fa Tfo_29_4 ?_
  refine .u (.int .i64 (((S.plc a).plc b).rt)) (.load1 Tone_3 rfl (.b (.tail _ (.head _)))) ?_
  refine .u (.int .i64 ((((S.plc a).plc b).rt) - 1)) (.sub rfl rfl rfl (by omega) (by omega)) ?_
  refine .u (.pointer (some ⟨r, 0, none⟩)) (.nilCheck rfl) ?_
  refine .fa Tfo_68_0 ?_
  refine .fa Tfo_29_4 ?_
  refine .step rfl (.store (us := [.int .i64 ((((S.plc a).plc b).rt) - 1)]) Tsize_3 rfl rfl rfl (.there _ (.here _)) (by simp only [List.length_cons, List.length_nil]; omega) ?_)
  show Run _ _ _ [.own (.slice A_vj11 (((S.plc a).plc b).ws.length - 1) c_vj11) 71 3 (((S.plc a).plc b).ws.length - 1) (wls (((S.plc a).plc b).ws.eraseIdx i)), .blk r 68 [.int .i64 (((Q : Nat) : Int)), vn2, .slice A_vj11 (((S.plc a).plc b).ws.length - 1) c_vj11, .int .i64 t, .int .i64 ((((S.plc a).plc b).rt) - 1), vl, vh], .own vn2 52 2 (((S.plc a).plc b).ns.length) (nds ((S.plc a).plc b).ns), .own vw2 71 3 (((S.plc a).plc b).ws.length) (wls ((S.plc a).plc b).ws), .own vl 3 1 Q (ints ((S.plc a).plc b).la), .own vh 4 1 Q (bls ((S.plc a).plc b).ha)]
  refine .done ?_
  refine .ret ?_
  refine ⟨.tuple #[], [.blk r 68 [.int .i64 (((Q : Nat) : Int)), vn2, .slice A_vj11 (((S.plc a).plc b).ws.length - 1) c_vj11, .int .i64 t, .int .i64 ((S.czd a b).rt), vl, vh], .own vn2 52 2 ((S.czd a b).ns.length) (nds (S.czd a b).ns), .own (.slice A_vj11 (((S.plc a).plc b).ws.length - 1) c_vj11) 71 3 ((S.czd a b).ws.length) (wls (S.czd a b).ws), .own vl 3 1 Q (ints (S.czd a b).la), .own vh 4 1 Q (bls (S.czd a b).ha)], Out.none rfl, ((Weak.selF [1, 1, 0, 1, 1]).trans (Some'.weak (.takeEq (by first | rfl | (rw [hto]; done) | (rw [hto]; simp only [insW_length]; done) | (rw [hto, List.length_eraseIdx_of_lt (by omega)]; done) | (rw [hto]; simp only [List.length_eraseIdx_of_lt (show i < ((S.plc a).plc b).ws.length by omega)]; done)) (.takeEq (by first | rfl | (rw [hto]; done) | (rw [hto]; simp only [insW_length]; done) | (rw [hto, List.length_eraseIdx_of_lt (by omega)]; done) | (rw [hto]; simp only [List.length_eraseIdx_of_lt (show i < ((S.plc a).plc b).ws.length by omega)]; done)) (.takeEq (by first | rfl | (rw [hto]; done) | (rw [hto]; simp only [insW_length]; done) | (rw [hto, List.length_eraseIdx_of_lt (by omega)]; done) | (rw [hto]; simp only [List.length_eraseIdx_of_lt (show i < ((S.plc a).plc b).ws.length by omega)]; done)) (.takeEq (by first | rfl | (rw [hto]; done) | (rw [hto]; simp only [insW_length]; done) | (rw [hto, List.length_eraseIdx_of_lt (by omega)]; done) | (rw [hto]; simp only [List.length_eraseIdx_of_lt (show i < ((S.plc a).plc b).ws.length by omega)]; done)) (.takeEq (by first | rfl | (rw [hto]; done) | (rw [hto]; simp only [insW_length]; done) | (rw [hto, List.length_eraseIdx_of_lt (by omega)]; done) | (rw [hto]; simp only [List.length_eraseIdx_of_lt (show i < ((S.plc a).plc b).ws.length by omega)]; done)) (.nil _)))))))), ?_⟩
  exact ⟨_, _, rfl, rfl⟩
 have p24 := h24; try simp only [bs] at p24
 have hto : S.czd a b = { ((S.plc a).plc b) with ws := insW ((S.plc a).plc b).ws (min (ix (S.plc a).la a) (ix ((S.plc a).plc b).la b), max (ix (S.plc a).la a) (ix ((S.plc a).plc b).la b), true), rt := ((S.plc a).plc b).rt + 1 } := by rw [DgS.czd, DgS.tog, hx, if_neg (by omega)]
 refine .skip ?_
 refine .sr ?_
 iterate 2 refine .m ?_
 refine .u (.pointer (some ⟨r, 0, none⟩)) (.nilCheck rfl) ?_
 refine .fa Tfo_68_0 ?_
 refine .fa Tfo_29_2 ?_
 refine .u vw2 (.load1 Tone_27 rfl (.b (.head _))) ?_
 iterate 2 refine .m ?_
 refine .step rfl (.c [vw2, .int .i64 (ix (S.plc a).la a), .int .i64 (ix ((S.plc a).plc b).la b), .bool true] Tcall_54 (fun w hs => l16Join_spec (hs.slOwn (.tail _ (.tail _ (.head _)))) (by omega)) ?_)
 rintro vj2 _ rfl
 show Run _ _ (putF _ _ _ vj2) [.own vj2 71 3 (((S.plc a).plc b).ws.length + 1) (wls (insW (((S.plc a).plc b).ws) (min (ix (S.plc a).la a) (ix ((S.plc a).plc b).la b), max (ix (S.plc a).la a) (ix ((S.plc a).plc b).la b), true))), .blk r 68 [.int .i64 (((Q : Nat) : Int)), vn2, vw2, .int .i64 t, .int .i64 (((S.plc a).plc b).rt), vl, vh], .own vn2 52 2 (((S.plc a).plc b).ns.length) (nds ((S.plc a).plc b).ns), .own vw2 71 3 (((S.plc a).plc b).ws.length) (wls ((S.plc a).plc b).ws), .own vl 3 1 Q (ints ((S.plc a).plc b).la), .own vh 4 1 Q (bls ((S.plc a).plc b).ha)]
 refine .u (.pointer (some ⟨r, 0, none⟩)) (.nilCheck rfl) ?_
 refine .fa Tfo_68_0 ?_
 refine .fa Tfo_29_2 ?_
 refine Run.formOwn (.head _) (fun A_vj21 c_vj21 hv hcapc_vj21 hmaxc_vj21 => ?_) (fun _ _ _ => ⟨nofun, nofun, nofun⟩)
 subst hv
 refine .step rfl (.store (us := [.slice A_vj21 (((S.plc a).plc b).ws.length + 1) c_vj21]) Tsize_27 rfl rfl rfl (.there _ (.here _)) (by simp only [List.length_cons, List.length_nil]; omega) ?_)
 show Run _ _ _ [.own (.slice A_vj21 (((S.plc a).plc b).ws.length + 1) c_vj21) 71 3 (((S.plc a).plc b).ws.length + 1) (wls (insW (((S.plc a).plc b).ws) (min (ix (S.plc a).la a) (ix ((S.plc a).plc b).la b), max (ix (S.plc a).la a) (ix ((S.plc a).plc b).la b), true))), .blk r 68 [.int .i64 (((Q : Nat) : Int)), vn2, .slice A_vj21 (((S.plc a).plc b).ws.length + 1) c_vj21, .int .i64 t, .int .i64 (((S.plc a).plc b).rt), vl, vh], .own vn2 52 2 (((S.plc a).plc b).ns.length) (nds ((S.plc a).plc b).ns), .own vw2 71 3 (((S.plc a).plc b).ws.length) (wls ((S.plc a).plc b).ws), .own vl 3 1 Q (ints ((S.plc a).plc b).la), .own vh 4 1 Q (bls ((S.plc a).plc b).ha)]
 refine .dr ?_
 refine .m ?_
 refine .u (.pointer (some ⟨r, 0, none⟩)) (.nilCheck rfl) ?_
 refine .fa Tfo_68_0 ?_
 refine .fa Tfo_29_4 ?_
 refine .u (.int .i64 (((S.plc a).plc b).rt)) (.load1 Tone_3 rfl (.b (.tail _ (.head _)))) ?_
 refine .u (.int .i64 ((((S.plc a).plc b).rt) + 1)) (.add rfl rfl rfl (by omega) (by omega)) ?_
 refine .u (.pointer (some ⟨r, 0, none⟩)) (.nilCheck rfl) ?_
 refine .fa Tfo_68_0 ?_
 refine .fa Tfo_29_4 ?_
 refine .step rfl (.store (us := [.int .i64 ((((S.plc a).plc b).rt) + 1)]) Tsize_3 rfl rfl rfl (.there _ (.here _)) (by simp only [List.length_cons, List.length_nil]; omega) ?_)
 show Run _ _ _ [.own (.slice A_vj21 (((S.plc a).plc b).ws.length + 1) c_vj21) 71 3 (((S.plc a).plc b).ws.length + 1) (wls (insW (((S.plc a).plc b).ws) (min (ix (S.plc a).la a) (ix ((S.plc a).plc b).la b), max (ix (S.plc a).la a) (ix ((S.plc a).plc b).la b), true))), .blk r 68 [.int .i64 (((Q : Nat) : Int)), vn2, .slice A_vj21 (((S.plc a).plc b).ws.length + 1) c_vj21, .int .i64 t, .int .i64 ((((S.plc a).plc b).rt) + 1), vl, vh], .own vn2 52 2 (((S.plc a).plc b).ns.length) (nds ((S.plc a).plc b).ns), .own vw2 71 3 (((S.plc a).plc b).ws.length) (wls ((S.plc a).plc b).ws), .own vl 3 1 Q (ints ((S.plc a).plc b).la), .own vh 4 1 Q (bls ((S.plc a).plc b).ha)]
 refine .done ?_
 refine .fin ?_
 refine ⟨.tuple #[], [.blk r 68 [.int .i64 (((Q : Nat) : Int)), vn2, .slice A_vj21 (((S.plc a).plc b).ws.length + 1) c_vj21, .int .i64 t, .int .i64 ((S.czd a b).rt), vl, vh], .own vn2 52 2 ((S.czd a b).ns.length) (nds (S.czd a b).ns), .own (.slice A_vj21 (((S.plc a).plc b).ws.length + 1) c_vj21) 71 3 ((S.czd a b).ws.length) (wls (S.czd a b).ws), .own vl 3 1 Q (ints (S.czd a b).la), .own vh 4 1 Q (bls (S.czd a b).ha)], Out.none rfl, ((Weak.selF [1, 1, 0, 1, 1]).trans (Some'.weak (.takeEq (by first | rfl | (rw [hto]; done) | (rw [hto]; simp only [insW_length]; done) | (rw [hto, List.length_eraseIdx_of_lt (by omega)]; done) | (rw [hto]; simp only [List.length_eraseIdx_of_lt (show i < ((S.plc a).plc b).ws.length by omega)]; done)) (.takeEq (by first | rfl | (rw [hto]; done) | (rw [hto]; simp only [insW_length]; done) | (rw [hto, List.length_eraseIdx_of_lt (by omega)]; done) | (rw [hto]; simp only [List.length_eraseIdx_of_lt (show i < ((S.plc a).plc b).ws.length by omega)]; done)) (.takeEq (by first | rfl | (rw [hto]; done) | (rw [hto]; simp only [insW_length]; done) | (rw [hto, List.length_eraseIdx_of_lt (by omega)]; done) | (rw [hto]; simp only [List.length_eraseIdx_of_lt (show i < ((S.plc a).plc b).ws.length by omega)]; done)) (.takeEq (by first | rfl | (rw [hto]; done) | (rw [hto]; simp only [insW_length]; done) | (rw [hto, List.length_eraseIdx_of_lt (by omega)]; done) | (rw [hto]; simp only [List.length_eraseIdx_of_lt (show i < ((S.plc a).plc b).ws.length by omega)]; done)) (.takeEq (by first | rfl | (rw [hto]; done) | (rw [hto]; simp only [insW_length]; done) | (rw [hto, List.length_eraseIdx_of_lt (by omega)]; done) | (rw [hto]; simp only [List.length_eraseIdx_of_lt (show i < ((S.plc a).plc b).ws.length by omega)]; done)) (.nil _)))))))), ?_⟩
 exact ⟨_, _, rfl, rfl⟩

set_option maxHeartbeats 4000000 in
set_option maxRecDepth 20000 in
theorem gateR_spec {r Q m : Nat} {t : Int} {vn vw vl vh : Value} {S : DgS} {w : World} (hok : S.Ok Q m) (hm : m ≤ 90000) {k : Int} {a b : Nat} (hk : 1 ≤ k ∧ k ≤ 12) (ha : a < Q) (hb : b < Q) (hne : 9 ≤ k ∧ k ≤ 11 → a ≠ b) (ht : 0 ≤ t ∧ t < 100000) (h : St (Of [.blk r 68 [.int .i64 (((Q : Nat) : Int)), vn, vw, .int .i64 t, .int .i64 (S.rt), vl, vh], .own vn 52 2 (S.ns.length) (nds S.ns), .own vw 71 3 (S.ws.length) (wls S.ws), .own vl 3 1 Q (ints S.la), .own vh 4 1 Q (bls S.ha)]) w w [.blk r 68 [.int .i64 (((Q : Nat) : Int)), vn, vw, .int .i64 t, .int .i64 (S.rt), vl, vh], .own vn 52 2 (S.ns.length) (nds S.ns), .own vw 71 3 (S.ws.length) (wls S.ws), .own vl 3 1 Q (ints S.la), .own vh 4 1 Q (bls S.ha)]) : Calls Try.prog 32 #[.pointer (some ⟨r, 0, none⟩), .agg #[.int .i64 k, .int .i64 (a : Nat), .int .i64 (b : Nat)]] w (Post (Of [.blk r 68 [.int .i64 (((Q : Nat) : Int)), vn, vw, .int .i64 t, .int .i64 (S.rt), vl, vh], .own vn 52 2 (S.ns.length) (nds S.ns), .own vw 71 3 (S.ws.length) (wls S.ws), .own vl 3 1 Q (ints S.la), .own vh 4 1 Q (bls S.ha)]) w fun v H => ∃ vn2 vw2, v = .tuple #[] ∧ H = [.blk r 68 [.int .i64 (((Q : Nat) : Int)), vn2, vw2, .int .i64 ((t + DgS.tn k)), .int .i64 ((S.gate k a b).rt), vl, vh], .own vn2 52 2 ((S.gate k a b).ns.length) (nds (S.gate k a b).ns), .own vw2 71 3 ((S.gate k a b).ws.length) (wls (S.gate k a b).ws), .own vl 3 1 Q (ints (S.gate k a b).la), .own vh 4 1 Q (bls (S.gate k a b).ha)]) := by
 have hla := hok.la
 have hha := hok.ha
 have hbn := hok.bn
 have hbw := hok.bw
 have hbr := hok.br
 have hrb := rot_bd k
 refine enter (n := 164) (args := [.pointer (some ⟨r, 0, none⟩), .agg #[.int .i64 k, .int .i64 (((a : Nat) : Int)), .int .i64 (((b : Nat) : Int))]]) Try.func32 rfl rfl (h) ?_
 refine .sr ?_
 refine .step rfl (.box (us := [.int .i64 k, .int .i64 (((a : Nat) : Int)), .int .i64 (((b : Nat) : Int))]) rfl fun b1 => ?_)
 refine .dsr ?_
 refine .fa Tfo_54_0 ?_
 refine .u (.int .i64 k) (.load1 Tone_3 rfl (.b (.head _))) ?_
 refine .done ?_
 refine .block ?_
 refine .sr ?_
 refine .w (.bool (k == 1)) ?_
 refine .m ?_
 refine .done ?_
 refine .cond (b := k == 1) rfl (fun h18 => ?_) (fun h18 => ?_)
 ·have p18 := h18; try simp only [bs] at p18
  have hgt : S.gate k a b = S.flp a := by rw [DgS.gate, if_pos p18]
  have htn : t + DgS.tn k = t := by rw [DgS.tn, if_neg (by omega), if_neg (by omega)]; omega
  refine .region ?_
  refine .m ?_
  refine .fa Tfo_54_1 ?_
  refine .u (.int .i64 (((a : Nat) : Int))) (.load1 Tone_3 rfl (.b (.head _))) ?_
  refine .step rfl (.callM (H1 := [.blk r 68 [.int .i64 (((Q : Nat) : Int)), vn, vw, .int .i64 t, .int .i64 (S.rt), vl, vh], .own vn 52 2 (S.ns.length) (nds S.ns), .own vw 71 3 (S.ws.length) (wls S.ws), .own vl 3 1 Q (ints S.la), .own vh 4 1 Q (bls S.ha)]) (H2 := [.blk b1 54 [.int .i64 k, .int .i64 (((a : Nat) : Int)), .int .i64 (((b : Nat) : Int))]]) (vs := [.pointer (some ⟨r, 0, none⟩), .int .i64 (((a : Nat) : Int))]) (caps := []) Tcall_51 rfl rfl (Weak.selF [1, 1, 1, 1, 1]) (fun w hs => flipR_spec hok (by omega) ha (hs.sub (List.sublist_append_left _ _)).self) ?_)
  rintro _ _ ⟨vn1, vw1, rfl, rfl⟩
  show Run _ _ (putF _ _ _ (.tuple #[])) [.blk r 68 [.int .i64 (((Q : Nat) : Int)), vn1, vw1, .int .i64 t, .int .i64 ((S.flp a).rt), vl, vh], .own vn1 52 2 ((S.flp a).ns.length) (nds (S.flp a).ns), .own vw1 71 3 ((S.flp a).ws.length) (wls (S.flp a).ws), .own vl 3 1 Q (ints (S.flp a).la), .own vh 4 1 Q (bls (S.flp a).ha), .blk b1 54 [.int .i64 k, .int .i64 (((a : Nat) : Int)), .int .i64 (((b : Nat) : Int))]]
  refine .done ?_
  refine .blockEnd ?_
  refine .fin ?_
  refine ⟨.tuple #[], [.blk r 68 [.int .i64 (((Q : Nat) : Int)), vn1, vw1, .int .i64 (t + DgS.tn k), .int .i64 ((S.gate k a b).rt), vl, vh], .own vn1 52 2 ((S.gate k a b).ns.length) (nds (S.gate k a b).ns), .own vw1 71 3 ((S.gate k a b).ws.length) (wls (S.gate k a b).ws), .own vl 3 1 Q (ints (S.gate k a b).la), .own vh 4 1 Q (bls (S.gate k a b).ha)], Out.none rfl, (Some'.weak (.takeEq (by first | rfl | (rw [hgt]; done) | (rw [hgt]; rfl) | (rw [hgt, htn]; done) | (rw [hgt, htn]; rfl)) (.takeEq (by first | rfl | (rw [hgt]; done) | (rw [hgt]; rfl) | (rw [hgt, htn]; done) | (rw [hgt, htn]; rfl)) (.takeEq (by first | rfl | (rw [hgt]; done) | (rw [hgt]; rfl) | (rw [hgt, htn]; done) | (rw [hgt, htn]; rfl)) (.takeEq (by first | rfl | (rw [hgt]; done) | (rw [hgt]; rfl) | (rw [hgt, htn]; done) | (rw [hgt, htn]; rfl)) (.takeEq (by first | rfl | (rw [hgt]; done) | (rw [hgt]; rfl) | (rw [hgt, htn]; done) | (rw [hgt, htn]; rfl)) (.nil _))))))), ?_⟩
  exact ⟨_, _, rfl, rfl⟩
 have p18 := h18; try simp only [bs] at p18
 refine .sr ?_
 refine .w (.bool (k == 2)) ?_
 refine .m ?_
 refine .done ?_
 refine .cond (b := k == 2) rfl (fun h24 => ?_) (fun h24 => ?_)
 ·have p24 := h24; try simp only [bs] at p24
  have hgt : S.gate k a b = ((S.flp a).trn a 4).flp a := by rw [DgS.gate, if_neg p18, if_pos p24]
  have htn : t + DgS.tn k = t := by rw [DgS.tn, if_neg (by omega), if_neg (by omega)]; omega
  refine .sr ?_
  refine .m ?_
  refine .fa Tfo_54_1 ?_
  refine .u (.int .i64 (((a : Nat) : Int))) (.load1 Tone_3 rfl (.b (.head _))) ?_
  refine .step rfl (.callM (H1 := [.blk r 68 [.int .i64 (((Q : Nat) : Int)), vn, vw, .int .i64 t, .int .i64 (S.rt), vl, vh], .own vn 52 2 (S.ns.length) (nds S.ns), .own vw 71 3 (S.ws.length) (wls S.ws), .own vl 3 1 Q (ints S.la), .own vh 4 1 Q (bls S.ha)]) (H2 := [.blk b1 54 [.int .i64 k, .int .i64 (((a : Nat) : Int)), .int .i64 (((b : Nat) : Int))]]) (vs := [.pointer (some ⟨r, 0, none⟩), .int .i64 (((a : Nat) : Int))]) (caps := []) Tcall_51 rfl rfl (Weak.selF [1, 1, 1, 1, 1]) (fun w hs => flipR_spec hok (by omega) ha (hs.sub (List.sublist_append_left _ _)).self) ?_)
  rintro _ _ ⟨vn2, vw2, rfl, rfl⟩
  show Run _ _ (putF _ _ _ (.tuple #[])) [.blk r 68 [.int .i64 (((Q : Nat) : Int)), vn2, vw2, .int .i64 t, .int .i64 ((S.flp a).rt), vl, vh], .own vn2 52 2 ((S.flp a).ns.length) (nds (S.flp a).ns), .own vw2 71 3 ((S.flp a).ws.length) (wls (S.flp a).ws), .own vl 3 1 Q (ints (S.flp a).la), .own vh 4 1 Q (bls (S.flp a).ha), .blk b1 54 [.int .i64 k, .int .i64 (((a : Nat) : Int)), .int .i64 (((b : Nat) : Int))]]
  refine .dsr ?_
  refine .m ?_
  refine .fa Tfo_54_1 ?_
  refine .u (.int .i64 (((a : Nat) : Int))) (.load1 Tone_3 rfl (.b (.tail _ (.tail _ (.tail _ (.tail _ (.tail _ (.head _)))))))) ?_
  refine .step rfl (.callM (H1 := [.blk r 68 [.int .i64 (((Q : Nat) : Int)), vn2, vw2, .int .i64 t, .int .i64 ((S.flp a).rt), vl, vh], .own vn2 52 2 ((S.flp a).ns.length) (nds (S.flp a).ns), .own vw2 71 3 ((S.flp a).ws.length) (wls (S.flp a).ws), .own vl 3 1 Q (ints (S.flp a).la), .own vh 4 1 Q (bls (S.flp a).ha)]) (H2 := [.blk b1 54 [.int .i64 k, .int .i64 (((a : Nat) : Int)), .int .i64 (((b : Nat) : Int))]]) (vs := [.pointer (some ⟨r, 0, none⟩), .int .i64 (((a : Nat) : Int)), .int .i64 4]) (caps := []) Tcall_52 rfl rfl (Weak.refl _) (fun w hs => turnR_spec (hok.flp a) (by omega) ha (by decide) (hs.sub (List.sublist_append_left _ _)).self) ?_)
  rintro _ _ ⟨vn3, vw3, rfl, rfl⟩
  show Run _ _ (putF _ _ _ (.tuple #[])) [.blk r 68 [.int .i64 (((Q : Nat) : Int)), vn3, vw3, .int .i64 t, .int .i64 (((S.flp a).trn a 4).rt), vl, vh], .own vn3 52 2 (((S.flp a).trn a 4).ns.length) (nds ((S.flp a).trn a 4).ns), .own vw3 71 3 (((S.flp a).trn a 4).ws.length) (wls ((S.flp a).trn a 4).ws), .own vl 3 1 Q (ints ((S.flp a).trn a 4).la), .own vh 4 1 Q (bls ((S.flp a).trn a 4).ha), .blk b1 54 [.int .i64 k, .int .i64 (((a : Nat) : Int)), .int .i64 (((b : Nat) : Int))]]
  refine .dr ?_
  refine .m ?_
  refine .fa Tfo_54_1 ?_
  refine .u (.int .i64 (((a : Nat) : Int))) (.load1 Tone_3 rfl (.b (.tail _ (.tail _ (.tail _ (.tail _ (.tail _ (.head _)))))))) ?_
  refine .step rfl (.callM (H1 := [.blk r 68 [.int .i64 (((Q : Nat) : Int)), vn3, vw3, .int .i64 t, .int .i64 (((S.flp a).trn a 4).rt), vl, vh], .own vn3 52 2 (((S.flp a).trn a 4).ns.length) (nds ((S.flp a).trn a 4).ns), .own vw3 71 3 (((S.flp a).trn a 4).ws.length) (wls ((S.flp a).trn a 4).ws), .own vl 3 1 Q (ints ((S.flp a).trn a 4).la), .own vh 4 1 Q (bls ((S.flp a).trn a 4).ha)]) (H2 := [.blk b1 54 [.int .i64 k, .int .i64 (((a : Nat) : Int)), .int .i64 (((b : Nat) : Int))]]) (vs := [.pointer (some ⟨r, 0, none⟩), .int .i64 (((a : Nat) : Int))]) (caps := []) Tcall_51 rfl rfl (Weak.refl _) (fun w hs => flipR_spec ((hok.flp a).trn ha _) (by omega) ha (hs.sub (List.sublist_append_left _ _)).self) ?_)
  rintro _ _ ⟨vn4, vw4, rfl, rfl⟩
  show Run _ _ (putF _ _ _ (.tuple #[])) [.blk r 68 [.int .i64 (((Q : Nat) : Int)), vn4, vw4, .int .i64 t, .int .i64 ((((S.flp a).trn a 4).flp a).rt), vl, vh], .own vn4 52 2 ((((S.flp a).trn a 4).flp a).ns.length) (nds (((S.flp a).trn a 4).flp a).ns), .own vw4 71 3 ((((S.flp a).trn a 4).flp a).ws.length) (wls (((S.flp a).trn a 4).flp a).ws), .own vl 3 1 Q (ints (((S.flp a).trn a 4).flp a).la), .own vh 4 1 Q (bls (((S.flp a).trn a 4).flp a).ha), .blk b1 54 [.int .i64 k, .int .i64 (((a : Nat) : Int)), .int .i64 (((b : Nat) : Int))]]
  refine .done ?_
  refine .blockEnd ?_
  refine .fin ?_
  refine ⟨.tuple #[], [.blk r 68 [.int .i64 (((Q : Nat) : Int)), vn4, vw4, .int .i64 (t + DgS.tn k), .int .i64 ((S.gate k a b).rt), vl, vh], .own vn4 52 2 ((S.gate k a b).ns.length) (nds (S.gate k a b).ns), .own vw4 71 3 ((S.gate k a b).ws.length) (wls (S.gate k a b).ws), .own vl 3 1 Q (ints (S.gate k a b).la), .own vh 4 1 Q (bls (S.gate k a b).ha)], Out.none rfl, (Some'.weak (.takeEq (by first | rfl | (rw [hgt]; done) | (rw [hgt]; rfl) | (rw [hgt, htn]; done) | (rw [hgt, htn]; rfl)) (.takeEq (by first | rfl | (rw [hgt]; done) | (rw [hgt]; rfl) | (rw [hgt, htn]; done) | (rw [hgt, htn]; rfl)) (.takeEq (by first | rfl | (rw [hgt]; done) | (rw [hgt]; rfl) | (rw [hgt, htn]; done) | (rw [hgt, htn]; rfl)) (.takeEq (by first | rfl | (rw [hgt]; done) | (rw [hgt]; rfl) | (rw [hgt, htn]; done) | (rw [hgt, htn]; rfl)) (.takeEq (by first | rfl | (rw [hgt]; done) | (rw [hgt]; rfl) | (rw [hgt, htn]; done) | (rw [hgt, htn]; rfl)) (.nil _))))))), ?_⟩
  exact ⟨_, _, rfl, rfl⟩
 have p24 := h24; try simp only [bs] at p24
 refine .sr ?_
 refine .w (.bool (k == 3)) ?_
 refine .m ?_
 refine .done ?_
 refine .cond (b := k == 3) rfl (fun h38 => ?_) (fun h38 => ?_)
 ·have p38 := h38; try simp only [bs] at p38
  have hgt : S.gate k a b = (((S.trn a 4).flp a).trn a 4).flp a := by rw [DgS.gate, if_neg p18, if_neg p24, if_pos p38]
  have htn : t + DgS.tn k = t + 2 := by rw [DgS.tn, if_pos p38]
  refine .sr ?_
  refine .m ?_
  refine .fa Tfo_54_1 ?_
  refine .u (.int .i64 (((a : Nat) : Int))) (.load1 Tone_3 rfl (.b (.head _))) ?_
  refine .step rfl (.callM (H1 := [.blk r 68 [.int .i64 (((Q : Nat) : Int)), vn, vw, .int .i64 t, .int .i64 (S.rt), vl, vh], .own vn 52 2 (S.ns.length) (nds S.ns), .own vw 71 3 (S.ws.length) (wls S.ws), .own vl 3 1 Q (ints S.la), .own vh 4 1 Q (bls S.ha)]) (H2 := [.blk b1 54 [.int .i64 k, .int .i64 (((a : Nat) : Int)), .int .i64 (((b : Nat) : Int))]]) (vs := [.pointer (some ⟨r, 0, none⟩), .int .i64 (((a : Nat) : Int)), .int .i64 4]) (caps := []) Tcall_52 rfl rfl (Weak.selF [1, 1, 1, 1, 1]) (fun w hs => turnR_spec hok (by omega) ha (by decide) (hs.sub (List.sublist_append_left _ _)).self) ?_)
  rintro _ _ ⟨vn5, vw5, rfl, rfl⟩
  show Run _ _ (putF _ _ _ (.tuple #[])) [.blk r 68 [.int .i64 (((Q : Nat) : Int)), vn5, vw5, .int .i64 t, .int .i64 ((S.trn a 4).rt), vl, vh], .own vn5 52 2 ((S.trn a 4).ns.length) (nds (S.trn a 4).ns), .own vw5 71 3 ((S.trn a 4).ws.length) (wls (S.trn a 4).ws), .own vl 3 1 Q (ints (S.trn a 4).la), .own vh 4 1 Q (bls (S.trn a 4).ha), .blk b1 54 [.int .i64 k, .int .i64 (((a : Nat) : Int)), .int .i64 (((b : Nat) : Int))]]
  refine .dsr ?_
  refine .m ?_
  refine .fa Tfo_54_1 ?_
  refine .u (.int .i64 (((a : Nat) : Int))) (.load1 Tone_3 rfl (.b (.tail _ (.tail _ (.tail _ (.tail _ (.tail _ (.head _)))))))) ?_
  refine .step rfl (.callM (H1 := [.blk r 68 [.int .i64 (((Q : Nat) : Int)), vn5, vw5, .int .i64 t, .int .i64 ((S.trn a 4).rt), vl, vh], .own vn5 52 2 ((S.trn a 4).ns.length) (nds (S.trn a 4).ns), .own vw5 71 3 ((S.trn a 4).ws.length) (wls (S.trn a 4).ws), .own vl 3 1 Q (ints (S.trn a 4).la), .own vh 4 1 Q (bls (S.trn a 4).ha)]) (H2 := [.blk b1 54 [.int .i64 k, .int .i64 (((a : Nat) : Int)), .int .i64 (((b : Nat) : Int))]]) (vs := [.pointer (some ⟨r, 0, none⟩), .int .i64 (((a : Nat) : Int))]) (caps := []) Tcall_51 rfl rfl (Weak.refl _) (fun w hs => flipR_spec (hok.trn ha _) (by omega) ha (hs.sub (List.sublist_append_left _ _)).self) ?_)
  rintro _ _ ⟨vn6, vw6, rfl, rfl⟩
  show Run _ _ (putF _ _ _ (.tuple #[])) [.blk r 68 [.int .i64 (((Q : Nat) : Int)), vn6, vw6, .int .i64 t, .int .i64 (((S.trn a 4).flp a).rt), vl, vh], .own vn6 52 2 (((S.trn a 4).flp a).ns.length) (nds ((S.trn a 4).flp a).ns), .own vw6 71 3 (((S.trn a 4).flp a).ws.length) (wls ((S.trn a 4).flp a).ws), .own vl 3 1 Q (ints ((S.trn a 4).flp a).la), .own vh 4 1 Q (bls ((S.trn a 4).flp a).ha), .blk b1 54 [.int .i64 k, .int .i64 (((a : Nat) : Int)), .int .i64 (((b : Nat) : Int))]]
  refine .dsr ?_
  refine .m ?_
  refine .fa Tfo_54_1 ?_
  refine .u (.int .i64 (((a : Nat) : Int))) (.load1 Tone_3 rfl (.b (.tail _ (.tail _ (.tail _ (.tail _ (.tail _ (.head _)))))))) ?_
  refine .step rfl (.callM (H1 := [.blk r 68 [.int .i64 (((Q : Nat) : Int)), vn6, vw6, .int .i64 t, .int .i64 (((S.trn a 4).flp a).rt), vl, vh], .own vn6 52 2 (((S.trn a 4).flp a).ns.length) (nds ((S.trn a 4).flp a).ns), .own vw6 71 3 (((S.trn a 4).flp a).ws.length) (wls ((S.trn a 4).flp a).ws), .own vl 3 1 Q (ints ((S.trn a 4).flp a).la), .own vh 4 1 Q (bls ((S.trn a 4).flp a).ha)]) (H2 := [.blk b1 54 [.int .i64 k, .int .i64 (((a : Nat) : Int)), .int .i64 (((b : Nat) : Int))]]) (vs := [.pointer (some ⟨r, 0, none⟩), .int .i64 (((a : Nat) : Int)), .int .i64 4]) (caps := []) Tcall_52 rfl rfl (Weak.refl _) (fun w hs => turnR_spec ((hok.trn ha _).flp a) (by omega) ha (by decide) (hs.sub (List.sublist_append_left _ _)).self) ?_)
  rintro _ _ ⟨vn7, vw7, rfl, rfl⟩
  show Run _ _ (putF _ _ _ (.tuple #[])) [.blk r 68 [.int .i64 (((Q : Nat) : Int)), vn7, vw7, .int .i64 t, .int .i64 ((((S.trn a 4).flp a).trn a 4).rt), vl, vh], .own vn7 52 2 ((((S.trn a 4).flp a).trn a 4).ns.length) (nds (((S.trn a 4).flp a).trn a 4).ns), .own vw7 71 3 ((((S.trn a 4).flp a).trn a 4).ws.length) (wls (((S.trn a 4).flp a).trn a 4).ws), .own vl 3 1 Q (ints (((S.trn a 4).flp a).trn a 4).la), .own vh 4 1 Q (bls (((S.trn a 4).flp a).trn a 4).ha), .blk b1 54 [.int .i64 k, .int .i64 (((a : Nat) : Int)), .int .i64 (((b : Nat) : Int))]]
  refine .dsr ?_
  refine .m ?_
  refine .fa Tfo_54_1 ?_
  refine .u (.int .i64 (((a : Nat) : Int))) (.load1 Tone_3 rfl (.b (.tail _ (.tail _ (.tail _ (.tail _ (.tail _ (.head _)))))))) ?_
  refine .step rfl (.callM (H1 := [.blk r 68 [.int .i64 (((Q : Nat) : Int)), vn7, vw7, .int .i64 t, .int .i64 ((((S.trn a 4).flp a).trn a 4).rt), vl, vh], .own vn7 52 2 ((((S.trn a 4).flp a).trn a 4).ns.length) (nds (((S.trn a 4).flp a).trn a 4).ns), .own vw7 71 3 ((((S.trn a 4).flp a).trn a 4).ws.length) (wls (((S.trn a 4).flp a).trn a 4).ws), .own vl 3 1 Q (ints (((S.trn a 4).flp a).trn a 4).la), .own vh 4 1 Q (bls (((S.trn a 4).flp a).trn a 4).ha)]) (H2 := [.blk b1 54 [.int .i64 k, .int .i64 (((a : Nat) : Int)), .int .i64 (((b : Nat) : Int))]]) (vs := [.pointer (some ⟨r, 0, none⟩), .int .i64 (((a : Nat) : Int))]) (caps := []) Tcall_51 rfl rfl (Weak.refl _) (fun w hs => flipR_spec (((hok.trn ha _).flp a).trn ha _) (by omega) ha (hs.sub (List.sublist_append_left _ _)).self) ?_)
  rintro _ _ ⟨vn8, vw8, rfl, rfl⟩
  show Run _ _ (putF _ _ _ (.tuple #[])) [.blk r 68 [.int .i64 (((Q : Nat) : Int)), vn8, vw8, .int .i64 t, .int .i64 (((((S.trn a 4).flp a).trn a 4).flp a).rt), vl, vh], .own vn8 52 2 (((((S.trn a 4).flp a).trn a 4).flp a).ns.length) (nds ((((S.trn a 4).flp a).trn a 4).flp a).ns), .own vw8 71 3 (((((S.trn a 4).flp a).trn a 4).flp a).ws.length) (wls ((((S.trn a 4).flp a).trn a 4).flp a).ws), .own vl 3 1 Q (ints ((((S.trn a 4).flp a).trn a 4).flp a).la), .own vh 4 1 Q (bls ((((S.trn a 4).flp a).trn a 4).flp a).ha), .blk b1 54 [.int .i64 k, .int .i64 (((a : Nat) : Int)), .int .i64 (((b : Nat) : Int))]]
  refine .dr ?_
  refine .m ?_
  refine .u (.pointer (some ⟨r, 0, none⟩)) (.nilCheck rfl) ?_
  refine .fa Tfo_68_0 ?_
  refine .fa Tfo_29_3 ?_
  refine .u (.int .i64 t) (.load1 Tone_3 rfl (.b (.head _))) ?_
  refine .u (.int .i64 (t + 2)) (.add rfl rfl rfl (by omega) (by omega)) ?_
  refine .u (.pointer (some ⟨r, 0, none⟩)) (.nilCheck rfl) ?_
  refine .fa Tfo_68_0 ?_
  refine .fa Tfo_29_3 ?_
  refine .step rfl (.store (us := [.int .i64 (t + 2)]) Tsize_3 rfl rfl rfl (.here _) (by simp only [List.length_cons, List.length_nil]; omega) ?_)
  show Run _ _ _ [.blk r 68 [.int .i64 (((Q : Nat) : Int)), vn8, vw8, .int .i64 (t + 2), .int .i64 (((((S.trn a 4).flp a).trn a 4).flp a).rt), vl, vh], .own vn8 52 2 (((((S.trn a 4).flp a).trn a 4).flp a).ns.length) (nds ((((S.trn a 4).flp a).trn a 4).flp a).ns), .own vw8 71 3 (((((S.trn a 4).flp a).trn a 4).flp a).ws.length) (wls ((((S.trn a 4).flp a).trn a 4).flp a).ws), .own vl 3 1 Q (ints ((((S.trn a 4).flp a).trn a 4).flp a).la), .own vh 4 1 Q (bls ((((S.trn a 4).flp a).trn a 4).flp a).ha), .blk b1 54 [.int .i64 k, .int .i64 (((a : Nat) : Int)), .int .i64 (((b : Nat) : Int))]]
  refine .done ?_
  refine .blockEnd ?_
  refine .fin ?_
  refine ⟨.tuple #[], [.blk r 68 [.int .i64 (((Q : Nat) : Int)), vn8, vw8, .int .i64 (t + DgS.tn k), .int .i64 ((S.gate k a b).rt), vl, vh], .own vn8 52 2 ((S.gate k a b).ns.length) (nds (S.gate k a b).ns), .own vw8 71 3 ((S.gate k a b).ws.length) (wls (S.gate k a b).ws), .own vl 3 1 Q (ints (S.gate k a b).la), .own vh 4 1 Q (bls (S.gate k a b).ha)], Out.none rfl, (Some'.weak (.takeEq (by first | rfl | (rw [hgt]; done) | (rw [hgt]; rfl) | (rw [hgt, htn]; done) | (rw [hgt, htn]; rfl)) (.takeEq (by first | rfl | (rw [hgt]; done) | (rw [hgt]; rfl) | (rw [hgt, htn]; done) | (rw [hgt, htn]; rfl)) (.takeEq (by first | rfl | (rw [hgt]; done) | (rw [hgt]; rfl) | (rw [hgt, htn]; done) | (rw [hgt, htn]; rfl)) (.takeEq (by first | rfl | (rw [hgt]; done) | (rw [hgt]; rfl) | (rw [hgt, htn]; done) | (rw [hgt, htn]; rfl)) (.takeEq (by first | rfl | (rw [hgt]; done) | (rw [hgt]; rfl) | (rw [hgt, htn]; done) | (rw [hgt, htn]; rfl)) (.nil _))))))), ?_⟩
  exact ⟨_, _, rfl, rfl⟩
 have p38 := h38; try simp only [bs] at p38
 refine .sr ?_
 refine .w (.bool (k == 9)) ?_
 refine .m ?_
 refine .done ?_
 refine .cond (b := k == 9) rfl (fun h65 => ?_) (fun h65 => ?_)
 ·have p65 := h65; try simp only [bs] at p65
  have hgt : S.gate k a b = ((S.flp b).czd a b).flp b := by rw [DgS.gate, if_neg p18, if_neg p24, if_neg p38, if_pos p65]
  have htn : t + DgS.tn k = t := by rw [DgS.tn, if_neg (by omega), if_neg (by omega)]; omega
  refine .sr ?_
  refine .m ?_
  refine .fa Tfo_54_2 ?_
  refine .u (.int .i64 (((b : Nat) : Int))) (.load1 Tone_3 rfl (.b (.head _))) ?_
  refine .step rfl (.callM (H1 := [.blk r 68 [.int .i64 (((Q : Nat) : Int)), vn, vw, .int .i64 t, .int .i64 (S.rt), vl, vh], .own vn 52 2 (S.ns.length) (nds S.ns), .own vw 71 3 (S.ws.length) (wls S.ws), .own vl 3 1 Q (ints S.la), .own vh 4 1 Q (bls S.ha)]) (H2 := [.blk b1 54 [.int .i64 k, .int .i64 (((a : Nat) : Int)), .int .i64 (((b : Nat) : Int))]]) (vs := [.pointer (some ⟨r, 0, none⟩), .int .i64 (((b : Nat) : Int))]) (caps := []) Tcall_51 rfl rfl (Weak.selF [1, 1, 1, 1, 1]) (fun w hs => flipR_spec hok (by omega) hb (hs.sub (List.sublist_append_left _ _)).self) ?_)
  rintro _ _ ⟨vn9, vw9, rfl, rfl⟩
  show Run _ _ (putF _ _ _ (.tuple #[])) [.blk r 68 [.int .i64 (((Q : Nat) : Int)), vn9, vw9, .int .i64 t, .int .i64 ((S.flp b).rt), vl, vh], .own vn9 52 2 ((S.flp b).ns.length) (nds (S.flp b).ns), .own vw9 71 3 ((S.flp b).ws.length) (wls (S.flp b).ws), .own vl 3 1 Q (ints (S.flp b).la), .own vh 4 1 Q (bls (S.flp b).ha), .blk b1 54 [.int .i64 k, .int .i64 (((a : Nat) : Int)), .int .i64 (((b : Nat) : Int))]]
  refine .dsr ?_
  refine .m ?_
  refine .fa Tfo_54_1 ?_
  refine .u (.int .i64 (((a : Nat) : Int))) (.load1 Tone_3 rfl (.b (.tail _ (.tail _ (.tail _ (.tail _ (.tail _ (.head _)))))))) ?_
  refine .fa Tfo_54_2 ?_
  refine .u (.int .i64 (((b : Nat) : Int))) (.load1 Tone_3 rfl (.b (.tail _ (.tail _ (.tail _ (.tail _ (.tail _ (.head _)))))))) ?_
  refine .step rfl (.callM (H1 := [.blk r 68 [.int .i64 (((Q : Nat) : Int)), vn9, vw9, .int .i64 t, .int .i64 ((S.flp b).rt), vl, vh], .own vn9 52 2 ((S.flp b).ns.length) (nds (S.flp b).ns), .own vw9 71 3 ((S.flp b).ws.length) (wls (S.flp b).ws), .own vl 3 1 Q (ints (S.flp b).la), .own vh 4 1 Q (bls (S.flp b).ha)]) (H2 := [.blk b1 54 [.int .i64 k, .int .i64 (((a : Nat) : Int)), .int .i64 (((b : Nat) : Int))]]) (vs := [.pointer (some ⟨r, 0, none⟩), .int .i64 (((a : Nat) : Int)), .int .i64 (((b : Nat) : Int))]) (caps := []) Tcall_53 rfl rfl (Weak.refl _) (fun w hs => czR_spec (hok.flp b) (by omega) ha hb (hne (by omega)) (hs.sub (List.sublist_append_left _ _)).self) ?_)
  rintro _ _ ⟨vn10, vw10, rfl, rfl⟩
  show Run _ _ (putF _ _ _ (.tuple #[])) [.blk r 68 [.int .i64 (((Q : Nat) : Int)), vn10, vw10, .int .i64 t, .int .i64 (((S.flp b).czd a b).rt), vl, vh], .own vn10 52 2 (((S.flp b).czd a b).ns.length) (nds ((S.flp b).czd a b).ns), .own vw10 71 3 (((S.flp b).czd a b).ws.length) (wls ((S.flp b).czd a b).ws), .own vl 3 1 Q (ints ((S.flp b).czd a b).la), .own vh 4 1 Q (bls ((S.flp b).czd a b).ha), .blk b1 54 [.int .i64 k, .int .i64 (((a : Nat) : Int)), .int .i64 (((b : Nat) : Int))]]
  refine .dr ?_
  refine .m ?_
  refine .fa Tfo_54_2 ?_
  refine .u (.int .i64 (((b : Nat) : Int))) (.load1 Tone_3 rfl (.b (.tail _ (.tail _ (.tail _ (.tail _ (.tail _ (.head _)))))))) ?_
  refine .step rfl (.callM (H1 := [.blk r 68 [.int .i64 (((Q : Nat) : Int)), vn10, vw10, .int .i64 t, .int .i64 (((S.flp b).czd a b).rt), vl, vh], .own vn10 52 2 (((S.flp b).czd a b).ns.length) (nds ((S.flp b).czd a b).ns), .own vw10 71 3 (((S.flp b).czd a b).ws.length) (wls ((S.flp b).czd a b).ws), .own vl 3 1 Q (ints ((S.flp b).czd a b).la), .own vh 4 1 Q (bls ((S.flp b).czd a b).ha)]) (H2 := [.blk b1 54 [.int .i64 k, .int .i64 (((a : Nat) : Int)), .int .i64 (((b : Nat) : Int))]]) (vs := [.pointer (some ⟨r, 0, none⟩), .int .i64 (((b : Nat) : Int))]) (caps := []) Tcall_51 rfl rfl (Weak.refl _) (fun w hs => flipR_spec ((hok.flp b).czd ha hb) (by omega) hb (hs.sub (List.sublist_append_left _ _)).self) ?_)
  rintro _ _ ⟨vn11, vw11, rfl, rfl⟩
  show Run _ _ (putF _ _ _ (.tuple #[])) [.blk r 68 [.int .i64 (((Q : Nat) : Int)), vn11, vw11, .int .i64 t, .int .i64 ((((S.flp b).czd a b).flp b).rt), vl, vh], .own vn11 52 2 ((((S.flp b).czd a b).flp b).ns.length) (nds (((S.flp b).czd a b).flp b).ns), .own vw11 71 3 ((((S.flp b).czd a b).flp b).ws.length) (wls (((S.flp b).czd a b).flp b).ws), .own vl 3 1 Q (ints (((S.flp b).czd a b).flp b).la), .own vh 4 1 Q (bls (((S.flp b).czd a b).flp b).ha), .blk b1 54 [.int .i64 k, .int .i64 (((a : Nat) : Int)), .int .i64 (((b : Nat) : Int))]]
  refine .done ?_
  refine .blockEnd ?_
  refine .fin ?_
  refine ⟨.tuple #[], [.blk r 68 [.int .i64 (((Q : Nat) : Int)), vn11, vw11, .int .i64 (t + DgS.tn k), .int .i64 ((S.gate k a b).rt), vl, vh], .own vn11 52 2 ((S.gate k a b).ns.length) (nds (S.gate k a b).ns), .own vw11 71 3 ((S.gate k a b).ws.length) (wls (S.gate k a b).ws), .own vl 3 1 Q (ints (S.gate k a b).la), .own vh 4 1 Q (bls (S.gate k a b).ha)], Out.none rfl, (Some'.weak (.takeEq (by first | rfl | (rw [hgt]; done) | (rw [hgt]; rfl) | (rw [hgt, htn]; done) | (rw [hgt, htn]; rfl)) (.takeEq (by first | rfl | (rw [hgt]; done) | (rw [hgt]; rfl) | (rw [hgt, htn]; done) | (rw [hgt, htn]; rfl)) (.takeEq (by first | rfl | (rw [hgt]; done) | (rw [hgt]; rfl) | (rw [hgt, htn]; done) | (rw [hgt, htn]; rfl)) (.takeEq (by first | rfl | (rw [hgt]; done) | (rw [hgt]; rfl) | (rw [hgt, htn]; done) | (rw [hgt, htn]; rfl)) (.takeEq (by first | rfl | (rw [hgt]; done) | (rw [hgt]; rfl) | (rw [hgt, htn]; done) | (rw [hgt, htn]; rfl)) (.nil _))))))), ?_⟩
  exact ⟨_, _, rfl, rfl⟩
 have p65 := h65; try simp only [bs] at p65
 refine .sr ?_
 refine .w (.bool (k == 10)) ?_
 refine .m ?_
 refine .done ?_
 refine .cond (b := k == 10) rfl (fun h81 => ?_) (fun h81 => ?_)
 ·have p81 := h81; try simp only [bs] at p81
  have hgt : S.gate k a b = S.czd a b := by rw [DgS.gate, if_neg p18, if_neg p24, if_neg p38, if_neg p65, if_pos p81]
  have htn : t + DgS.tn k = t := by rw [DgS.tn, if_neg (by omega), if_neg (by omega)]; omega
  refine .region ?_
  refine .m ?_
  refine .fa Tfo_54_1 ?_
  refine .u (.int .i64 (((a : Nat) : Int))) (.load1 Tone_3 rfl (.b (.head _))) ?_
  refine .fa Tfo_54_2 ?_
  refine .u (.int .i64 (((b : Nat) : Int))) (.load1 Tone_3 rfl (.b (.head _))) ?_
  refine .step rfl (.callM (H1 := [.blk r 68 [.int .i64 (((Q : Nat) : Int)), vn, vw, .int .i64 t, .int .i64 (S.rt), vl, vh], .own vn 52 2 (S.ns.length) (nds S.ns), .own vw 71 3 (S.ws.length) (wls S.ws), .own vl 3 1 Q (ints S.la), .own vh 4 1 Q (bls S.ha)]) (H2 := [.blk b1 54 [.int .i64 k, .int .i64 (((a : Nat) : Int)), .int .i64 (((b : Nat) : Int))]]) (vs := [.pointer (some ⟨r, 0, none⟩), .int .i64 (((a : Nat) : Int)), .int .i64 (((b : Nat) : Int))]) (caps := []) Tcall_53 rfl rfl (Weak.selF [1, 1, 1, 1, 1]) (fun w hs => czR_spec hok (by omega) ha hb (hne (by omega)) (hs.sub (List.sublist_append_left _ _)).self) ?_)
  rintro _ _ ⟨vn12, vw12, rfl, rfl⟩
  show Run _ _ (putF _ _ _ (.tuple #[])) [.blk r 68 [.int .i64 (((Q : Nat) : Int)), vn12, vw12, .int .i64 t, .int .i64 ((S.czd a b).rt), vl, vh], .own vn12 52 2 ((S.czd a b).ns.length) (nds (S.czd a b).ns), .own vw12 71 3 ((S.czd a b).ws.length) (wls (S.czd a b).ws), .own vl 3 1 Q (ints (S.czd a b).la), .own vh 4 1 Q (bls (S.czd a b).ha), .blk b1 54 [.int .i64 k, .int .i64 (((a : Nat) : Int)), .int .i64 (((b : Nat) : Int))]]
  refine .done ?_
  refine .blockEnd ?_
  refine .fin ?_
  refine ⟨.tuple #[], [.blk r 68 [.int .i64 (((Q : Nat) : Int)), vn12, vw12, .int .i64 (t + DgS.tn k), .int .i64 ((S.gate k a b).rt), vl, vh], .own vn12 52 2 ((S.gate k a b).ns.length) (nds (S.gate k a b).ns), .own vw12 71 3 ((S.gate k a b).ws.length) (wls (S.gate k a b).ws), .own vl 3 1 Q (ints (S.gate k a b).la), .own vh 4 1 Q (bls (S.gate k a b).ha)], Out.none rfl, (Some'.weak (.takeEq (by first | rfl | (rw [hgt]; done) | (rw [hgt]; rfl) | (rw [hgt, htn]; done) | (rw [hgt, htn]; rfl)) (.takeEq (by first | rfl | (rw [hgt]; done) | (rw [hgt]; rfl) | (rw [hgt, htn]; done) | (rw [hgt, htn]; rfl)) (.takeEq (by first | rfl | (rw [hgt]; done) | (rw [hgt]; rfl) | (rw [hgt, htn]; done) | (rw [hgt, htn]; rfl)) (.takeEq (by first | rfl | (rw [hgt]; done) | (rw [hgt]; rfl) | (rw [hgt, htn]; done) | (rw [hgt, htn]; rfl)) (.takeEq (by first | rfl | (rw [hgt]; done) | (rw [hgt]; rfl) | (rw [hgt, htn]; done) | (rw [hgt, htn]; rfl)) (.nil _))))))), ?_⟩
  exact ⟨_, _, rfl, rfl⟩
 have p81 := h81; try simp only [bs] at p81
 refine .sr ?_
 refine .w (.bool (k == 11)) ?_
 refine .m ?_
 refine .done ?_
 refine .cond (b := k == 11) rfl (fun h89 => ?_) (fun h89 => ?_)
 ·have p89 := h89; try simp only [bs] at p89
  have hgt : S.gate k a b = S.swp a b := by rw [DgS.gate, if_neg p18, if_neg p24, if_neg p38, if_neg p65, if_neg p81, if_pos p89]
  have htn : t + DgS.tn k = t := by rw [DgS.tn, if_neg (by omega), if_neg (by omega)]; omega
  refine .seq ?_
  refine Run.openOwn (.tail _ (.tail _ (.tail _ (.tail _ (.head _))))) (by omega) (fun gl cgl hvgl hcapgl _ => ?_) (fun _ _ _ => ⟨nofun, nofun, nofun⟩)
  subst hvgl
  refine Run.openOwn (.tail _ (.tail _ (.tail _ (.tail _ (.tail _ (.head _)))))) (by omega) (fun gh cgh hvgh hcapgh _ => ?_) (fun _ _ _ => ⟨nofun, nofun, nofun⟩)
  subst hvgh
  refine .draws (by kernel_rfl) (by kernel_rfl) ?_
  refine .m ?_
  refine .u (.pointer (some ⟨r, 0, none⟩)) (.nilCheck rfl) ?_
  refine .u (.pointer (some ⟨r, 5, none⟩)) (.fieldAddr Tfo_68_1 rfl rfl) ?_
  refine .u (.slice (some ⟨gl, 0, none⟩) Q cgl) (.load1 Tone_48 rfl (.b (.tail _ (.head _)))) ?_
  refine .u (.pointer (some ⟨b1, 1, none⟩)) (.fieldAddr Tfo_54_1 rfl rfl) ?_
  refine .u (.int .i64 (((a : Nat) : Int))) (.load1 Tone_3 rfl (.b (.head _))) ?_
  refine .u (.pointer (some ⟨gl, a, none⟩)) (.ix a Tsl_48) ?_
  refine .u (.int .i64 (ix S.la (a))) (.load1 Tone_3 rfl (Cells.own0 (.tail _ (.tail _ (.tail _ (.tail _ (.head _))))) (pre1 (by omega)))) ?_
  refine .m ?_
  refine .u (.pointer (some ⟨r, 0, none⟩)) (.nilCheck rfl) ?_
  refine .u (.pointer (some ⟨r, 6, none⟩)) (.fieldAddr Tfo_68_2 rfl rfl) ?_
  refine .u (.slice (some ⟨gh, 0, none⟩) Q cgh) (.load1 Tone_47 rfl (.b (.tail _ (.head _)))) ?_
  refine .u (.pointer (some ⟨b1, 1, none⟩)) (.fieldAddr Tfo_54_1 rfl rfl) ?_
  refine .u (.int .i64 (((a : Nat) : Int))) (.load1 Tone_3 rfl (.b (.head _))) ?_
  refine .u (.pointer (some ⟨gh, a, none⟩)) (.ix a Tsl_47) ?_
  refine .u (.bool (bx (S.ha) a)) (.load1 Tone_4 rfl (Cells.own0 (.tail _ (.tail _ (.tail _ (.tail _ (.tail _ (.head _)))))) (preBl (by omega)))) ?_
  iterate 2 refine .m ?_
  refine .done ?_
  refine .seq ?_
  refine .lastly [15] (by kernel_rfl) ?_
  refine DL.m 0 rfl ?_
  refine DL.tP 1 rfl (.pointer (some ⟨r, 0, none⟩)) (fun _ => OpY.nilCheck rfl) ?_
  refine DL.tP 2 rfl (.pointer (some ⟨r, 5, none⟩)) (fun _ => OpY.fieldAddr Tfo_68_1 rfl rfl) ?_
  refine DL.t 3 rfl (Some'.weak (.take (.take (.take (.take (.take (.take (.nil _)))))))) (.slice (some ⟨gl, 0, none⟩) Q cgl) (.load1 Tone_48 rfl (.b (.tail _ (.head _)))) ?_
  refine DL.tP 4 rfl (.pointer (some ⟨b1, 1, none⟩)) (fun _ => OpY.fieldAddr Tfo_54_1 rfl rfl) ?_
  refine DL.t 5 rfl (Some'.weak (.take (.take (.take (.take (.take (.take (.nil _)))))))) (.int .i64 (((a : Nat) : Int))) (.load1 Tone_3 rfl (.b (.head _))) ?_
  refine DL.m 6 rfl ?_
  refine DL.tP 7 rfl (.pointer (some ⟨r, 0, none⟩)) (fun _ => OpY.nilCheck rfl) ?_
  refine DL.tP 8 rfl (.pointer (some ⟨r, 5, none⟩)) (fun _ => OpY.fieldAddr Tfo_68_1 rfl rfl) ?_
  refine DL.t 9 rfl (Some'.weak (.take (.take (.take (.take (.take (.take (.nil _)))))))) (.slice (some ⟨gl, 0, none⟩) Q cgl) (.load1 Tone_48 rfl (.b (.tail _ (.head _)))) ?_
  refine DL.tP 10 rfl (.pointer (some ⟨b1, 2, none⟩)) (fun _ => OpY.fieldAddr Tfo_54_2 rfl rfl) ?_
  refine DL.t 11 rfl (Some'.weak (.take (.take (.take (.take (.take (.take (.nil _)))))))) (.int .i64 (((b : Nat) : Int))) (.load1 Tone_3 rfl (.b (.head _))) ?_
  refine DL.tP 12 rfl (.pointer (some ⟨gl, b, none⟩)) (fun _ => OpY.ix b Tsl_48) ?_
  refine DL.t 13 rfl (Some'.weak (.take (.take (.take (.take (.take (.take (.nil _)))))))) (.int .i64 (ix S.la (b))) (.load1 Tone_3 rfl (Cells.own0 (.tail _ (.tail _ (.tail _ (.tail _ (.head _))))) (pre1 (by omega)))) ?_
  refine DL.tP 14 rfl (.pointer (some ⟨gl, a, none⟩)) (fun _ => OpY.ix a Tsl_48) ?_
  refine DL.step (i := 15) (by kernel_rfl) (by kernel_rfl) rfl rfl (OpStep.storeOwnInt (o := a) (a := ix S.la (b)) Tsize_3 rfl rfl (.there _ (.there _ (.there _ (.there _ (.here _))))) (by omega) ?_)
  refine DL.done (by kernel_rfl) ?_
  refine .seq ?_
  refine .lastly [15] (by kernel_rfl) ?_
  refine DL.m 0 rfl ?_
  refine DL.tP 1 rfl (.pointer (some ⟨r, 0, none⟩)) (fun _ => OpY.nilCheck rfl) ?_
  refine DL.tP 2 rfl (.pointer (some ⟨r, 6, none⟩)) (fun _ => OpY.fieldAddr Tfo_68_2 rfl rfl) ?_
  refine DL.t 3 rfl (Some'.weak (.take (.take (.take (.take (.take (.take (.nil _)))))))) (.slice (some ⟨gh, 0, none⟩) Q cgh) (.load1 Tone_47 rfl (.b (.tail _ (.head _)))) ?_
  refine DL.tP 4 rfl (.pointer (some ⟨b1, 1, none⟩)) (fun _ => OpY.fieldAddr Tfo_54_1 rfl rfl) ?_
  refine DL.t 5 rfl (Some'.weak (.take (.take (.take (.take (.take (.take (.nil _)))))))) (.int .i64 (((a : Nat) : Int))) (.load1 Tone_3 rfl (.b (.head _))) ?_
  refine DL.m 6 rfl ?_
  refine DL.tP 7 rfl (.pointer (some ⟨r, 0, none⟩)) (fun _ => OpY.nilCheck rfl) ?_
  refine DL.tP 8 rfl (.pointer (some ⟨r, 6, none⟩)) (fun _ => OpY.fieldAddr Tfo_68_2 rfl rfl) ?_
  refine DL.t 9 rfl (Some'.weak (.take (.take (.take (.take (.take (.take (.nil _)))))))) (.slice (some ⟨gh, 0, none⟩) Q cgh) (.load1 Tone_47 rfl (.b (.tail _ (.head _)))) ?_
  refine DL.tP 10 rfl (.pointer (some ⟨b1, 2, none⟩)) (fun _ => OpY.fieldAddr Tfo_54_2 rfl rfl) ?_
  refine DL.t 11 rfl (Some'.weak (.take (.take (.take (.take (.take (.take (.nil _)))))))) (.int .i64 (((b : Nat) : Int))) (.load1 Tone_3 rfl (.b (.head _))) ?_
  refine DL.tP 12 rfl (.pointer (some ⟨gh, b, none⟩)) (fun _ => OpY.ix b Tsl_47) ?_
  refine DL.t 13 rfl (Some'.weak (.take (.take (.take (.take (.take (.take (.nil _)))))))) (.bool (bx (S.ha) b)) (.load1 Tone_4 rfl (Cells.own0 (.tail _ (.tail _ (.tail _ (.tail _ (.tail _ (.head _)))))) (preBl (by omega)))) ?_
  refine DL.tP 14 rfl (.pointer (some ⟨gh, a, none⟩)) (fun _ => OpY.ix a Tsl_47) ?_
  refine DL.step (i := 15) (by kernel_rfl) (by kernel_rfl) rfl rfl (OpStep.storeOwnB (o := a) (a := bx (S.ha) b) Tsize_4 rfl rfl (.there _ (.there _ (.there _ (.there _ (.there _ (.here _)))))) (by omega) ?_)
  refine DL.done (by kernel_rfl) ?_
  refine .seq ?_
  refine .lastly [8] (by kernel_rfl) ?_
  refine DL.m 0 rfl ?_
  refine DL.tP 1 rfl (.pointer (some ⟨r, 0, none⟩)) (fun _ => OpY.nilCheck rfl) ?_
  refine DL.tP 2 rfl (.pointer (some ⟨r, 5, none⟩)) (fun _ => OpY.fieldAddr Tfo_68_1 rfl rfl) ?_
  refine DL.t 3 rfl (Some'.weak (.take (.take (.take (.take (.take (.take (.nil _)))))))) (.slice (some ⟨gl, 0, none⟩) Q cgl) (.load1 Tone_48 rfl (.b (.tail _ (.head _)))) ?_
  refine DL.tP 4 rfl (.pointer (some ⟨b1, 2, none⟩)) (fun _ => OpY.fieldAddr Tfo_54_2 rfl rfl) ?_
  refine DL.t 5 rfl (Some'.weak (.take (.take (.take (.take (.take (.take (.nil _)))))))) (.int .i64 (((b : Nat) : Int))) (.load1 Tone_3 rfl (.b (.head _))) ?_
  refine DL.m 6 rfl ?_
  refine DL.tP 7 rfl (.pointer (some ⟨gl, b, none⟩)) (fun _ => OpY.ix b Tsl_48) ?_
  refine DL.step (i := 8) (by kernel_rfl) (by kernel_rfl) rfl rfl (OpStep.storeOwnInt (o := b) (a := ix S.la (a)) Tsize_3 rfl rfl (.there _ (.there _ (.there _ (.there _ (.here _))))) (by omega) ?_)
  refine DL.done (by kernel_rfl) ?_
  refine .lastly [8] (by kernel_rfl) ?_
  refine DL.m 0 rfl ?_
  refine DL.tP 1 rfl (.pointer (some ⟨r, 0, none⟩)) (fun _ => OpY.nilCheck rfl) ?_
  refine DL.tP 2 rfl (.pointer (some ⟨r, 6, none⟩)) (fun _ => OpY.fieldAddr Tfo_68_2 rfl rfl) ?_
  refine DL.t 3 rfl (Some'.weak (.take (.take (.take (.take (.take (.take (.nil _)))))))) (.slice (some ⟨gh, 0, none⟩) Q cgh) (.load1 Tone_47 rfl (.b (.tail _ (.head _)))) ?_
  refine DL.tP 4 rfl (.pointer (some ⟨b1, 2, none⟩)) (fun _ => OpY.fieldAddr Tfo_54_2 rfl rfl) ?_
  refine DL.t 5 rfl (Some'.weak (.take (.take (.take (.take (.take (.take (.nil _)))))))) (.int .i64 (((b : Nat) : Int))) (.load1 Tone_3 rfl (.b (.head _))) ?_
  refine DL.m 6 rfl ?_
  refine DL.tP 7 rfl (.pointer (some ⟨gh, b, none⟩)) (fun _ => OpY.ix b Tsl_47) ?_
  refine DL.step (i := 8) (by kernel_rfl) (by kernel_rfl) rfl rfl (OpStep.storeOwnB (o := b) (a := bx (S.ha) a) Tsize_4 rfl rfl (.there _ (.there _ (.there _ (.there _ (.there _ (.here _)))))) (by omega) ?_)
  refine DL.done (by kernel_rfl) ?_
  refine .blockEnd ?_
  refine .fin ?_
  refine ⟨.tuple #[], [.blk r 68 [.int .i64 (((Q : Nat) : Int)), vn, vw, .int .i64 (t + DgS.tn k), .int .i64 ((S.gate k a b).rt), .slice (some ⟨gl, 0, none⟩) Q cgl, .slice (some ⟨gh, 0, none⟩) Q cgh], .own vn 52 2 ((S.gate k a b).ns.length) (nds (S.gate k a b).ns), .own vw 71 3 ((S.gate k a b).ws.length) (wls (S.gate k a b).ws), .own (.slice (some ⟨gl, 0, none⟩) Q cgl) 3 1 Q (ints (S.gate k a b).la), .own (.slice (some ⟨gh, 0, none⟩) Q cgh) 4 1 Q (bls (S.gate k a b).ha)], Out.none rfl, (Some'.weak (.skip (.takeEq (by first | rfl | (rw [hgt]; done) | (rw [hgt]; rfl) | (rw [hgt, htn]; done) | (rw [hgt, htn]; rfl)) (.takeEq (by first | rfl | (rw [hgt]; done) | (rw [hgt]; rfl) | (rw [hgt, htn]; done) | (rw [hgt, htn]; rfl)) (.takeEq (by first | rfl | (rw [hgt]; done) | (rw [hgt]; rfl) | (rw [hgt, htn]; done) | (rw [hgt, htn]; rfl)) (.takeEq (by first | rfl | (rw [hgt]; done) | (rw [hgt]; rfl) | (rw [hgt, htn]; done) | (rw [hgt, htn]; rfl)) (.takeEq (by first | rfl | (rw [hgt]; done) | (rw [hgt]; rfl) | (rw [hgt, htn]; done) | (rw [hgt, htn]; rfl)) (.nil _)))))))), ?_⟩
  exact ⟨_, _, rfl, rfl⟩
 have p89 := h89; try simp only [bs] at p89
 refine .sr ?_
 refine .w (.bool (k == 12)) ?_
 refine .m ?_
 refine .done ?_
 refine .cond (b := k == 12) rfl (fun h153 => ?_) (fun h153 => ?_)
 ·have p153 := h153; try simp only [bs] at p153
  have hgt : S.gate k a b = S := by rw [DgS.gate, if_neg p18, if_neg p24, if_neg p38, if_neg p65, if_neg p81, if_neg p89, if_pos p153]
  have htn : t + DgS.tn k = t + 1 := by rw [DgS.tn, if_neg (by omega), if_pos p153]
  refine .region ?_
  refine .m ?_
  refine .u (.pointer (some ⟨r, 0, none⟩)) (.nilCheck rfl) ?_
  refine .fa Tfo_68_0 ?_
  refine .fa Tfo_29_3 ?_
  refine .u (.int .i64 t) (.load1 Tone_3 rfl (.b (.tail _ (.head _)))) ?_
  refine .u (.int .i64 (t + 1)) (.add rfl rfl rfl (by omega) (by omega)) ?_
  refine .u (.pointer (some ⟨r, 0, none⟩)) (.nilCheck rfl) ?_
  refine .fa Tfo_68_0 ?_
  refine .fa Tfo_29_3 ?_
  refine .step rfl (.store (us := [.int .i64 (t + 1)]) Tsize_3 rfl rfl rfl (.there _ (.here _)) (by simp only [List.length_cons, List.length_nil]; omega) ?_)
  show Run _ _ _ [.blk b1 54 [.int .i64 k, .int .i64 (((a : Nat) : Int)), .int .i64 (((b : Nat) : Int))], .blk r 68 [.int .i64 (((Q : Nat) : Int)), vn, vw, .int .i64 (t + 1), .int .i64 (S.rt), vl, vh], .own vn 52 2 (S.ns.length) (nds S.ns), .own vw 71 3 (S.ws.length) (wls S.ws), .own vl 3 1 Q (ints S.la), .own vh 4 1 Q (bls S.ha)]
  refine .done ?_
  refine .blockEnd ?_
  refine .fin ?_
  refine ⟨.tuple #[], [.blk r 68 [.int .i64 (((Q : Nat) : Int)), vn, vw, .int .i64 (t + DgS.tn k), .int .i64 ((S.gate k a b).rt), vl, vh], .own vn 52 2 ((S.gate k a b).ns.length) (nds (S.gate k a b).ns), .own vw 71 3 ((S.gate k a b).ws.length) (wls (S.gate k a b).ws), .own vl 3 1 Q (ints (S.gate k a b).la), .own vh 4 1 Q (bls (S.gate k a b).ha)], Out.none rfl, (Some'.weak (.skip (.takeEq (by first | rfl | (rw [hgt]; done) | (rw [hgt]; rfl) | (rw [hgt, htn]; done) | (rw [hgt, htn]; rfl)) (.takeEq (by first | rfl | (rw [hgt]; done) | (rw [hgt]; rfl) | (rw [hgt, htn]; done) | (rw [hgt, htn]; rfl)) (.takeEq (by first | rfl | (rw [hgt]; done) | (rw [hgt]; rfl) | (rw [hgt, htn]; done) | (rw [hgt, htn]; rfl)) (.takeEq (by first | rfl | (rw [hgt]; done) | (rw [hgt]; rfl) | (rw [hgt, htn]; done) | (rw [hgt, htn]; rfl)) (.takeEq (by first | rfl | (rw [hgt]; done) | (rw [hgt]; rfl) | (rw [hgt, htn]; done) | (rw [hgt, htn]; rfl)) (.nil _)))))))), ?_⟩
  exact ⟨_, _, rfl, rfl⟩
 have p153 := h153; try simp only [bs] at p153
 have hgt : S.gate k a b = S.trn a (DgS.rot k) := by rw [DgS.gate, if_neg p18, if_neg p24, if_neg p38, if_neg p65, if_neg p81, if_neg p89, if_neg p153]
 have htn : t + DgS.tn k = t := by rw [DgS.tn, if_neg (by omega), if_neg (by omega)]; omega
 have hk4 : 4 ≤ k ∧ k ≤ 8 := by omega
 refine Run.lastlyM [3, 8, 9] [.blk b1 54 [.int .i64 k, .int .i64 (((a : Nat) : Int)), .int .i64 (((b : Nat) : Int))]] [.blk b1 54 [.int .i64 k, .int .i64 (((a : Nat) : Int)), .int .i64 (((b : Nat) : Int))]] (by kernel_rfl) ?_
 refine DM.m 0 rfl ?_
 refine DM.tP 1 rfl (.pointer (some ⟨b1, 1, none⟩)) (fun _ => OpY.fieldAddr Tfo_54_1 rfl rfl) ?_
 refine DM.t0 2 rfl (Some'.weak (.take (.nil _))) (.int .i64 (((a : Nat) : Int))) (OpY.load1 Tone_3 rfl (.b (.head _))) ?_
 refine DM.tP 4 rfl (.pointer (some ⟨b1, 0, none⟩)) (fun _ => OpY.fieldAddr Tfo_54_0 rfl rfl) ?_
 refine DM.t0 5 rfl (Some'.weak (.take (.nil _))) (.int .i64 k) (OpY.load1 Tone_3 rfl (.b (.head _))) ?_
 refine DM.tP 6 rfl (.int .i64 (k - 4)) (fun _ => OpY.sub rfl rfl rfl (by omega) (by omega)) ?_
 refine DM.step (i := 3) (by kernel_rfl) (by kernel_rfl) rfl rfl (OpStep.buildSlice (us := [.int .i64 4, .int .i64 2, .int .i64 6, .int .i64 1, .int .i64 7]) Tsl_48 (by decide) (by decide) ⟨rfl, [.int .i64 4], _, rfl, rfl, rfl, ⟨rfl, [.int .i64 2], _, rfl, rfl, rfl, ⟨rfl, [.int .i64 6], _, rfl, rfl, rfl, ⟨rfl, [.int .i64 1], _, rfl, rfl, rfl, ⟨rfl, [.int .i64 7], _, rfl, rfl, rfl, rfl⟩⟩⟩⟩⟩ rfl fun b2 => ?_)
 refine ⟨(Some'.weak (.skip (.take (.nil _)))), ?_⟩
 refine DM.tP 7 rfl (.pointer (some ⟨b2, (k - 4).toNat, none⟩)) (fun _ => OpY.ix ((k - 4).toNat) Tsl_48) ?_
 refine DM.step (i := 8) (by kernel_rfl) (by kernel_rfl) rfl rfl (OpStep.q (v := .int .i64 (DgS.rot k)) (OpQ.y (OpY.load1 Tone_3 rfl (Cells.own0 (.head _) (rot_pre hk4)))) ?_)
 refine ⟨(Some'.weak (.skip (.take (.nil _)))), ?_⟩
 refine DM.step (i := 9) (by kernel_rfl) (by kernel_rfl) rfl rfl (OpStep.callM (H1 := [.blk r 68 [.int .i64 (((Q : Nat) : Int)), vn, vw, .int .i64 t, .int .i64 (S.rt), vl, vh], .own vn 52 2 (S.ns.length) (nds S.ns), .own vw 71 3 (S.ws.length) (wls S.ws), .own vl 3 1 Q (ints S.la), .own vh 4 1 Q (bls S.ha)]) (H2 := [.own (.slice (some ⟨b2, 0, none⟩) 5 5) 3 1 5 ([.int .i64 4, .int .i64 2, .int .i64 6, .int .i64 1, .int .i64 7]), .blk b1 54 [.int .i64 k, .int .i64 (((a : Nat) : Int)), .int .i64 (((b : Nat) : Int))]]) (vs := [.pointer (some ⟨r, 0, none⟩), .int .i64 (((a : Nat) : Int)), .int .i64 (DgS.rot k)]) (caps := []) Tcall_52 rfl rfl (Weak.selF [2, 2, 2, 2, 2]) (fun w hs => turnR_spec hok (by omega) ha hrb (hs.sub (List.sublist_append_left _ _)).self) ?_)
 rintro _ _ ⟨vn13, vw13, rfl, rfl⟩
 refine ⟨(Some'.weak (.skip (.skip (.skip (.skip (.skip (.skip (.take (.nil _))))))))), ?_⟩
 refine DM.done (by kernel_rfl) ?_
 refine .blockEnd ?_
 refine .fin ?_
 refine ⟨.tuple #[], [.blk r 68 [.int .i64 (((Q : Nat) : Int)), vn13, vw13, .int .i64 (t + DgS.tn k), .int .i64 ((S.gate k a b).rt), vl, vh], .own vn13 52 2 ((S.gate k a b).ns.length) (nds (S.gate k a b).ns), .own vw13 71 3 ((S.gate k a b).ws.length) (wls (S.gate k a b).ws), .own vl 3 1 Q (ints (S.gate k a b).la), .own vh 4 1 Q (bls (S.gate k a b).ha)], Out.none rfl, (Some'.weak (.takeEq (by first | rfl | (rw [hgt]; done) | (rw [hgt]; rfl) | (rw [hgt, htn]; done) | (rw [hgt, htn]; rfl)) (.takeEq (by first | rfl | (rw [hgt]; done) | (rw [hgt]; rfl) | (rw [hgt, htn]; done) | (rw [hgt, htn]; rfl)) (.takeEq (by first | rfl | (rw [hgt]; done) | (rw [hgt]; rfl) | (rw [hgt, htn]; done) | (rw [hgt, htn]; rfl)) (.takeEq (by first | rfl | (rw [hgt]; done) | (rw [hgt]; rfl) | (rw [hgt, htn]; done) | (rw [hgt, htn]; rfl)) (.takeEq (by first | rfl | (rw [hgt]; done) | (rw [hgt]; rfl) | (rw [hgt, htn]; done) | (rw [hgt, htn]; rfl)) (.nil _))))))), ?_⟩
 exact ⟨_, _, rfl, rfl⟩

end Go.Proofs.Ytnnkoeknejeieaa
