/- Walks: the program draws nodes and wires. -/
import Derived.Test.YtnnkoeknejeieaaZde
import Derived.Test.YtnnkoeknejeieaaProg
set_option linter.unusedSimpArgs false
set_option linter.unusedVariables false
namespace Go.Proofs.Ytnnkoeknejeieaa
open Go Go.RowKit
namespace ZdfT
theorem Tagg_29 : aggOf Try.prog 29 = some 5 := by kernel_rfl
theorem Tagg_52 : aggOf Try.prog 52 = some 2 := by kernel_rfl
theorem Tcall_20 : callable Try.prog 20 = true := by kernel_rfl
theorem Tcall_46 : callable Try.prog 46 = true := by kernel_rfl
theorem Tcall_58 : callable Try.prog 58 = true := by kernel_rfl
theorem Tcall_59 : callable Try.prog 59 = true := by kernel_rfl
theorem Tcall_60 : callable Try.prog 60 = true := by kernel_rfl
theorem Tfo_29_1 : fieldOff Try.prog 29 1 = some 1 := by kernel_rfl
theorem Tfo_29_4 : fieldOff Try.prog 29 4 = some 4 := by kernel_rfl
theorem Tfo_50_0 : fieldOff Try.prog 50 0 = some 0 := by kernel_rfl
theorem Tfo_50_1 : fieldOff Try.prog 50 1 = some 5 := by kernel_rfl
theorem Tfo_50_2 : fieldOff Try.prog 50 2 = some 6 := by kernel_rfl
theorem Tfo_52_0 : fieldOff Try.prog 52 0 = some 0 := by kernel_rfl
theorem Tfo_52_1 : fieldOff Try.prog 52 1 = some 1 := by kernel_rfl
theorem Tone_26 : oneOf Try.prog 26 = true := by kernel_rfl
theorem Tone_3 : oneOf Try.prog 3 = true := by kernel_rfl
theorem Tone_4 : oneOf Try.prog 4 = true := by kernel_rfl
theorem Tone_47 : oneOf Try.prog 47 = true := by kernel_rfl
theorem Tone_48 : oneOf Try.prog 48 = true := by kernel_rfl
theorem Tsize_26 : (Try.prog.info? 26).map (·.size) = some 1 := by kernel_rfl
theorem Tsize_3 : (Try.prog.info? 3).map (·.size) = some 1 := by kernel_rfl
theorem Tsize_4 : (Try.prog.info? 4).map (·.size) = some 1 := by kernel_rfl
theorem Tsl_26 : sliceOf Try.prog 26 = some (52, 2, 16, [.int .i64 0, .int .i64 0]) := by kernel_rfl
theorem Tsl_47 : sliceOf Try.prog 47 = some (4, 1, 1, [.bool false]) := by kernel_rfl
theorem Tsl_48 : sliceOf Try.prog 48 = some (3, 1, 8, [.int .i64 0]) := by kernel_rfl
end ZdfT
open ZdfT
set_option maxHeartbeats 1000000 in
set_option maxRecDepth 20000 in
theorem flip_spec {r Q m : Nat} {t : Int} {vn vw vl vh : Value} {S : DgS} {w : World} (hok : S.Ok Q m) (hm : m ≤ 100000) {q : Nat} (hq : q < Q) (h : St (Of [.blk r 50 [.int .i64 (((Q : Nat) : Int)), vn, vw, .int .i64 t, .int .i64 (S.rt), vl, vh], .own vn 52 2 (S.ns.length) (nds S.ns), .own vw 71 3 (S.ws.length) (wls S.ws), .own vl 3 1 Q (ints S.la), .own vh 4 1 Q (bls S.ha)]) w w [.blk r 50 [.int .i64 (((Q : Nat) : Int)), vn, vw, .int .i64 t, .int .i64 (S.rt), vl, vh], .own vn 52 2 (S.ns.length) (nds S.ns), .own vw 71 3 (S.ws.length) (wls S.ws), .own vl 3 1 Q (ints S.la), .own vh 4 1 Q (bls S.ha)]) : Calls Try.prog 42 #[.pointer (some ⟨r, 0, none⟩), .int .i64 (q : Nat)] w (Post (Of [.blk r 50 [.int .i64 (((Q : Nat) : Int)), vn, vw, .int .i64 t, .int .i64 (S.rt), vl, vh], .own vn 52 2 (S.ns.length) (nds S.ns), .own vw 71 3 (S.ws.length) (wls S.ws), .own vl 3 1 Q (ints S.la), .own vh 4 1 Q (bls S.ha)]) w fun v H => ∃ vn2 vw2, v = .tuple #[] ∧ H = [.blk r 50 [.int .i64 (((Q : Nat) : Int)), vn2, vw2, .int .i64 t, .int .i64 ((S.flp q).rt), vl, vh], .own vn2 52 2 ((S.flp q).ns.length) (nds (S.flp q).ns), .own vw2 71 3 ((S.flp q).ws.length) (wls (S.flp q).ws), .own vl 3 1 Q (ints (S.flp q).la), .own vh 4 1 Q (bls (S.flp q).ha)]) := by
 have hla := hok.la
 have hha := hok.ha
 have hbn := hok.bn
 have hbw := hok.bw
 have hbr := hok.br
 have hrq := hok.rng q hq
 
 refine enter (n := 18) (args := [.pointer (some ⟨r, 0, none⟩), .int .i64 (((q : Nat) : Int))]) Try.func42 rfl rfl (h) ?_
 refine Run.openOwn (.tail _ (.tail _ (.tail _ (.tail _ (.head _))))) (by omega) (fun gh cgh hvgh hcapgh _ => ?_) (fun _ _ _ => ⟨nofun, nofun, nofun⟩)
 subst hvgh
 refine .lastly [14] (by kernel_rfl) ?_
 refine DL.m 0 rfl ?_
 refine DL.tP 1 rfl (.pointer (some ⟨r, 0, none⟩)) (fun _ => OpY.nilCheck rfl) ?_
 refine DL.tP 2 rfl (.pointer (some ⟨r, 6, none⟩)) (fun _ => OpY.fieldAddr Tfo_50_2 rfl rfl) ?_
 refine DL.t 3 rfl (Some'.weak (.take (.take (.take (.take (.take (.nil _))))))) (.slice (some ⟨gh, 0, none⟩) Q cgh) (.load1 Tone_47 rfl (.b (.head _))) ?_
 refine DL.m 4 rfl ?_
 refine DL.m 5 rfl ?_
 refine DL.tP 6 rfl (.pointer (some ⟨r, 0, none⟩)) (fun _ => OpY.nilCheck rfl) ?_
 refine DL.tP 7 rfl (.pointer (some ⟨r, 6, none⟩)) (fun _ => OpY.fieldAddr Tfo_50_2 rfl rfl) ?_
 refine DL.t 8 rfl (Some'.weak (.take (.take (.take (.take (.take (.nil _))))))) (.slice (some ⟨gh, 0, none⟩) Q cgh) (.load1 Tone_47 rfl (.b (.head _))) ?_
 refine DL.m 9 rfl ?_
 refine DL.tP 10 rfl (.pointer (some ⟨gh, q, none⟩)) (fun _ => OpY.ix q Tsl_47) ?_
 refine DL.t 11 rfl (Some'.weak (.take (.take (.take (.take (.take (.nil _))))))) (.bool (bx (S.ha) q)) (.load1 Tone_4 rfl (Cells.own0 (.tail _ (.tail _ (.tail _ (.tail _ (.head _))))) (preBl (by omega)))) ?_
 refine DL.tP 12 rfl (.bool (!(bx (S.ha) q))) (fun _ => OpY.pure rfl) ?_
 refine DL.tP 13 rfl (.pointer (some ⟨gh, q, none⟩)) (fun _ => OpY.ix q Tsl_47) ?_
 refine DL.step (i := 14) (by kernel_rfl) (by kernel_rfl) rfl rfl (OpStep.storeOwnB (o := q) (a := !(bx (S.ha) q)) Tsize_4 rfl rfl (.there _ (.there _ (.there _ (.there _ (.here _))))) (by omega) ?_)
 refine DL.done (by kernel_rfl) ?_
 refine .fin ?_
 refine ⟨.tuple #[], [.blk r 50 [.int .i64 (((Q : Nat) : Int)), vn, vw, .int .i64 t, .int .i64 ((S.flp q).rt), vl, .slice (some ⟨gh, 0, none⟩) Q cgh], .own vn 52 2 ((S.flp q).ns.length) (nds (S.flp q).ns), .own vw 71 3 ((S.flp q).ws.length) (wls (S.flp q).ws), .own vl 3 1 Q (ints (S.flp q).la), .own (.slice (some ⟨gh, 0, none⟩) Q cgh) 4 1 Q (bls (S.flp q).ha)], Out.none rfl, (Some'.weak (.takeEq (by first | rfl | simp) (.takeEq (by first | rfl | simp) (.takeEq (by first | rfl | simp) (.takeEq (by first | rfl | simp) (.takeEq (by first | rfl | simp) (.nil _))))))), ?_⟩
 exact ⟨_, _, rfl, rfl⟩

set_option maxHeartbeats 1000000 in
set_option maxRecDepth 20000 in
theorem append_spec {r Q m : Nat} {t : Int} {vn vw vl vh : Value} {S : DgS} {w : World} (hok : S.Ok Q m) (hm : m ≤ 100000) {q : Nat} {x1 x2 : Int} (hq : q < Q) (h : St (Of [.blk r 50 [.int .i64 (((Q : Nat) : Int)), vn, vw, .int .i64 t, .int .i64 (S.rt), vl, vh], .own vn 52 2 (S.ns.length) (nds S.ns), .own vw 71 3 (S.ws.length) (wls S.ws), .own vl 3 1 Q (ints S.la), .own vh 4 1 Q (bls S.ha)]) w w [.blk r 50 [.int .i64 (((Q : Nat) : Int)), vn, vw, .int .i64 t, .int .i64 (S.rt), vl, vh], .own vn 52 2 (S.ns.length) (nds S.ns), .own vw 71 3 (S.ws.length) (wls S.ws), .own vl 3 1 Q (ints S.la), .own vh 4 1 Q (bls S.ha)]) : Calls Try.prog 20 #[.pointer (some ⟨r, 0, none⟩), .int .i64 (q : Nat), .agg #[.int .i64 x1, .int .i64 x2]] w (Post (Of [.blk r 50 [.int .i64 (((Q : Nat) : Int)), vn, vw, .int .i64 t, .int .i64 (S.rt), vl, vh], .own vn 52 2 (S.ns.length) (nds S.ns), .own vw 71 3 (S.ws.length) (wls S.ws), .own vl 3 1 Q (ints S.la), .own vh 4 1 Q (bls S.ha)]) w fun v H => ∃ vn2 vw2, v = .tuple #[] ∧ H = [.blk r 50 [.int .i64 (((Q : Nat) : Int)), vn2, vw2, .int .i64 t, .int .i64 ((S.app q (x1, x2)).rt), vl, vh], .own vn2 52 2 ((S.app q (x1, x2)).ns.length) (nds (S.app q (x1, x2)).ns), .own vw2 71 3 ((S.app q (x1, x2)).ws.length) (wls (S.app q (x1, x2)).ws), .own vl 3 1 Q (ints (S.app q (x1, x2)).la), .own vh 4 1 Q (bls (S.app q (x1, x2)).ha)]) := by
 have hla := hok.la
 have hha := hok.ha
 have hbn := hok.bn
 have hbw := hok.bw
 have hbr := hok.br
 have hrq := hok.rng q hq
 
 refine enter (n := 58) (args := [.pointer (some ⟨r, 0, none⟩), .int .i64 (((q : Nat) : Int)), .agg #[.int .i64 x1, .int .i64 x2]]) Try.func20 rfl rfl (h) ?_
 refine .sr ?_
 refine .step rfl (.box (us := [.int .i64 x1, .int .i64 x2]) rfl fun b1 => ?_)
 refine .done ?_
 refine .seq ?_
 refine .lastlyB [12] [.blk b1 52 [.int .i64 x1, .int .i64 x2], .blk r 50 [.int .i64 (((Q : Nat) : Int)), vn, vw, .int .i64 t, .int .i64 (S.rt), vl, vh]] (by kernel_rfl) ?_
 refine DL.m 0 rfl ?_
 refine DL.m 1 rfl ?_
 refine DL.tP 2 rfl (.pointer (some ⟨r, 0, none⟩)) (fun _ => OpY.nilCheck rfl) ?_
 refine DL.tP 3 rfl (.pointer (some ⟨r, 0, none⟩)) (fun _ => OpY.fieldAddr Tfo_50_0 rfl rfl) ?_
 refine DL.tP 4 rfl (.pointer (some ⟨r, 1, none⟩)) (fun _ => OpY.fieldAddr Tfo_29_1 rfl rfl) ?_
 refine DL.tT 5 rfl (Some'.weak (.take (.take (.nil _)))) vn (.load1 Tone_26 rfl (.b (.tail _ (.head _)))) ?_
 refine DL.tT 6 rfl (Some'.weak (.take (.take (.nil _)))) (.agg #[.int .i64 x1, .int .i64 x2]) (.loadN (cs := [.int .i64 x1, .int .i64 x2]) Tagg_52 rfl (Cells.blk (.head _) ⟨rfl, rfl, trivial⟩)) ?_
 refine DL.stepS (i := 7) (by kernel_rfl) rfl rfl (OpStep.buildSlice (us := [.int .i64 x1, .int .i64 x2]) Tsl_26 (by decide) (by decide) ⟨rfl, [.int .i64 x1, .int .i64 x2], _, rfl, rfl, rfl, rfl⟩ rfl fun b2 => ?_)
 refine ⟨(Some'.weak (.skip (.take (.take (.nil _))))), ?_⟩
 refine DL.stepS (i := 8) (by kernel_rfl) rfl rfl (OpStep.append (H1 := [.own (.slice (some ⟨b2, 0, none⟩) 1 1) 52 2 1 ([.int .i64 x1, .int .i64 x2]), .blk b1 52 [.int .i64 x1, .int .i64 x2], .blk r 50 [.int .i64 (((Q : Nat) : Int)), vn, vw, .int .i64 t, .int .i64 (S.rt), vl, vh]]) (H2 := [.own vw 71 3 (S.ws.length) (wls S.ws), .own vl 3 1 Q (ints S.la), .own vh 4 1 Q (bls S.ha)]) (v := vn) (u := .slice (some ⟨b2, 0, none⟩) 1 1) (n := S.ns.length) (m := 1) (xs := nds S.ns) (ys := [.int .i64 x1, .int .i64 x2]) Tsl_26 (by decide) rfl rfl rfl rfl (fun w hs => hs.slOwn (.head _)) (by simp [Value.oneCell']) (by omega) (by simp only [maxLen]; omega) fun av1 hnav1 => ?_)
 refine DL.weakS (H' := [.own (.slice (some ⟨b2, 0, none⟩) 1 1) 52 2 1 ([.int .i64 x1, .int .i64 x2]), .blk b1 52 [.int .i64 x1, .int .i64 x2], .blk r 50 [.int .i64 (((Q : Nat) : Int)), vn, vw, .int .i64 t, .int .i64 (S.rt), vl, vh], .own av1 52 2 (S.ns.length + 1) (nds (S.ns ++ [(x1, x2)])), .own vw 71 3 (S.ws.length) (wls S.ws), .own vl 3 1 Q (ints S.la), .own vh 4 1 Q (bls S.ha)]) (Some'.weak (.take (.take (.take (.takeEq (by rw [nds_append, nds_one]) (.take (.take (.take (.nil _))))))))) ?_
 refine ⟨(Some'.weak (.skip (.take (.take (.nil _))))), ?_⟩
 refine DL.tP 9 rfl (.pointer (some ⟨r, 0, none⟩)) (fun _ => OpY.nilCheck rfl) ?_
 refine DL.tP 10 rfl (.pointer (some ⟨r, 0, none⟩)) (fun _ => OpY.fieldAddr Tfo_50_0 rfl rfl) ?_
 refine DL.tP 11 rfl (.pointer (some ⟨r, 1, none⟩)) (fun _ => OpY.fieldAddr Tfo_29_1 rfl rfl) ?_
 refine DL.formOwn (.tail _ (.tail _ (.tail _ (.head _)))) (fun A_av11 c_av11 hv hcapc_av11 hmaxc_av11 => ?_)
 subst hv
 refine DL.step (i := 12) (by kernel_rfl) (by kernel_rfl) rfl rfl (OpStep.store (us := [.slice A_av11 (S.ns.length + 1) c_av11]) Tsize_26 rfl rfl rfl (.there _ (.there _ (.here _))) (by simp only [List.length_cons, List.length_nil]; omega) ?_)
 show DL _ _ _ _ _ _ _ _ [.own (.slice (some ⟨b2, 0, none⟩) 1 1) 52 2 1 ([.int .i64 x1, .int .i64 x2]), .blk b1 52 [.int .i64 x1, .int .i64 x2], .blk r 50 [.int .i64 (((Q : Nat) : Int)), .slice A_av11 (S.ns.length + 1) c_av11, vw, .int .i64 t, .int .i64 (S.rt), vl, vh], .own (.slice A_av11 (S.ns.length + 1) c_av11) 52 2 (S.ns.length + 1) (nds (S.ns ++ [(x1, x2)])), .own vw 71 3 (S.ws.length) (wls S.ws), .own vl 3 1 Q (ints S.la), .own vh 4 1 Q (bls S.ha)]
 refine DL.done (by kernel_rfl) ?_
 refine .sr ?_
 refine .m ?_
 refine .u (.pointer (some ⟨r, 0, none⟩)) (.nilCheck rfl) ?_
 refine .fa Tfo_50_0 ?_
 refine .fa Tfo_29_1 ?_
 refine .u (.slice A_av11 (S.ns.length + 1) c_av11) (.load1 Tone_26 rfl (.b (.tail _ (.tail _ (.head _))))) ?_
 refine .u (.int .i64 (((S.ns.length + 1 : Nat) : Int))) (.len Tsl_26 rfl) ?_
 refine .u (.int .i64 (((S.ns.length : Nat) : Int))) (.sub rfl rfl (by omega) (by omega) (by omega)) ?_
 refine .m ?_
 refine .done ?_
 refine .seq ?_
 refine Run.openOwn (.tail _ (.tail _ (.tail _ (.tail _ (.tail _ (.tail _ (.head _))))))) (by omega) (fun gh cgh hvgh hcapgh _ => ?_) (fun _ _ _ => ⟨nofun, nofun, nofun⟩)
 subst hvgh
 refine Run.openOwn (.tail _ (.tail _ (.tail _ (.tail _ (.tail _ (.head _)))))) (by omega) (fun gl cgl hvgl hcapgl _ => ?_) (fun _ _ _ => ⟨nofun, nofun, nofun⟩)
 subst hvgl
 refine .lastlyB [18] [.own (.slice (some ⟨b2, 0, none⟩) 1 1) 52 2 1 ([.int .i64 x1, .int .i64 x2]), .blk b1 52 [.int .i64 x1, .int .i64 x2], .blk r 50 [.int .i64 (((Q : Nat) : Int)), .slice A_av11 (S.ns.length + 1) c_av11, vw, .int .i64 t, .int .i64 (S.rt), .slice (some ⟨gl, 0, none⟩) Q cgl, .slice (some ⟨gh, 0, none⟩) Q cgh], .own (.slice A_av11 (S.ns.length + 1) c_av11) 52 2 (S.ns.length + 1) (nds (S.ns ++ [(x1, x2)])), .own vw 71 3 (S.ws.length) (wls S.ws), .own (.slice (some ⟨gl, 0, none⟩) Q cgl) 3 1 Q (ints S.la), .own (.slice (some ⟨gh, 0, none⟩) Q cgh) 4 1 Q (bls S.ha)] (by kernel_rfl) ?_
 refine DL.m 0 rfl ?_
 refine DL.tP 1 rfl (.pointer (some ⟨r, 0, none⟩)) (fun _ => OpY.nilCheck rfl) ?_
 refine DL.tP 2 rfl (.pointer (some ⟨r, 0, none⟩)) (fun _ => OpY.fieldAddr Tfo_50_0 rfl rfl) ?_
 refine DL.m 3 rfl ?_
 refine DL.tP 4 rfl (.pointer (some ⟨r, 0, none⟩)) (fun _ => OpY.nilCheck rfl) ?_
 refine DL.tP 5 rfl (.pointer (some ⟨r, 5, none⟩)) (fun _ => OpY.fieldAddr Tfo_50_1 rfl rfl) ?_
 refine DL.tT 6 rfl (Some'.weak (.take (.take (.take (.take (.take (.take (.take (.nil _))))))))) (.slice (some ⟨gl, 0, none⟩) Q cgl) (.load1 Tone_48 rfl (.b (.tail _ (.tail _ (.head _))))) ?_
 refine DL.m 7 rfl ?_
 refine DL.tP 8 rfl (.pointer (some ⟨gl, q, none⟩)) (fun _ => OpY.ix q Tsl_48) ?_
 refine DL.tT 9 rfl (Some'.weak (.take (.take (.take (.take (.take (.take (.take (.nil _))))))))) (.int .i64 (ix S.la (q))) (.load1 Tone_3 rfl (Cells.own0 (.tail _ (.tail _ (.tail _ (.tail _ (.tail _ (.head _)))))) (pre1 (by omega)))) ?_
 refine DL.m 10 rfl ?_
 refine DL.m 11 rfl ?_
 refine DL.tP 12 rfl (.pointer (some ⟨r, 0, none⟩)) (fun _ => OpY.nilCheck rfl) ?_
 refine DL.tP 13 rfl (.pointer (some ⟨r, 6, none⟩)) (fun _ => OpY.fieldAddr Tfo_50_2 rfl rfl) ?_
 refine DL.tT 14 rfl (Some'.weak (.take (.take (.take (.take (.take (.take (.take (.nil _))))))))) (.slice (some ⟨gh, 0, none⟩) Q cgh) (.load1 Tone_47 rfl (.b (.tail _ (.tail _ (.head _))))) ?_
 refine DL.m 15 rfl ?_
 refine DL.tP 16 rfl (.pointer (some ⟨gh, q, none⟩)) (fun _ => OpY.ix q Tsl_47) ?_
 refine DL.tT 17 rfl (Some'.weak (.take (.take (.take (.take (.take (.take (.take (.nil _))))))))) (.bool (bx (S.ha) q)) (.load1 Tone_4 rfl (Cells.own0 (.tail _ (.tail _ (.tail _ (.tail _ (.tail _ (.tail _ (.head _))))))) (preBl (by omega)))) ?_
 refine DL.step (i := 18) (by kernel_rfl) (by kernel_rfl) rfl rfl (OpStep.callM (H1 := [.blk r 50 [.int .i64 (((Q : Nat) : Int)), .slice A_av11 (S.ns.length + 1) c_av11, vw, .int .i64 t, .int .i64 (S.rt), .slice (some ⟨gl, 0, none⟩) Q cgl, .slice (some ⟨gh, 0, none⟩) Q cgh], .own vw 71 3 (S.ws.length) (wls S.ws)]) (H2 := [.own (.slice (some ⟨b2, 0, none⟩) 1 1) 52 2 1 ([.int .i64 x1, .int .i64 x2]), .blk b1 52 [.int .i64 x1, .int .i64 x2], .own (.slice A_av11 (S.ns.length + 1) c_av11) 52 2 (S.ns.length + 1) (nds (S.ns ++ [(x1, x2)])), .own (.slice (some ⟨gl, 0, none⟩) Q cgl) 3 1 Q (ints S.la), .own (.slice (some ⟨gh, 0, none⟩) Q cgh) 4 1 Q (bls S.ha)]) (vs := [.pointer (some ⟨r, 0, none⟩), .int .i64 (ix S.la (q)), .int .i64 (((S.ns.length : Nat) : Int)), .bool (bx (S.ha) q)]) (caps := []) Tcall_46 rfl rfl (Weak.selF [2, 3]) (fun w hs => join_spec rfl (by omega) hok.srt (hok.fresh hq) (hs.sub (List.sublist_append_left _ _)).self) ?_)
 rintro _ _ ⟨vj1, rfl, rfl⟩
 refine DL.done (by kernel_rfl) ?_
 refine .lastly [12, 14] (by kernel_rfl) ?_
 refine DL.m 0 rfl ?_
 refine DL.tP 1 rfl (.pointer (some ⟨r, 0, none⟩)) (fun _ => OpY.nilCheck rfl) ?_
 refine DL.tP 2 rfl (.pointer (some ⟨r, 5, none⟩)) (fun _ => OpY.fieldAddr Tfo_50_1 rfl rfl) ?_
 refine DL.t 3 rfl (Some'.weak (.take (.take (.take (.take (.take (.take (.take (.nil _))))))))) (.slice (some ⟨gl, 0, none⟩) Q cgl) (.load1 Tone_48 rfl (.b (.head _))) ?_
 refine DL.m 4 rfl ?_
 refine DL.m 5 rfl ?_
 refine DL.tP 6 rfl (.pointer (some ⟨r, 0, none⟩)) (fun _ => OpY.nilCheck rfl) ?_
 refine DL.tP 7 rfl (.pointer (some ⟨r, 6, none⟩)) (fun _ => OpY.fieldAddr Tfo_50_2 rfl rfl) ?_
 refine DL.t 8 rfl (Some'.weak (.take (.take (.take (.take (.take (.take (.take (.nil _))))))))) (.slice (some ⟨gh, 0, none⟩) Q cgh) (.load1 Tone_47 rfl (.b (.head _))) ?_
 refine DL.m 9 rfl ?_
 refine DL.m 10 rfl ?_
 refine DL.tP 11 rfl (.pointer (some ⟨gl, q, none⟩)) (fun _ => OpY.ix q Tsl_48) ?_
 refine DL.step (i := 12) (by kernel_rfl) (by kernel_rfl) rfl rfl (OpStep.storeOwnInt (o := q) (a := ((S.ns.length : Nat) : Int)) Tsize_3 rfl rfl (.there _ (.there _ (.there _ (.there _ (.there _ (.here _)))))) (by omega) ?_)
 refine DL.tP 13 rfl (.pointer (some ⟨gh, q, none⟩)) (fun _ => OpY.ix q Tsl_47) ?_
 refine DL.step (i := 14) (by kernel_rfl) (by kernel_rfl) rfl rfl (OpStep.storeOwnB (o := q) (a := false) Tsize_4 rfl rfl (.there _ (.there _ (.there _ (.there _ (.there _ (.there _ (.here _))))))) (by omega) ?_)
 refine DL.done (by kernel_rfl) ?_
 refine .fin ?_
 refine ⟨.tuple #[], [.blk r 50 [.int .i64 (((Q : Nat) : Int)), .slice A_av11 (S.ns.length + 1) c_av11, vj1, .int .i64 t, .int .i64 ((S.app q (x1, x2)).rt), .slice (some ⟨gl, 0, none⟩) Q cgl, .slice (some ⟨gh, 0, none⟩) Q cgh], .own (.slice A_av11 (S.ns.length + 1) c_av11) 52 2 ((S.app q (x1, x2)).ns.length) (nds (S.app q (x1, x2)).ns), .own vj1 71 3 ((S.app q (x1, x2)).ws.length) (wls (S.app q (x1, x2)).ws), .own (.slice (some ⟨gl, 0, none⟩) Q cgl) 3 1 Q (ints (S.app q (x1, x2)).la), .own (.slice (some ⟨gh, 0, none⟩) Q cgh) 4 1 Q (bls (S.app q (x1, x2)).ha)], Out.none rfl, ((Weak.selF [0, 3, 0, 2, 2]).trans (Some'.weak (.takeEq (by first | rfl | (simp only [DgS.app, DgS.trn, DgS.add, DgS.tog, insW_length, List.length_append, List.length_cons, List.length_nil, Nat.zero_add]; done)) (.takeEq (by first | rfl | (simp only [DgS.app, DgS.trn, DgS.add, DgS.tog, insW_length, List.length_append, List.length_cons, List.length_nil, Nat.zero_add]; done)) (.takeEq (by first | rfl | (simp only [DgS.app, DgS.trn, DgS.add, DgS.tog, insW_length, List.length_append, List.length_cons, List.length_nil, Nat.zero_add]; done)) (.takeEq (by first | rfl | (simp only [DgS.app, DgS.trn, DgS.add, DgS.tog, insW_length, List.length_append, List.length_cons, List.length_nil, Nat.zero_add]; done)) (.takeEq (by first | rfl | (simp only [DgS.app, DgS.trn, DgS.add, DgS.tog, insW_length, List.length_append, List.length_cons, List.length_nil, Nat.zero_add]; done)) (.nil _)))))))), ?_⟩
 exact ⟨_, _, rfl, rfl⟩

set_option maxHeartbeats 1000000 in
set_option maxRecDepth 20000 in
theorem place_spec {r Q m : Nat} {t : Int} {vn vw vl vh : Value} {S : DgS} {w : World} (hok : S.Ok Q m) (hm : m ≤ 100000) {q : Nat} (hq : q < Q) (h : St (Of [.blk r 50 [.int .i64 (((Q : Nat) : Int)), vn, vw, .int .i64 t, .int .i64 (S.rt), vl, vh], .own vn 52 2 (S.ns.length) (nds S.ns), .own vw 71 3 (S.ws.length) (wls S.ws), .own vl 3 1 Q (ints S.la), .own vh 4 1 Q (bls S.ha)]) w w [.blk r 50 [.int .i64 (((Q : Nat) : Int)), vn, vw, .int .i64 t, .int .i64 (S.rt), vl, vh], .own vn 52 2 (S.ns.length) (nds S.ns), .own vw 71 3 (S.ws.length) (wls S.ws), .own vl 3 1 Q (ints S.la), .own vh 4 1 Q (bls S.ha)]) : Calls Try.prog 58 #[.pointer (some ⟨r, 0, none⟩), .int .i64 (q : Nat)] w (Post (Of [.blk r 50 [.int .i64 (((Q : Nat) : Int)), vn, vw, .int .i64 t, .int .i64 (S.rt), vl, vh], .own vn 52 2 (S.ns.length) (nds S.ns), .own vw 71 3 (S.ws.length) (wls S.ws), .own vl 3 1 Q (ints S.la), .own vh 4 1 Q (bls S.ha)]) w fun v H => ∃ vn2 vw2, v = .tuple #[] ∧ H = [.blk r 50 [.int .i64 (((Q : Nat) : Int)), vn2, vw2, .int .i64 t, .int .i64 ((S.plc q).rt), vl, vh], .own vn2 52 2 ((S.plc q).ns.length) (nds (S.plc q).ns), .own vw2 71 3 ((S.plc q).ws.length) (wls (S.plc q).ws), .own vl 3 1 Q (ints (S.plc q).la), .own vh 4 1 Q (bls (S.plc q).ha)]) := by
 have hla := hok.la
 have hha := hok.ha
 have hbn := hok.bn
 have hbw := hok.bw
 have hbr := hok.br
 have hrq := hok.rng q hq
 obtain ⟨k, hk⟩ : ∃ k, (ix S.la q).toNat = k := ⟨_, rfl⟩
 refine enter (n := 33) (args := [.pointer (some ⟨r, 0, none⟩), .int .i64 (((q : Nat) : Int))]) Try.func58 rfl rfl (h) ?_
 refine .seq ?_
 refine Run.openOwn (.tail _ (.tail _ (.tail _ (.tail _ (.head _))))) (by omega) (fun gh cgh hvgh hcapgh _ => ?_) (fun _ _ _ => ⟨nofun, nofun, nofun⟩)
 subst hvgh
 refine Run.openOwn (.tail _ (.tail _ (.tail _ (.head _)))) (by omega) (fun gl cgl hvgl hcapgl _ => ?_) (fun _ _ _ => ⟨nofun, nofun, nofun⟩)
 subst hvgl
 refine Run.openOwn (.tail _ (.head _)) (by omega) (fun gn cgn hvgn hcapgn _ => ?_) (fun _ _ _ => ⟨nofun, nofun, nofun⟩)
 subst hvgn
 refine .draws (by kernel_rfl) (by kernel_rfl) ?_
 refine .m ?_
 refine .u (.pointer (some ⟨r, 0, none⟩)) (.nilCheck rfl) ?_
 refine .u (.pointer (some ⟨r, 0, none⟩)) (.fieldAddr Tfo_50_0 rfl rfl) ?_
 refine .u (.pointer (some ⟨r, 1, none⟩)) (.fieldAddr Tfo_29_1 rfl rfl) ?_
 refine .u (.slice (some ⟨gn, 0, none⟩) (S.ns.length) cgn) (.load1 Tone_26 rfl (.b (.head _))) ?_
 refine .m ?_
 refine .u (.pointer (some ⟨r, 0, none⟩)) (.nilCheck rfl) ?_
 refine .u (.pointer (some ⟨r, 5, none⟩)) (.fieldAddr Tfo_50_1 rfl rfl) ?_
 refine .u (.slice (some ⟨gl, 0, none⟩) Q cgl) (.load1 Tone_48 rfl (.b (.head _))) ?_
 refine .m ?_
 refine .u (.pointer (some ⟨gl, q, none⟩)) (.ix q Tsl_48) ?_
 refine .u (.int .i64 (ix S.la (q))) (.load1 Tone_3 rfl (Cells.own0 (.tail _ (.tail _ (.tail _ (.head _)))) (pre1 (by omega)))) ?_
 refine .u (.pointer (some ⟨gn, k * 2, none⟩)) (.ix k Tsl_26) ?_
 refine .u (.pointer (some ⟨gn, k * 2, none⟩)) (.fieldAddr Tfo_52_0 rfl rfl) ?_
 refine .u (.int .i64 ((ndx (S.ns) k).1)) (.load1 Tone_3 rfl (Cells.own0 (.tail _ (.head _)) (preNa (k := k) (by omega)))) ?_
 refine .w (.bool (((ndx (S.ns) k).1) != 3)) ?_
 rcases Bool.eq_false_or_eq_true (((ndx (S.ns) k).1) != 3) with h20 | h20
 ·refine .u (.bool true) (.moveB rfl h20) ?_
  have p20 := h20; try simp only [bs] at p20
  iterate 7 refine .pass rfl ?_
  refine .w (.bool true) ?_
  refine .done ?_
  refine .cond (b := true) rfl (fun _ => ?_) (fun h => nomatch h)
  have hneed : S.need q = true := by rw [DgS.need, hk]; simp [*]
  refine .region ?_
  iterate 2 refine .m ?_
  refine .u (.agg #[.int .i64 3, .int .i64 0]) (.build (cs := [.int .i64 3, .int .i64 0]) (by kernel_rfl)) ?_
  refine .step rfl (.callM (H1 := [.blk r 50 [.int .i64 (((Q : Nat) : Int)), .slice (some ⟨gn, 0, none⟩) (S.ns.length) cgn, vw, .int .i64 t, .int .i64 (S.rt), .slice (some ⟨gl, 0, none⟩) Q cgl, .slice (some ⟨gh, 0, none⟩) Q cgh], .own (.slice (some ⟨gn, 0, none⟩) (S.ns.length) cgn) 52 2 (S.ns.length) (nds S.ns), .own vw 71 3 (S.ws.length) (wls S.ws), .own (.slice (some ⟨gl, 0, none⟩) Q cgl) 3 1 Q (ints S.la), .own (.slice (some ⟨gh, 0, none⟩) Q cgh) 4 1 Q (bls S.ha)]) (H2 := []) (vs := [.pointer (some ⟨r, 0, none⟩), .int .i64 (((q : Nat) : Int)), .agg #[.int .i64 3, .int .i64 0]]) (caps := []) Tcall_20 rfl rfl (Weak.refl _) (fun w hs => append_spec hok hm hq (hs.sub (List.sublist_append_left _ _)).self) ?_)
  rintro _ _ ⟨vn1, vw1, rfl, rfl⟩
  show Run _ _ (putF _ _ _ (.tuple #[])) [.blk r 50 [.int .i64 (((Q : Nat) : Int)), vn1, vw1, .int .i64 t, .int .i64 ((S.app q (3, 0)).rt), .slice (some ⟨gl, 0, none⟩) Q cgl, .slice (some ⟨gh, 0, none⟩) Q cgh], .own vn1 52 2 ((S.app q (3, 0)).ns.length) (nds (S.app q (3, 0)).ns), .own vw1 71 3 ((S.app q (3, 0)).ws.length) (wls (S.app q (3, 0)).ws), .own (.slice (some ⟨gl, 0, none⟩) Q cgl) 3 1 Q (ints (S.app q (3, 0)).la), .own (.slice (some ⟨gh, 0, none⟩) Q cgh) 4 1 Q (bls (S.app q (3, 0)).ha)]
  refine .done ?_
  refine .fin ?_
  refine ⟨.tuple #[], [.blk r 50 [.int .i64 (((Q : Nat) : Int)), vn1, vw1, .int .i64 t, .int .i64 ((S.plc q).rt), .slice (some ⟨gl, 0, none⟩) Q cgl, .slice (some ⟨gh, 0, none⟩) Q cgh], .own vn1 52 2 ((S.plc q).ns.length) (nds (S.plc q).ns), .own vw1 71 3 ((S.plc q).ws.length) (wls (S.plc q).ws), .own (.slice (some ⟨gl, 0, none⟩) Q cgl) 3 1 Q (ints (S.plc q).la), .own (.slice (some ⟨gh, 0, none⟩) Q cgh) 4 1 Q (bls (S.plc q).ha)], Out.none rfl, (Some'.weak (.takeEq (by first | rfl | (simp only [DgS.plc, hneed]; rfl)) (.takeEq (by first | rfl | (simp only [DgS.plc, hneed]; rfl)) (.takeEq (by first | rfl | (simp only [DgS.plc, hneed]; rfl)) (.takeEq (by first | rfl | (simp only [DgS.plc, hneed]; rfl)) (.takeEq (by first | rfl | (simp only [DgS.plc, hneed]; rfl)) (.nil _))))))), ?_⟩
  exact ⟨_, _, rfl, rfl⟩
 refine .u (.bool false) (.moveB rfl h20) ?_
 have p20 := h20; try simp only [bs] at p20
 refine .m ?_
 refine .u (.pointer (some ⟨r, 0, none⟩)) (.nilCheck rfl) ?_
 refine .u (.pointer (some ⟨r, 6, none⟩)) (.fieldAddr Tfo_50_2 rfl rfl) ?_
 refine .u (.slice (some ⟨gh, 0, none⟩) Q cgh) (.load1 Tone_47 rfl (.b (.head _))) ?_
 refine .m ?_
 refine .u (.pointer (some ⟨gh, q, none⟩)) (.ix q Tsl_47) ?_
 refine .u (.bool (bx (S.ha) q)) (.load1 Tone_4 rfl (Cells.own0 (.tail _ (.tail _ (.tail _ (.tail _ (.head _))))) (preBl (by omega)))) ?_
 refine .w (.bool (bx (S.ha) q)) ?_
 refine .done ?_
 refine .cond (b := bx (S.ha) q) rfl (fun h28 => ?_) (fun h28 => ?_)
 ·have p28 := h28; try simp only [bs] at p28
  have hneed : S.need q = true := by rw [DgS.need, hk]; simp [*]
  refine .region ?_
  iterate 2 refine .m ?_
  refine .u (.agg #[.int .i64 3, .int .i64 0]) (.build (cs := [.int .i64 3, .int .i64 0]) (by kernel_rfl)) ?_
  refine .step rfl (.callM (H1 := [.blk r 50 [.int .i64 (((Q : Nat) : Int)), .slice (some ⟨gn, 0, none⟩) (S.ns.length) cgn, vw, .int .i64 t, .int .i64 (S.rt), .slice (some ⟨gl, 0, none⟩) Q cgl, .slice (some ⟨gh, 0, none⟩) Q cgh], .own (.slice (some ⟨gn, 0, none⟩) (S.ns.length) cgn) 52 2 (S.ns.length) (nds S.ns), .own vw 71 3 (S.ws.length) (wls S.ws), .own (.slice (some ⟨gl, 0, none⟩) Q cgl) 3 1 Q (ints S.la), .own (.slice (some ⟨gh, 0, none⟩) Q cgh) 4 1 Q (bls S.ha)]) (H2 := []) (vs := [.pointer (some ⟨r, 0, none⟩), .int .i64 (((q : Nat) : Int)), .agg #[.int .i64 3, .int .i64 0]]) (caps := []) Tcall_20 rfl rfl (Weak.refl _) (fun w hs => append_spec hok hm hq (hs.sub (List.sublist_append_left _ _)).self) ?_)
  rintro _ _ ⟨vn2, vw2, rfl, rfl⟩
  show Run _ _ (putF _ _ _ (.tuple #[])) [.blk r 50 [.int .i64 (((Q : Nat) : Int)), vn2, vw2, .int .i64 t, .int .i64 ((S.app q (3, 0)).rt), .slice (some ⟨gl, 0, none⟩) Q cgl, .slice (some ⟨gh, 0, none⟩) Q cgh], .own vn2 52 2 ((S.app q (3, 0)).ns.length) (nds (S.app q (3, 0)).ns), .own vw2 71 3 ((S.app q (3, 0)).ws.length) (wls (S.app q (3, 0)).ws), .own (.slice (some ⟨gl, 0, none⟩) Q cgl) 3 1 Q (ints (S.app q (3, 0)).la), .own (.slice (some ⟨gh, 0, none⟩) Q cgh) 4 1 Q (bls (S.app q (3, 0)).ha)]
  refine .done ?_
  refine .fin ?_
  refine ⟨.tuple #[], [.blk r 50 [.int .i64 (((Q : Nat) : Int)), vn2, vw2, .int .i64 t, .int .i64 ((S.plc q).rt), .slice (some ⟨gl, 0, none⟩) Q cgl, .slice (some ⟨gh, 0, none⟩) Q cgh], .own vn2 52 2 ((S.plc q).ns.length) (nds (S.plc q).ns), .own vw2 71 3 ((S.plc q).ws.length) (wls (S.plc q).ws), .own (.slice (some ⟨gl, 0, none⟩) Q cgl) 3 1 Q (ints (S.plc q).la), .own (.slice (some ⟨gh, 0, none⟩) Q cgh) 4 1 Q (bls (S.plc q).ha)], Out.none rfl, (Some'.weak (.takeEq (by first | rfl | (simp only [DgS.plc, hneed]; rfl)) (.takeEq (by first | rfl | (simp only [DgS.plc, hneed]; rfl)) (.takeEq (by first | rfl | (simp only [DgS.plc, hneed]; rfl)) (.takeEq (by first | rfl | (simp only [DgS.plc, hneed]; rfl)) (.takeEq (by first | rfl | (simp only [DgS.plc, hneed]; rfl)) (.nil _))))))), ?_⟩
  exact ⟨_, _, rfl, rfl⟩
 have p28 := h28; try simp only [bs] at p28
 have hneed : S.need q = false := by rw [DgS.need, hk]; simp [*]
 refine .skip ?_
 refine .fin ?_
 refine ⟨.tuple #[], [.blk r 50 [.int .i64 (((Q : Nat) : Int)), .slice (some ⟨gn, 0, none⟩) (S.ns.length) cgn, vw, .int .i64 t, .int .i64 ((S.plc q).rt), .slice (some ⟨gl, 0, none⟩) Q cgl, .slice (some ⟨gh, 0, none⟩) Q cgh], .own (.slice (some ⟨gn, 0, none⟩) (S.ns.length) cgn) 52 2 ((S.plc q).ns.length) (nds (S.plc q).ns), .own vw 71 3 ((S.plc q).ws.length) (wls (S.plc q).ws), .own (.slice (some ⟨gl, 0, none⟩) Q cgl) 3 1 Q (ints (S.plc q).la), .own (.slice (some ⟨gh, 0, none⟩) Q cgh) 4 1 Q (bls (S.plc q).ha)], Out.none rfl, (Some'.weak (.takeEq (by first | rfl | (simp only [DgS.plc, hneed]; rfl)) (.takeEq (by first | rfl | (simp only [DgS.plc, hneed]; rfl)) (.takeEq (by first | rfl | (simp only [DgS.plc, hneed]; rfl)) (.takeEq (by first | rfl | (simp only [DgS.plc, hneed]; rfl)) (.takeEq (by first | rfl | (simp only [DgS.plc, hneed]; rfl)) (.nil _))))))), ?_⟩
 exact ⟨_, _, rfl, rfl⟩

set_option maxHeartbeats 1000000 in
set_option maxRecDepth 20000 in
theorem turn_spec {r Q m : Nat} {t : Int} {vn vw vl vh : Value} {S : DgS} {w : World} (hok : S.Ok Q m) (hm : m ≤ 100000) {q : Nat} {cf : Int} (hq : q < Q) (hcf : 0 ≤ cf ∧ cf ≤ 7) (h : St (Of [.blk r 50 [.int .i64 (((Q : Nat) : Int)), vn, vw, .int .i64 t, .int .i64 (S.rt), vl, vh], .own vn 52 2 (S.ns.length) (nds S.ns), .own vw 71 3 (S.ws.length) (wls S.ws), .own vl 3 1 Q (ints S.la), .own vh 4 1 Q (bls S.ha)]) w w [.blk r 50 [.int .i64 (((Q : Nat) : Int)), vn, vw, .int .i64 t, .int .i64 (S.rt), vl, vh], .own vn 52 2 (S.ns.length) (nds S.ns), .own vw 71 3 (S.ws.length) (wls S.ws), .own vl 3 1 Q (ints S.la), .own vh 4 1 Q (bls S.ha)]) : Calls Try.prog 43 #[.pointer (some ⟨r, 0, none⟩), .int .i64 (q : Nat), .int .i64 cf] w (Post (Of [.blk r 50 [.int .i64 (((Q : Nat) : Int)), vn, vw, .int .i64 t, .int .i64 (S.rt), vl, vh], .own vn 52 2 (S.ns.length) (nds S.ns), .own vw 71 3 (S.ws.length) (wls S.ws), .own vl 3 1 Q (ints S.la), .own vh 4 1 Q (bls S.ha)]) w fun v H => ∃ vn2 vw2, v = .tuple #[] ∧ H = [.blk r 50 [.int .i64 (((Q : Nat) : Int)), vn2, vw2, .int .i64 t, .int .i64 ((S.trn q cf).rt), vl, vh], .own vn2 52 2 ((S.trn q cf).ns.length) (nds (S.trn q cf).ns), .own vw2 71 3 ((S.trn q cf).ws.length) (wls (S.trn q cf).ws), .own vl 3 1 Q (ints (S.trn q cf).la), .own vh 4 1 Q (bls (S.trn q cf).ha)]) := by
 have hla := hok.la
 have hha := hok.ha
 have hbn := hok.bn
 have hbw := hok.bw
 have hbr := hok.br
 have hrq := hok.rng q hq
 have hokU := hok.plc hq
 obtain ⟨k, hk⟩ : ∃ k, (ix (S.plc q).la q).toNat = k := ⟨_, rfl⟩
 have hrU := hokU.rng q hq
 have hlU := hokU.la
 have hhU := hokU.ha
 have hph := hokU.ph k (by omega)
 refine enter (n := 33) (args := [.pointer (some ⟨r, 0, none⟩), .int .i64 (((q : Nat) : Int)), .int .i64 cf]) Try.func43 rfl rfl (h) ?_
 refine .sr ?_
 iterate 2 refine .m ?_
 refine .step rfl (.callM (H1 := [.blk r 50 [.int .i64 (((Q : Nat) : Int)), vn, vw, .int .i64 t, .int .i64 (S.rt), vl, vh], .own vn 52 2 (S.ns.length) (nds S.ns), .own vw 71 3 (S.ws.length) (wls S.ws), .own vl 3 1 Q (ints S.la), .own vh 4 1 Q (bls S.ha)]) (H2 := []) (vs := [.pointer (some ⟨r, 0, none⟩), .int .i64 (((q : Nat) : Int))]) (caps := []) Tcall_58 rfl rfl (Weak.refl _) (fun w hs => place_spec hok hm hq (hs.sub (List.sublist_append_left _ _)).self) ?_)
 rintro _ _ ⟨vn1, vw1, rfl, rfl⟩
 show Run _ _ (putF _ _ _ (.tuple #[])) [.blk r 50 [.int .i64 (((Q : Nat) : Int)), vn1, vw1, .int .i64 t, .int .i64 ((S.plc q).rt), vl, vh], .own vn1 52 2 ((S.plc q).ns.length) (nds (S.plc q).ns), .own vw1 71 3 ((S.plc q).ws.length) (wls (S.plc q).ws), .own vl 3 1 Q (ints (S.plc q).la), .own vh 4 1 Q (bls (S.plc q).ha)]
 refine .done ?_
 refine .seq ?_
 refine Run.openOwn (.tail _ (.tail _ (.tail _ (.head _)))) (by omega) (fun gl cgl hvgl hcapgl _ => ?_) (fun _ _ _ => ⟨nofun, nofun, nofun⟩)
 subst hvgl
 refine Run.openOwn (.tail _ (.head _)) (by omega) (fun gn cgn hvgn hcapgn _ => ?_) (fun _ _ _ => ⟨nofun, nofun, nofun⟩)
 subst hvgn
 refine .draws (by kernel_rfl) (by kernel_rfl) ?_
 refine .m ?_
 refine .u (.pointer (some ⟨r, 0, none⟩)) (.nilCheck rfl) ?_
 refine .u (.pointer (some ⟨r, 0, none⟩)) (.fieldAddr Tfo_50_0 rfl rfl) ?_
 refine .u (.pointer (some ⟨r, 1, none⟩)) (.fieldAddr Tfo_29_1 rfl rfl) ?_
 refine .u (.slice (some ⟨gn, 0, none⟩) ((S.plc q).ns.length) cgn) (.load1 Tone_26 rfl (.b (.head _))) ?_
 refine .m ?_
 refine .u (.pointer (some ⟨r, 0, none⟩)) (.nilCheck rfl) ?_
 refine .u (.pointer (some ⟨r, 5, none⟩)) (.fieldAddr Tfo_50_1 rfl rfl) ?_
 refine .u (.slice (some ⟨gl, 0, none⟩) Q cgl) (.load1 Tone_48 rfl (.b (.head _))) ?_
 refine .m ?_
 refine .u (.pointer (some ⟨gl, q, none⟩)) (.ix q Tsl_48) ?_
 refine .u (.int .i64 (ix (S.plc q).la (q))) (.load1 Tone_3 rfl (Cells.own0 (.tail _ (.tail _ (.tail _ (.head _)))) (pre1 (by omega)))) ?_
 refine .u (.pointer (some ⟨gn, k * 2, none⟩)) (.ix k Tsl_26) ?_
 refine .m ?_
 refine .done ?_
 refine .region ?_
 iterate 2 refine .m ?_
 refine .u (.pointer (some ⟨gn, k * 2, none⟩)) (.nilCheck rfl) ?_
 refine .fa Tfo_52_1 ?_
 refine .u (.int .i64 ((ndx ((S.plc q).ns) k).2)) (.load1 Tone_3 rfl (Cells.own0 (.tail _ (.head _)) (preNb (k := k) (by omega)))) ?_
 refine .m ?_
 refine .u (.int .i64 (((ndx ((S.plc q).ns) k).2) + cf)) (.add rfl rfl rfl (by omega) (by omega)) ?_
 refine .u (.int .i64 ((((ndx ((S.plc q).ns) k).2) + cf) % 8)) (.rem rfl rfl (by omega) (by omega)) ?_
 refine .u (.pointer (some ⟨gn, k * 2, none⟩)) (.nilCheck rfl) ?_
 refine .fa Tfo_52_1 ?_
 refine .step rfl (.storeOwnP (k := k) (p := (((ndx ((S.plc q).ns) k).2) + cf) % 8) Tsize_3 rfl rfl (.there _ (.here _)) (by omega) (by omega) ?_)
 refine .done ?_
 refine .fin ?_
 refine ⟨.tuple #[], [.blk r 50 [.int .i64 (((Q : Nat) : Int)), .slice (some ⟨gn, 0, none⟩) ((S.plc q).ns.length) cgn, vw1, .int .i64 t, .int .i64 ((S.trn q cf).rt), .slice (some ⟨gl, 0, none⟩) Q cgl, vh], .own (.slice (some ⟨gn, 0, none⟩) ((S.plc q).ns.length) cgn) 52 2 ((S.trn q cf).ns.length) (nds (S.trn q cf).ns), .own vw1 71 3 ((S.trn q cf).ws.length) (wls (S.trn q cf).ws), .own (.slice (some ⟨gl, 0, none⟩) Q cgl) 3 1 Q (ints (S.trn q cf).la), .own vh 4 1 Q (bls (S.trn q cf).ha)], Out.none rfl, (Some'.weak (.takeEq (by first | rfl | (simp only [DgS.trn, DgS.add, hk, List.length_set]; done) | (simp only [DgS.trn, DgS.add, hk]; rfl)) (.takeEq (by first | rfl | (simp only [DgS.trn, DgS.add, hk, List.length_set]; done) | (simp only [DgS.trn, DgS.add, hk]; rfl)) (.takeEq (by first | rfl | (simp only [DgS.trn, DgS.add, hk, List.length_set]; done) | (simp only [DgS.trn, DgS.add, hk]; rfl)) (.takeEq (by first | rfl | (simp only [DgS.trn, DgS.add, hk, List.length_set]; done) | (simp only [DgS.trn, DgS.add, hk]; rfl)) (.takeEq (by first | rfl | (simp only [DgS.trn, DgS.add, hk, List.length_set]; done) | (simp only [DgS.trn, DgS.add, hk]; rfl)) (.nil _))))))), ?_⟩
 exact ⟨_, _, rfl, rfl⟩

set_option maxHeartbeats 2000000 in
set_option maxRecDepth 20000 in
theorem cz_spec {r Q m : Nat} {t : Int} {vn vw vl vh : Value} {S : DgS} {w : World} (hok : S.Ok Q m) (hm : m ≤ 99000) {a b : Nat} (ha : a < Q) (hb : b < Q) (h : St (Of [.blk r 50 [.int .i64 (((Q : Nat) : Int)), vn, vw, .int .i64 t, .int .i64 (S.rt), vl, vh], .own vn 52 2 (S.ns.length) (nds S.ns), .own vw 71 3 (S.ws.length) (wls S.ws), .own vl 3 1 Q (ints S.la), .own vh 4 1 Q (bls S.ha)]) w w [.blk r 50 [.int .i64 (((Q : Nat) : Int)), vn, vw, .int .i64 t, .int .i64 (S.rt), vl, vh], .own vn 52 2 (S.ns.length) (nds S.ns), .own vw 71 3 (S.ws.length) (wls S.ws), .own vl 3 1 Q (ints S.la), .own vh 4 1 Q (bls S.ha)]) : Calls Try.prog 44 #[.pointer (some ⟨r, 0, none⟩), .int .i64 (a : Nat), .int .i64 (b : Nat)] w (Post (Of [.blk r 50 [.int .i64 (((Q : Nat) : Int)), vn, vw, .int .i64 t, .int .i64 (S.rt), vl, vh], .own vn 52 2 (S.ns.length) (nds S.ns), .own vw 71 3 (S.ws.length) (wls S.ws), .own vl 3 1 Q (ints S.la), .own vh 4 1 Q (bls S.ha)]) w fun v H => ∃ vn2 vw2, v = .tuple #[] ∧ H = [.blk r 50 [.int .i64 (((Q : Nat) : Int)), vn2, vw2, .int .i64 t, .int .i64 ((S.czd a b).rt), vl, vh], .own vn2 52 2 ((S.czd a b).ns.length) (nds (S.czd a b).ns), .own vw2 71 3 ((S.czd a b).ws.length) (wls (S.czd a b).ws), .own vl 3 1 Q (ints (S.czd a b).la), .own vh 4 1 Q (bls (S.czd a b).ha)]) := by
 have hla := hok.la
 have hha := hok.ha
 have hbn := hok.bn
 have hbw := hok.bw
 have hbr := hok.br
 have hoka := hok.plc ha
 have hokU := hoka.plc hb
 have hra := hokU.rng a ha
 have hrb := hokU.rng b hb
 have hlU := hokU.la
 have hhU := hokU.ha
 have hbwU := hokU.bw
 have hbrU := hokU.br
 have hlt := DgS.Ok.fdW_lt (L := ((S.plc a).plc b).ws) (a := ix ((S.plc a).plc b).la a) (b := ix ((S.plc a).plc b).la b)
 refine enter (n := 66) (args := [.pointer (some ⟨r, 0, none⟩), .int .i64 (((a : Nat) : Int)), .int .i64 (((b : Nat) : Int))]) Try.func44 rfl rfl (h) ?_
 refine .sr ?_
 iterate 2 refine .m ?_
 refine .step rfl (.callM (H1 := [.blk r 50 [.int .i64 (((Q : Nat) : Int)), vn, vw, .int .i64 t, .int .i64 (S.rt), vl, vh], .own vn 52 2 (S.ns.length) (nds S.ns), .own vw 71 3 (S.ws.length) (wls S.ws), .own vl 3 1 Q (ints S.la), .own vh 4 1 Q (bls S.ha)]) (H2 := []) (vs := [.pointer (some ⟨r, 0, none⟩), .int .i64 (((a : Nat) : Int))]) (caps := []) Tcall_58 rfl rfl (Weak.refl _) (fun w hs => place_spec hok (by omega) ha (hs.sub (List.sublist_append_left _ _)).self) ?_)
 rintro _ _ ⟨vn1, vw1, rfl, rfl⟩
 show Run _ _ (putF _ _ _ (.tuple #[])) [.blk r 50 [.int .i64 (((Q : Nat) : Int)), vn1, vw1, .int .i64 t, .int .i64 ((S.plc a).rt), vl, vh], .own vn1 52 2 ((S.plc a).ns.length) (nds (S.plc a).ns), .own vw1 71 3 ((S.plc a).ws.length) (wls (S.plc a).ws), .own vl 3 1 Q (ints (S.plc a).la), .own vh 4 1 Q (bls (S.plc a).ha)]
 refine .dsr ?_
 iterate 2 refine .m ?_
 refine .step rfl (.callM (H1 := [.blk r 50 [.int .i64 (((Q : Nat) : Int)), vn1, vw1, .int .i64 t, .int .i64 ((S.plc a).rt), vl, vh], .own vn1 52 2 ((S.plc a).ns.length) (nds (S.plc a).ns), .own vw1 71 3 ((S.plc a).ws.length) (wls (S.plc a).ws), .own vl 3 1 Q (ints (S.plc a).la), .own vh 4 1 Q (bls (S.plc a).ha)]) (H2 := []) (vs := [.pointer (some ⟨r, 0, none⟩), .int .i64 (((b : Nat) : Int))]) (caps := []) Tcall_58 rfl rfl (Weak.refl _) (fun w hs => place_spec hoka (by omega) hb (hs.sub (List.sublist_append_left _ _)).self) ?_)
 rintro _ _ ⟨vn2, vw2, rfl, rfl⟩
 show Run _ _ (putF _ _ _ (.tuple #[])) [.blk r 50 [.int .i64 (((Q : Nat) : Int)), vn2, vw2, .int .i64 t, .int .i64 (((S.plc a).plc b).rt), vl, vh], .own vn2 52 2 (((S.plc a).plc b).ns.length) (nds ((S.plc a).plc b).ns), .own vw2 71 3 (((S.plc a).plc b).ws.length) (wls ((S.plc a).plc b).ws), .own vl 3 1 Q (ints ((S.plc a).plc b).la), .own vh 4 1 Q (bls ((S.plc a).plc b).ha)]
 refine .done ?_
 refine .seq ?_
 refine Run.openOwn (.tail _ (.tail _ (.tail _ (.head _)))) (by omega) (fun gl cgl hvgl hcapgl _ => ?_) (fun _ _ _ => ⟨nofun, nofun, nofun⟩)
 subst hvgl
 refine .draws (by kernel_rfl) (by kernel_rfl) ?_
 refine .m ?_
 refine .u (.pointer (some ⟨r, 0, none⟩)) (.nilCheck rfl) ?_
 refine .u (.pointer (some ⟨r, 5, none⟩)) (.fieldAddr Tfo_50_1 rfl rfl) ?_
 refine .u (.slice (some ⟨gl, 0, none⟩) Q cgl) (.load1 Tone_48 rfl (.b (.head _))) ?_
 refine .m ?_
 refine .u (.pointer (some ⟨gl, a, none⟩)) (.ix a Tsl_48) ?_
 refine .u (.int .i64 (ix ((S.plc a).plc b).la (a))) (.load1 Tone_3 rfl (Cells.own0 (.tail _ (.tail _ (.tail _ (.head _)))) (pre1 (by omega)))) ?_
 refine .m ?_
 refine .u (.pointer (some ⟨r, 0, none⟩)) (.nilCheck rfl) ?_
 refine .u (.pointer (some ⟨r, 5, none⟩)) (.fieldAddr Tfo_50_1 rfl rfl) ?_
 refine .u (.slice (some ⟨gl, 0, none⟩) Q cgl) (.load1 Tone_48 rfl (.b (.head _))) ?_
 refine .m ?_
 refine .u (.pointer (some ⟨gl, b, none⟩)) (.ix b Tsl_48) ?_
 refine .u (.int .i64 (ix ((S.plc a).plc b).la (b))) (.load1 Tone_3 rfl (Cells.own0 (.tail _ (.tail _ (.tail _ (.head _)))) (pre1 (by omega)))) ?_
 iterate 2 refine .m ?_
 refine .done ?_
 refine .seq ?_
 refine .sr ?_
 refine .m ?_
 refine .u (.pointer (some ⟨r, 0, none⟩)) (.nilCheck rfl) ?_
 refine .fa Tfo_50_0 ?_
 refine .u (.agg #[.int .i64 (((Q : Nat) : Int)), vn2, vw2, .int .i64 t, .int .i64 (((S.plc a).plc b).rt)]) (.loadN (cs := [.int .i64 (((Q : Nat) : Int)), vn2, vw2, .int .i64 t, .int .i64 (((S.plc a).plc b).rt)]) Tagg_29 rfl (Cells.blk (.head _) ⟨rfl, rfl, rfl, rfl, rfl, trivial⟩)) ?_
 iterate 2 refine .m ?_
 refine .c (.int .i64 (fdW ((S.plc a).plc b).ws (ix ((S.plc a).plc b).la a) (ix ((S.plc a).plc b).la b))) [.agg #[.int .i64 (((Q : Nat) : Int)), vn2, vw2, .int .i64 t, .int .i64 (((S.plc a).plc b).rt)], .int .i64 (ix ((S.plc a).plc b).la (a)), .int .i64 (ix ((S.plc a).plc b).la (b))] Tcall_59 (fun w hs => wireAt_spec (hs.slOwn (.tail _ (.tail _ (.head _))))) ?_
 refine .w (.bool (decide ((fdW ((S.plc a).plc b).ws (ix ((S.plc a).plc b).la a) (ix ((S.plc a).plc b).la b)) ≥ 0))) ?_
 refine .done ?_
 refine .cond (b := decide ((fdW ((S.plc a).plc b).ws (ix ((S.plc a).plc b).la a) (ix ((S.plc a).plc b).la b)) ≥ 0)) rfl (fun h35 => ?_) (fun h35 => ?_)
 ·have p35 := h35; try simp only [bs] at p35
  obtain ⟨i, hi⟩ : ∃ i : Nat, fdW ((S.plc a).plc b).ws (ix ((S.plc a).plc b).la a) (ix ((S.plc a).plc b).la b) = (i : Nat) := ⟨_, (Int.toNat_of_nonneg p35).symm⟩
  have hto : S.czd a b = { ((S.plc a).plc b) with ws := ((S.plc a).plc b).ws.eraseIdx i, rt := ((S.plc a).plc b).rt - 1 } := by rw [DgS.czd, DgS.tog, if_pos (by omega), hi, Int.toNat_natCast]
  refine .sr ?_
  refine .m ?_
  refine .u (.pointer (some ⟨r, 0, none⟩)) (.nilCheck rfl) ?_
  refine .fa Tfo_50_0 ?_
  iterate 2 refine .m ?_
  refine .step rfl (.callM (H1 := [.blk r 50 [.int .i64 (((Q : Nat) : Int)), vn2, vw2, .int .i64 t, .int .i64 (((S.plc a).plc b).rt), .slice (some ⟨gl, 0, none⟩) Q cgl, vh], .own vw2 71 3 (((S.plc a).plc b).ws.length) (wls ((S.plc a).plc b).ws)]) (H2 := [.own vn2 52 2 (((S.plc a).plc b).ns.length) (nds ((S.plc a).plc b).ns), .own (.slice (some ⟨gl, 0, none⟩) Q cgl) 3 1 Q (ints ((S.plc a).plc b).la), .own vh 4 1 Q (bls ((S.plc a).plc b).ha)]) (vs := [.pointer (some ⟨r, 0, none⟩), .int .i64 (ix ((S.plc a).plc b).la (a)), .int .i64 (ix ((S.plc a).plc b).la (b))]) (caps := []) Tcall_60 rfl rfl (Weak.selF [0, 1]) (fun w hs => cut_spec (i := i) rfl (by omega) (by omega) hi (hs.sub (List.sublist_append_left _ _)).self) ?_)
  rintro _ _ ⟨vj1, rfl, rfl⟩
  show Run _ _ (putF _ _ _ (.tuple #[])) [.blk r 50 [.int .i64 (((Q : Nat) : Int)), vn2, vj1, .int .i64 t, .int .i64 (((S.plc a).plc b).rt), .slice (some ⟨gl, 0, none⟩) Q cgl, vh], .own vj1 71 3 (((S.plc a).plc b).ws.length - 1) (wls (((S.plc a).plc b).ws.eraseIdx i)), .own vn2 52 2 (((S.plc a).plc b).ns.length) (nds ((S.plc a).plc b).ns), .own (.slice (some ⟨gl, 0, none⟩) Q cgl) 3 1 Q (ints ((S.plc a).plc b).la), .own vh 4 1 Q (bls ((S.plc a).plc b).ha)]
  refine .dsr ?_
  refine .m ?_
  refine .u (.pointer (some ⟨r, 0, none⟩)) (.nilCheck rfl) ?_
  refine .fa Tfo_50_0 ?_
  refine .fa Tfo_29_4 ?_
  refine .u (.int .i64 (((S.plc a).plc b).rt)) (.load1 Tone_3 rfl (.b (.head _))) ?_
  refine .u (.int .i64 ((((S.plc a).plc b).rt) - 1)) (.sub rfl rfl rfl (by omega) (by omega)) ?_
  refine .u (.pointer (some ⟨r, 0, none⟩)) (.nilCheck rfl) ?_
  refine .fa Tfo_50_0 ?_
  refine .fa Tfo_29_4 ?_
  refine .step rfl (.store (us := [.int .i64 ((((S.plc a).plc b).rt) - 1)]) Tsize_3 rfl rfl rfl (.here _) (by simp only [List.length_cons, List.length_nil]; omega) ?_)
  show Run _ _ _ [.blk r 50 [.int .i64 (((Q : Nat) : Int)), vn2, vj1, .int .i64 t, .int .i64 ((((S.plc a).plc b).rt) - 1), .slice (some ⟨gl, 0, none⟩) Q cgl, vh], .own vj1 71 3 (((S.plc a).plc b).ws.length - 1) (wls (((S.plc a).plc b).ws.eraseIdx i)), .own vn2 52 2 (((S.plc a).plc b).ns.length) (nds ((S.plc a).plc b).ns), .own (.slice (some ⟨gl, 0, none⟩) Q cgl) 3 1 Q (ints ((S.plc a).plc b).la), .own vh 4 1 Q (bls ((S.plc a).plc b).ha)]
  refine .done ?_
  refine .ret ?_
  refine ⟨.tuple #[], [.blk r 50 [.int .i64 (((Q : Nat) : Int)), vn2, vj1, .int .i64 t, .int .i64 ((S.czd a b).rt), .slice (some ⟨gl, 0, none⟩) Q cgl, vh], .own vn2 52 2 ((S.czd a b).ns.length) (nds (S.czd a b).ns), .own vj1 71 3 ((S.czd a b).ws.length) (wls (S.czd a b).ws), .own (.slice (some ⟨gl, 0, none⟩) Q cgl) 3 1 Q (ints (S.czd a b).la), .own vh 4 1 Q (bls (S.czd a b).ha)], Out.none rfl, ((Weak.selF [0, 1, 0, 0, 0]).trans (Some'.weak (.takeEq (by first | rfl | (rw [hto]; done) | (rw [hto]; simp only [insW_length]; done) | (rw [hto, List.length_eraseIdx_of_lt (by omega)]; done) | (rw [hto]; simp only [List.length_eraseIdx_of_lt (show i < ((S.plc a).plc b).ws.length by omega)]; done)) (.takeEq (by first | rfl | (rw [hto]; done) | (rw [hto]; simp only [insW_length]; done) | (rw [hto, List.length_eraseIdx_of_lt (by omega)]; done) | (rw [hto]; simp only [List.length_eraseIdx_of_lt (show i < ((S.plc a).plc b).ws.length by omega)]; done)) (.takeEq (by first | rfl | (rw [hto]; done) | (rw [hto]; simp only [insW_length]; done) | (rw [hto, List.length_eraseIdx_of_lt (by omega)]; done) | (rw [hto]; simp only [List.length_eraseIdx_of_lt (show i < ((S.plc a).plc b).ws.length by omega)]; done)) (.takeEq (by first | rfl | (rw [hto]; done) | (rw [hto]; simp only [insW_length]; done) | (rw [hto, List.length_eraseIdx_of_lt (by omega)]; done) | (rw [hto]; simp only [List.length_eraseIdx_of_lt (show i < ((S.plc a).plc b).ws.length by omega)]; done)) (.takeEq (by first | rfl | (rw [hto]; done) | (rw [hto]; simp only [insW_length]; done) | (rw [hto, List.length_eraseIdx_of_lt (by omega)]; done) | (rw [hto]; simp only [List.length_eraseIdx_of_lt (show i < ((S.plc a).plc b).ws.length by omega)]; done)) (.nil _)))))))), ?_⟩
  exact ⟨_, _, rfl, rfl⟩
 have p35 := h35; try simp only [bs] at p35
 have hto : S.czd a b = { ((S.plc a).plc b) with ws := insW ((S.plc a).plc b).ws (min (ix ((S.plc a).plc b).la a) (ix ((S.plc a).plc b).la b), max (ix ((S.plc a).plc b).la a) (ix ((S.plc a).plc b).la b), true), rt := ((S.plc a).plc b).rt + 1 } := by rw [DgS.czd, DgS.tog, if_neg (by omega)]
 refine .skip ?_
 refine .sr ?_
 refine .m ?_
 refine .u (.pointer (some ⟨r, 0, none⟩)) (.nilCheck rfl) ?_
 refine .fa Tfo_50_0 ?_
 iterate 2 refine .m ?_
 refine .step rfl (.callM (H1 := [.blk r 50 [.int .i64 (((Q : Nat) : Int)), vn2, vw2, .int .i64 t, .int .i64 (((S.plc a).plc b).rt), .slice (some ⟨gl, 0, none⟩) Q cgl, vh], .own vw2 71 3 (((S.plc a).plc b).ws.length) (wls ((S.plc a).plc b).ws)]) (H2 := [.own vn2 52 2 (((S.plc a).plc b).ns.length) (nds ((S.plc a).plc b).ns), .own (.slice (some ⟨gl, 0, none⟩) Q cgl) 3 1 Q (ints ((S.plc a).plc b).la), .own vh 4 1 Q (bls ((S.plc a).plc b).ha)]) (vs := [.pointer (some ⟨r, 0, none⟩), .int .i64 (ix ((S.plc a).plc b).la (a)), .int .i64 (ix ((S.plc a).plc b).la (b)), .bool true]) (caps := []) Tcall_46 rfl rfl (Weak.selF [0, 1]) (fun w hs => join_spec rfl (by omega) hokU.srt (DgS.Ok.fdW_no (by omega)) (hs.sub (List.sublist_append_left _ _)).self) ?_)
 rintro _ _ ⟨vj2, rfl, rfl⟩
 show Run _ _ (putF _ _ _ (.tuple #[])) [.blk r 50 [.int .i64 (((Q : Nat) : Int)), vn2, vj2, .int .i64 t, .int .i64 (((S.plc a).plc b).rt), .slice (some ⟨gl, 0, none⟩) Q cgl, vh], .own vj2 71 3 (((S.plc a).plc b).ws.length + 1) (wls (insW (((S.plc a).plc b).ws) (min (ix ((S.plc a).plc b).la (a)) (ix ((S.plc a).plc b).la (b)), max (ix ((S.plc a).plc b).la (a)) (ix ((S.plc a).plc b).la (b)), true))), .own vn2 52 2 (((S.plc a).plc b).ns.length) (nds ((S.plc a).plc b).ns), .own (.slice (some ⟨gl, 0, none⟩) Q cgl) 3 1 Q (ints ((S.plc a).plc b).la), .own vh 4 1 Q (bls ((S.plc a).plc b).ha)]
 refine .dr ?_
 refine .m ?_
 refine .u (.pointer (some ⟨r, 0, none⟩)) (.nilCheck rfl) ?_
 refine .fa Tfo_50_0 ?_
 refine .fa Tfo_29_4 ?_
 refine .u (.int .i64 (((S.plc a).plc b).rt)) (.load1 Tone_3 rfl (.b (.head _))) ?_
 refine .u (.int .i64 ((((S.plc a).plc b).rt) + 1)) (.add rfl rfl rfl (by omega) (by omega)) ?_
 refine .u (.pointer (some ⟨r, 0, none⟩)) (.nilCheck rfl) ?_
 refine .fa Tfo_50_0 ?_
 refine .fa Tfo_29_4 ?_
 refine .step rfl (.store (us := [.int .i64 ((((S.plc a).plc b).rt) + 1)]) Tsize_3 rfl rfl rfl (.here _) (by simp only [List.length_cons, List.length_nil]; omega) ?_)
 show Run _ _ _ [.blk r 50 [.int .i64 (((Q : Nat) : Int)), vn2, vj2, .int .i64 t, .int .i64 ((((S.plc a).plc b).rt) + 1), .slice (some ⟨gl, 0, none⟩) Q cgl, vh], .own vj2 71 3 (((S.plc a).plc b).ws.length + 1) (wls (insW (((S.plc a).plc b).ws) (min (ix ((S.plc a).plc b).la (a)) (ix ((S.plc a).plc b).la (b)), max (ix ((S.plc a).plc b).la (a)) (ix ((S.plc a).plc b).la (b)), true))), .own vn2 52 2 (((S.plc a).plc b).ns.length) (nds ((S.plc a).plc b).ns), .own (.slice (some ⟨gl, 0, none⟩) Q cgl) 3 1 Q (ints ((S.plc a).plc b).la), .own vh 4 1 Q (bls ((S.plc a).plc b).ha)]
 refine .done ?_
 refine .fin ?_
 refine ⟨.tuple #[], [.blk r 50 [.int .i64 (((Q : Nat) : Int)), vn2, vj2, .int .i64 t, .int .i64 ((S.czd a b).rt), .slice (some ⟨gl, 0, none⟩) Q cgl, vh], .own vn2 52 2 ((S.czd a b).ns.length) (nds (S.czd a b).ns), .own vj2 71 3 ((S.czd a b).ws.length) (wls (S.czd a b).ws), .own (.slice (some ⟨gl, 0, none⟩) Q cgl) 3 1 Q (ints (S.czd a b).la), .own vh 4 1 Q (bls (S.czd a b).ha)], Out.none rfl, ((Weak.selF [0, 1, 0, 0, 0]).trans (Some'.weak (.takeEq (by first | rfl | (rw [hto]; done) | (rw [hto]; simp only [insW_length]; done) | (rw [hto, List.length_eraseIdx_of_lt (by omega)]; done) | (rw [hto]; simp only [List.length_eraseIdx_of_lt (show i < ((S.plc a).plc b).ws.length by omega)]; done)) (.takeEq (by first | rfl | (rw [hto]; done) | (rw [hto]; simp only [insW_length]; done) | (rw [hto, List.length_eraseIdx_of_lt (by omega)]; done) | (rw [hto]; simp only [List.length_eraseIdx_of_lt (show i < ((S.plc a).plc b).ws.length by omega)]; done)) (.takeEq (by first | rfl | (rw [hto]; done) | (rw [hto]; simp only [insW_length]; done) | (rw [hto, List.length_eraseIdx_of_lt (by omega)]; done) | (rw [hto]; simp only [List.length_eraseIdx_of_lt (show i < ((S.plc a).plc b).ws.length by omega)]; done)) (.takeEq (by first | rfl | (rw [hto]; done) | (rw [hto]; simp only [insW_length]; done) | (rw [hto, List.length_eraseIdx_of_lt (by omega)]; done) | (rw [hto]; simp only [List.length_eraseIdx_of_lt (show i < ((S.plc a).plc b).ws.length by omega)]; done)) (.takeEq (by first | rfl | (rw [hto]; done) | (rw [hto]; simp only [insW_length]; done) | (rw [hto, List.length_eraseIdx_of_lt (by omega)]; done) | (rw [hto]; simp only [List.length_eraseIdx_of_lt (show i < ((S.plc a).plc b).ws.length by omega)]; done)) (.nil _)))))))), ?_⟩
 exact ⟨_, _, rfl, rfl⟩

end Go.Proofs.Ytnnkoeknejeieaa
