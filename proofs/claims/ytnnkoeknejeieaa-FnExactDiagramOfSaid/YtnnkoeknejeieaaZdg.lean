/- Walks: the program draws a gate. -/
import Derived.Test.YtnnkoeknejeieaaZdf
import Derived.Test.YtnnkoeknejeieaaProg
set_option linter.unusedSimpArgs false
set_option linter.unusedVariables false
namespace Go.Proofs.Ytnnkoeknejeieaa
open Go Go.RowKit
namespace ZdgT
theorem Tcall_42 : callable Try.prog 42 = true := by kernel_rfl
theorem Tcall_43 : callable Try.prog 43 = true := by kernel_rfl
theorem Tcall_44 : callable Try.prog 44 = true := by kernel_rfl
theorem Tcall_45 : callable Try.prog 45 = true := by kernel_rfl
theorem Tfo_29_3 : fieldOff Try.prog 29 3 = some 3 := by kernel_rfl
theorem Tfo_50_0 : fieldOff Try.prog 50 0 = some 0 := by kernel_rfl
theorem Tfo_50_1 : fieldOff Try.prog 50 1 = some 5 := by kernel_rfl
theorem Tfo_50_2 : fieldOff Try.prog 50 2 = some 6 := by kernel_rfl
theorem Tfo_54_0 : fieldOff Try.prog 54 0 = some 0 := by kernel_rfl
theorem Tfo_54_1 : fieldOff Try.prog 54 1 = some 1 := by kernel_rfl
theorem Tfo_54_2 : fieldOff Try.prog 54 2 = some 2 := by kernel_rfl
theorem Tone_3 : oneOf Try.prog 3 = true := by kernel_rfl
theorem Tone_4 : oneOf Try.prog 4 = true := by kernel_rfl
theorem Tone_47 : oneOf Try.prog 47 = true := by kernel_rfl
theorem Tone_48 : oneOf Try.prog 48 = true := by kernel_rfl
theorem Tsize_3 : (Try.prog.info? 3).map (·.size) = some 1 := by kernel_rfl
theorem Tsize_4 : (Try.prog.info? 4).map (·.size) = some 1 := by kernel_rfl
theorem Tsl_47 : sliceOf Try.prog 47 = some (4, 1, 1, [.bool false]) := by kernel_rfl
theorem Tsl_48 : sliceOf Try.prog 48 = some (3, 1, 8, [.int .i64 0]) := by kernel_rfl
end ZdgT
open ZdgT

/-- Whatever order is drawn; S0 goes on to hold, S too but for the operations of Z. -/
def wpM (P : Program) (ops : Array Oper) (Q : Exit → Act → World → Prop) (S0 S : World → Prop) (Z : List Nat) : Nat → Array Bool → Act → World → Prop
  | 0, listed, a, w => Region.ready .any ops listed = [] ∧ Q .normal a w
  | fuel + 1, listed, a, w => (Region.ready .any ops listed = [] → Q .normal a w) ∧
    ∀ i ∈ Region.ready .any ops listed, wpOp P ops Q i (fun a' w' => (S0 w → S0 w') ∧ (Z.contains i = false → S w → S w') ∧ wpM P ops Q S0 S Z fuel (listed.setIfInBounds i true) a' w') a w
theorem wpM_any {P : Program} {ops : Array Oper} {Q : Exit → Act → World → Prop} {S0 S : World → Prop} {Z : List Nat} : ∀ (fuel : Nat) (listed : Array Bool) (a : Act) (w : World), wpM P ops Q S0 S Z fuel listed a w → wpAny P .any ops Q fuel listed a w
  | 0, _, _, _, h => h
  | fuel + 1, _, _, _, ⟨h1, h2⟩ => ⟨h1, fun i hi => wpOp_mono (fun a' w' ⟨_, _, h⟩ => wpM_any fuel _ a' w' h) (h2 i hi)⟩
theorem wpM_take {P : Program} {ops : Array Oper} {Q : Exit → Act → World → Prop} {S0 S : World → Prop} {Z : List Nat} {i : Nat} {oi : Oper} {v : Value} (B C : Bool) (hi : ops[i]? = some oi) (hsel : Region.noSelect ops = true) (hwt : C = true → waitsL ops Z i = true)
    (hQ : ∀ c a w, Q (.panic c) (a.put oi.dst v) w → Q (.panic c) a w) : ∀ (fuel : Nat) (listed : Array Bool) (a : Act) (w : World),
      (∀ j oj, ops[j]? = some oj → j ≠ i → listed.getD j true = false → (∀ e ∈ oj.after, Region.binds .any e = true → e.on ≠ i) → oi.apart ops oj = true) →
      i ∈ Region.ready .any ops listed → YieldsIf P ops (fun w => (B = true → S0 w) ∧ (C = true → S w)) oi v a → ((B = true → S0 w) ∧ (C = true → S w)) → wpM P ops Q S0 S Z fuel (listed.setIfInBounds i true) (a.put oi.dst v) w → wpM P ops Q S0 S Z (fuel + 1) listed a w := by
  have hs := Region.noSelect_spec hsel
  intro fuel
  induction fuel with
  | zero =>
    intro listed a w _ hr hy hS hK
    refine ⟨fun h => absurd hr (by rw [h]; simp), fun j hj => ?_⟩
    by_cases e : j = i
    · subst e; exact hy.wpOp hi hS ⟨fun h => h, fun _ h => h, hK⟩
    · have := ready_mono hj e
      rw [hK.1] at this; cases this
  | succ fuel ih =>
    intro listed a w hfree hr hy hS hK
    refine ⟨fun h => absurd hr (by rw [h]; simp), fun j hj => ?_⟩
    by_cases e : j = i
    · subst e; exact hy.wpOp hi hS ⟨fun h => h, fun _ h => h, hK⟩
    · obtain ⟨hun, oj, hoj, _⟩ := mem_ready.1 hj
      have hap := hfree j oj hoj e hun (ready_key hr hj oj hoj)
      refine wpOp_mono (fun a' w' ⟨g1, g0, g2, g3⟩ => ⟨g0, g2, ?_⟩) (wpOp_putIf hoj hap (fun cs b => hs i oi cs b hi) (fun cs b => hs j oj cs b hoj) hQ hy (hK.2 j (ready_mono hj e)))
      refine ih (listed.setIfInBounds j true) a' w' (fun k ok hk hki hku hkn => hfree k ok hk hki ?_ hkn) (ready_mono hr (Ne.symm e)) g1 ⟨fun hb => g0 (hS.1 hb), fun hc => g2 (ready_notZ (hwt hc) hr hj) (hS.2 hc)⟩ (by rw [Array.setIfInBounds_comm _ _ e]; exact g3)
      by_cases hjk : j = k
      · subst hjk; exact hun
      · rw [getD_set_ne true hjk] at hku; exact hku
def DM (E : Env) (ops : Array Oper) (Z : List Nat) (base base0 : List Res) (k : List It) (fuel : Nat) (listed : Array Bool) (f : Fr) (H : List Res) : Prop :=
  ∀ a w, Agree E.n a f → St E.M E.w0 w H → wpM E.P ops (E.lift (Cont E k)) (fun w => St E.M E.w0 w base0) (fun w => St E.M E.w0 w base) Z fuel listed a w
theorem Run.lastlyM {E : Env} {k : List It} {f : Fr} {H : List Res} {id : Nat} {l : List Oper} (Z : List Nat) (base base0 : List Res) (hm : E.P.follows .mixedOrders = true) (h : DM E l.toArray Z base base0 k l.toArray.size (Array.replicate l.toArray.size false) f H) : Run E (.code (.region id l.toArray true) :: k) f H :=
  fun a w ha hs => wp_region_any hm (wpM_any _ _ _ _ (h a { w with drawn := w.drawn + 1 } ha hs.drew))
section
variable {E : Env} {ops : Array Oper} {Z : List Nat} {base base0 : List Res} {k : List It} {fuel : Nat} {listed : Array Bool} {f : Fr} {H : List Res} {o : Oper} {v : Value}
theorem DM.t (i : Nat) (hi : ops[i]? = some o) (hb : Weak H base) (v : Value) (hy : OpY E o f base v) (h : DM E ops Z base base0 k fuel (listed.setIfInBounds i true) (putF E.n f o.dst v) H) (hs : Region.noSelect ops = true := by kernel_rfl) (hwt : waitsL ops Z i = true := by kernel_rfl) (hf : Region.free .any ops listed i = true := by kernel_rfl) (hr : (Region.ready .any ops listed).contains i = true := by kernel_rfl)
    (hQ : ∀ c f H, ¬ E.Q (.panic c) f H := by exact fun _ _ _ h => h) (hw : wantedF ops f o = true := by exact rfl) : DM E ops Z base base0 k (fuel + 1) listed f H := by
  intro a w ha hst
  exact wpM_take false true hi hs (fun _ => hwt) (fun c a' w' ⟨f', H', _, _, h3⟩ => absurd h3 (cont_panic hQ)) fuel listed a w (Region.free_spec hi hf) (by simpa using hr) (.inl ⟨by rw [wantedF_eq ha]; exact hw, fun w' hw' => by rw [ha.eval]; exact hy w' (hw'.2 rfl)⟩) ⟨(fun h => nomatch h), fun _ => hb _ _ _ hst⟩ (h _ _ (ha.put _ _) hst)
theorem DM.t0 (i : Nat) (hi : ops[i]? = some o) (hb : Weak H base0) (v : Value) (hy : OpY E o f base0 v) (h : DM E ops Z base base0 k fuel (listed.setIfInBounds i true) (putF E.n f o.dst v) H) (hs : Region.noSelect ops = true := by kernel_rfl) (hf : Region.free .any ops listed i = true := by kernel_rfl) (hr : (Region.ready .any ops listed).contains i = true := by kernel_rfl)
    (hQ : ∀ c f H, ¬ E.Q (.panic c) f H := by exact fun _ _ _ h => h) (hw : wantedF ops f o = true := by exact rfl) : DM E ops Z base base0 k (fuel + 1) listed f H := by
  intro a w ha hst
  exact wpM_take true false hi hs (fun h => nomatch h) (fun c a' w' ⟨f', H', _, _, h3⟩ => absurd h3 (cont_panic hQ)) fuel listed a w (Region.free_spec hi hf) (by simpa using hr) (.inl ⟨by rw [wantedF_eq ha]; exact hw, fun w' hw' => by rw [ha.eval]; exact hy w' (hw'.1 rfl)⟩) ⟨fun _ => hb _ _ _ hst, (fun h => nomatch h)⟩ (h _ _ (ha.put _ _) hst)
theorem DM.tP (i : Nat) (hi : ops[i]? = some o) (v : Value) (hy : ∀ w0, OpY ⟨E.P, E.n, No, w0, E.Q⟩ o f [] v) (h : DM E ops Z base base0 k fuel (listed.setIfInBounds i true) (putF E.n f o.dst v) H) (hs : Region.noSelect ops = true := by kernel_rfl) (hf : Region.free .any ops listed i = true := by kernel_rfl) (hr : (Region.ready .any ops listed).contains i = true := by kernel_rfl)
    (hQ : ∀ c f H, ¬ E.Q (.panic c) f H := by exact fun _ _ _ h => h) (hw : wantedF ops f o = true := by exact rfl) : DM E ops Z base base0 k (fuel + 1) listed f H := by
  intro a w ha hst
  exact wpM_take false false hi hs (fun h => nomatch h) (fun c a' w' ⟨f', H', _, _, h3⟩ => absurd h3 (cont_panic hQ)) fuel listed a w (Region.free_spec hi hf) (by simpa using hr) (.inl ⟨by rw [wantedF_eq ha]; exact hw, fun w' _ => by rw [ha.eval]; exact hy w' w' (St.empty _ _)⟩) ⟨(fun h => nomatch h), (fun h => nomatch h)⟩ (h _ _ (ha.put _ _) hst)
theorem DM.m (i : Nat) (hi : ops[i]? = some o) (h : DM E ops Z base base0 k fuel (listed.setIfInBounds i true) (putF E.n f o.dst v) H) (hs : Region.noSelect ops = true := by kernel_rfl) (hf : Region.free .any ops listed i = true := by kernel_rfl) (hr : (Region.ready .any ops listed).contains i = true := by kernel_rfl)
    (hQ : ∀ c f H, ¬ E.Q (.panic c) f H := by exact fun _ _ _ h => h) (hw : wantedF ops f o = true := by exact rfl) (hm : moveF f o.op = some v := by exact rfl) : DM E ops Z base base0 k (fuel + 1) listed f H := DM.tP i hi v (fun _ => OpY.pure (moveF_eq hm)) h hs hf hr hQ hw
/-- One of Z, alone. -/
theorem DM.step {i : Nat} {o : Oper} (hr : Region.ready .any ops listed = [i]) (hz : Z.contains i = true) (hi : ops[i]? = some o) (hw : wantedF ops f o = true)
    (h : OpStep E o f H fun f' H' => Weak H' base0 ∧ DM E ops Z base base0 k fuel (listed.setIfInBounds i true) f' H') : DM E ops Z base base0 k (fuel + 1) listed f H := by
  intro a w ha hst
  refine ⟨fun h0 => absurd (hr.symm.trans h0) (by simp), fun j hj => ?_⟩
  rw [hr] at hj
  simp only [List.mem_singleton] at hj
  subst hj
  unfold wpOp
  simp only [hi]
  rw [wantedF_eq ha, hw, if_pos rfl]
  exact .inl (h a w ha hst _ _ fun f' H' a' w' h1 h2 h3 => ⟨fun _ => h3.1 _ _ _ h2, fun hne => absurd hz (by rw [hne]; decide), h3.2 a' w' h1 h2⟩)
theorem DM.done (hr : Region.ready .any ops listed = []) (h : Run E k f H) : DM E ops Z base base0 k fuel listed f H := by
  intro a w ha hst
  cases fuel with
  | zero => exact ⟨hr, f, H, ha, hst, h⟩
  | succ n => exact ⟨fun _ => ⟨f, H, ha, hst, h⟩, by rw [hr]; simp⟩
end
theorem rot_bd (k : Int) : 0 ≤ DgS.rot k ∧ DgS.rot k ≤ 7 := by
  unfold DgS.rot; repeat' split
  all_goals omega

set_option maxHeartbeats 1000000 in
set_option maxRecDepth 20000 in
theorem rotationCoef_spec (k : Int) (w : World) : Calls Try.prog 45 #[.int .i64 k] w (Post No w fun v _ => v = .int .i64 (DgS.rot k)) := by
 refine enter (n := 14) (args := [.int .i64 k]) Try.func45 rfl rfl (St.empty _ _) ?_
 refine .sr ?_
 refine .m ?_
 refine .done ?_
 refine .seq ?_
 refine .sr ?_
 refine .m ?_
 refine .done ?_
 refine .block ?_
 refine .sr ?_
 refine .w (.bool (k == 4)) ?_
 refine .m ?_
 refine .done ?_
 refine .cond (b := k == 4) rfl (fun h4 => ?_) (fun h4 => ?_)
 ·have p4 := h4; try simp only [bs] at p4
  refine .sr ?_
  refine .m ?_
  refine .done ?_
  refine .ret ?_
  refine ⟨.int .i64 4, [], Out.one rfl rfl, (Some'.weak (.nil _)), ?_⟩
  show _ = _; simp_all [DgS.rot]
 have p4 := h4; try simp only [bs] at p4
 refine .sr ?_
 refine .w (.bool (k == 5)) ?_
 refine .m ?_
 refine .done ?_
 refine .cond (b := k == 5) rfl (fun h6 => ?_) (fun h6 => ?_)
 ·have p6 := h6; try simp only [bs] at p6
  refine .sr ?_
  refine .m ?_
  refine .done ?_
  refine .ret ?_
  refine ⟨.int .i64 2, [], Out.one rfl rfl, (Some'.weak (.nil _)), ?_⟩
  show _ = _; simp_all [DgS.rot]
 have p6 := h6; try simp only [bs] at p6
 refine .sr ?_
 refine .w (.bool (k == 6)) ?_
 refine .m ?_
 refine .done ?_
 refine .cond (b := k == 6) rfl (fun h8 => ?_) (fun h8 => ?_)
 ·have p8 := h8; try simp only [bs] at p8
  refine .sr ?_
  refine .m ?_
  refine .done ?_
  refine .ret ?_
  refine ⟨.int .i64 6, [], Out.one rfl rfl, (Some'.weak (.nil _)), ?_⟩
  show _ = _; simp_all [DgS.rot]
 have p8 := h8; try simp only [bs] at p8
 refine .sr ?_
 refine .w (.bool (k == 7)) ?_
 refine .m ?_
 refine .done ?_
 refine .cond (b := k == 7) rfl (fun h10 => ?_) (fun h10 => ?_)
 ·have p10 := h10; try simp only [bs] at p10
  refine .sr ?_
  refine .m ?_
  refine .done ?_
  refine .ret ?_
  refine ⟨.int .i64 1, [], Out.one rfl rfl, (Some'.weak (.nil _)), ?_⟩
  show _ = _; simp_all [DgS.rot]
 have p10 := h10; try simp only [bs] at p10
 refine .sr ?_
 refine .w (.bool (k == 8)) ?_
 refine .m ?_
 refine .done ?_
 refine .cond (b := k == 8) rfl (fun h12 => ?_) (fun h12 => ?_)
 ·have p12 := h12; try simp only [bs] at p12
  refine .sr ?_
  refine .m ?_
  refine .done ?_
  refine .ret ?_
  refine ⟨.int .i64 7, [], Out.one rfl rfl, (Some'.weak (.nil _)), ?_⟩
  show _ = _; simp_all [DgS.rot]
 have p12 := h12; try simp only [bs] at p12
 refine .skip ?_
 refine .blockEnd ?_
 refine .sr ?_
 refine .m ?_
 refine .done ?_
 refine .ret ?_
 refine ⟨.int .i64 0, [], Out.one rfl rfl, (Some'.weak (.nil _)), ?_⟩
 show _ = _; simp_all [DgS.rot]

set_option maxHeartbeats 4000000 in
set_option maxRecDepth 20000 in
theorem draw_spec {r Q m : Nat} {t : Int} {vn vw vl vh : Value} {S : DgS} {w : World} (hok : S.Ok Q m) (hm : m ≤ 90000) {k : Int} {a b : Nat} (hk : 1 ≤ k ∧ k ≤ 12) (ha : a < Q) (hb : b < Q) (ht : 0 ≤ t ∧ t < 8) (h : St (Of [.blk r 50 [.int .i64 (((Q : Nat) : Int)), vn, vw, .int .i64 t, .int .i64 (S.rt), vl, vh], .own vn 52 2 (S.ns.length) (nds S.ns), .own vw 71 3 (S.ws.length) (wls S.ws), .own vl 3 1 Q (ints S.la), .own vh 4 1 Q (bls S.ha)]) w w [.blk r 50 [.int .i64 (((Q : Nat) : Int)), vn, vw, .int .i64 t, .int .i64 (S.rt), vl, vh], .own vn 52 2 (S.ns.length) (nds S.ns), .own vw 71 3 (S.ws.length) (wls S.ws), .own vl 3 1 Q (ints S.la), .own vh 4 1 Q (bls S.ha)]) : Calls Try.prog 19 #[.pointer (some ⟨r, 0, none⟩), .agg #[.int .i64 k, .int .i64 (a : Nat), .int .i64 (b : Nat)]] w (Post (Of [.blk r 50 [.int .i64 (((Q : Nat) : Int)), vn, vw, .int .i64 t, .int .i64 (S.rt), vl, vh], .own vn 52 2 (S.ns.length) (nds S.ns), .own vw 71 3 (S.ws.length) (wls S.ws), .own vl 3 1 Q (ints S.la), .own vh 4 1 Q (bls S.ha)]) w fun v H => ∃ vn2 vw2, v = .tuple #[] ∧ H = [.blk r 50 [.int .i64 (((Q : Nat) : Int)), vn2, vw2, .int .i64 (((t + DgS.tn k) % 8)), .int .i64 ((S.gate k a b).rt), vl, vh], .own vn2 52 2 ((S.gate k a b).ns.length) (nds (S.gate k a b).ns), .own vw2 71 3 ((S.gate k a b).ws.length) (wls (S.gate k a b).ws), .own vl 3 1 Q (ints (S.gate k a b).la), .own vh 4 1 Q (bls (S.gate k a b).ha)]) := by
 have hla := hok.la
 have hha := hok.ha
 have hbn := hok.bn
 have hbw := hok.bw
 have hbr := hok.br
 have hrb := rot_bd k
 refine enter (n := 161) (args := [.pointer (some ⟨r, 0, none⟩), .agg #[.int .i64 k, .int .i64 (((a : Nat) : Int)), .int .i64 (((b : Nat) : Int))]]) Try.func19 rfl rfl (h) ?_
 refine .sr ?_
 refine .step rfl (.box (us := [.int .i64 k, .int .i64 (((a : Nat) : Int)), .int .i64 (((b : Nat) : Int))]) rfl fun b1 => ?_)
 refine .dsr ?_
 refine .fa Tfo_54_0 ?_
 refine .u (.int .i64 k) (.load1 Tone_3 rfl (.b (.head _))) ?_
 refine .done ?_
 refine .block ?_
 refine .sr ?_
 refine .w (.bool (k == 1)) ?_
 refine .m ?_
 refine .done ?_
 refine .cond (b := k == 1) rfl (fun h13 => ?_) (fun h13 => ?_)
 ·have p13 := h13; try simp only [bs] at p13
  have hgt : S.gate k a b = S.flp a := by rw [DgS.gate, if_pos p13]
  have htn : (t + DgS.tn k) % 8 = t := by rw [DgS.tn, if_neg (by omega), if_neg (by omega)]; omega
  refine .region ?_
  refine .m ?_
  refine .fa Tfo_54_1 ?_
  refine .u (.int .i64 (((a : Nat) : Int))) (.load1 Tone_3 rfl (.b (.head _))) ?_
  refine .step rfl (.callM (H1 := [.blk r 50 [.int .i64 (((Q : Nat) : Int)), vn, vw, .int .i64 t, .int .i64 (S.rt), vl, vh], .own vn 52 2 (S.ns.length) (nds S.ns), .own vw 71 3 (S.ws.length) (wls S.ws), .own vl 3 1 Q (ints S.la), .own vh 4 1 Q (bls S.ha)]) (H2 := [.blk b1 54 [.int .i64 k, .int .i64 (((a : Nat) : Int)), .int .i64 (((b : Nat) : Int))]]) (vs := [.pointer (some ⟨r, 0, none⟩), .int .i64 (((a : Nat) : Int))]) (caps := []) Tcall_42 rfl rfl (Weak.selF [1, 1, 1, 1, 1]) (fun w hs => flip_spec hok (by omega) ha (hs.sub (List.sublist_append_left _ _)).self) ?_)
  rintro _ _ ⟨vn1, vw1, rfl, rfl⟩
  show Run _ _ (putF _ _ _ (.tuple #[])) [.blk r 50 [.int .i64 (((Q : Nat) : Int)), vn1, vw1, .int .i64 t, .int .i64 ((S.flp a).rt), vl, vh], .own vn1 52 2 ((S.flp a).ns.length) (nds (S.flp a).ns), .own vw1 71 3 ((S.flp a).ws.length) (wls (S.flp a).ws), .own vl 3 1 Q (ints (S.flp a).la), .own vh 4 1 Q (bls (S.flp a).ha), .blk b1 54 [.int .i64 k, .int .i64 (((a : Nat) : Int)), .int .i64 (((b : Nat) : Int))]]
  refine .done ?_
  refine .blockEnd ?_
  refine .fin ?_
  refine ⟨.tuple #[], [.blk r 50 [.int .i64 (((Q : Nat) : Int)), vn1, vw1, .int .i64 ((t + DgS.tn k) % 8), .int .i64 ((S.gate k a b).rt), vl, vh], .own vn1 52 2 ((S.gate k a b).ns.length) (nds (S.gate k a b).ns), .own vw1 71 3 ((S.gate k a b).ws.length) (wls (S.gate k a b).ws), .own vl 3 1 Q (ints (S.gate k a b).la), .own vh 4 1 Q (bls (S.gate k a b).ha)], Out.none rfl, (Some'.weak (.takeEq (by first | rfl | (rw [hgt]; done) | (rw [hgt]; rfl) | (rw [hgt, htn]; done) | (rw [hgt, htn]; rfl)) (.takeEq (by first | rfl | (rw [hgt]; done) | (rw [hgt]; rfl) | (rw [hgt, htn]; done) | (rw [hgt, htn]; rfl)) (.takeEq (by first | rfl | (rw [hgt]; done) | (rw [hgt]; rfl) | (rw [hgt, htn]; done) | (rw [hgt, htn]; rfl)) (.takeEq (by first | rfl | (rw [hgt]; done) | (rw [hgt]; rfl) | (rw [hgt, htn]; done) | (rw [hgt, htn]; rfl)) (.takeEq (by first | rfl | (rw [hgt]; done) | (rw [hgt]; rfl) | (rw [hgt, htn]; done) | (rw [hgt, htn]; rfl)) (.nil _))))))), ?_⟩
  exact ⟨_, _, rfl, rfl⟩
 have p13 := h13; try simp only [bs] at p13
 refine .sr ?_
 refine .w (.bool (k == 2)) ?_
 refine .m ?_
 refine .done ?_
 refine .cond (b := k == 2) rfl (fun h19 => ?_) (fun h19 => ?_)
 ·have p19 := h19; try simp only [bs] at p19
  have hgt : S.gate k a b = ((S.flp a).trn a 4).flp a := by rw [DgS.gate, if_neg p13, if_pos p19]
  have htn : (t + DgS.tn k) % 8 = t := by rw [DgS.tn, if_neg (by omega), if_neg (by omega)]; omega
  refine .sr ?_
  refine .m ?_
  refine .fa Tfo_54_1 ?_
  refine .u (.int .i64 (((a : Nat) : Int))) (.load1 Tone_3 rfl (.b (.head _))) ?_
  refine .step rfl (.callM (H1 := [.blk r 50 [.int .i64 (((Q : Nat) : Int)), vn, vw, .int .i64 t, .int .i64 (S.rt), vl, vh], .own vn 52 2 (S.ns.length) (nds S.ns), .own vw 71 3 (S.ws.length) (wls S.ws), .own vl 3 1 Q (ints S.la), .own vh 4 1 Q (bls S.ha)]) (H2 := [.blk b1 54 [.int .i64 k, .int .i64 (((a : Nat) : Int)), .int .i64 (((b : Nat) : Int))]]) (vs := [.pointer (some ⟨r, 0, none⟩), .int .i64 (((a : Nat) : Int))]) (caps := []) Tcall_42 rfl rfl (Weak.selF [1, 1, 1, 1, 1]) (fun w hs => flip_spec hok (by omega) ha (hs.sub (List.sublist_append_left _ _)).self) ?_)
  rintro _ _ ⟨vn2, vw2, rfl, rfl⟩
  show Run _ _ (putF _ _ _ (.tuple #[])) [.blk r 50 [.int .i64 (((Q : Nat) : Int)), vn2, vw2, .int .i64 t, .int .i64 ((S.flp a).rt), vl, vh], .own vn2 52 2 ((S.flp a).ns.length) (nds (S.flp a).ns), .own vw2 71 3 ((S.flp a).ws.length) (wls (S.flp a).ws), .own vl 3 1 Q (ints (S.flp a).la), .own vh 4 1 Q (bls (S.flp a).ha), .blk b1 54 [.int .i64 k, .int .i64 (((a : Nat) : Int)), .int .i64 (((b : Nat) : Int))]]
  refine .dsr ?_
  refine .m ?_
  refine .fa Tfo_54_1 ?_
  refine .u (.int .i64 (((a : Nat) : Int))) (.load1 Tone_3 rfl (.b (.tail _ (.tail _ (.tail _ (.tail _ (.tail _ (.head _)))))))) ?_
  refine .step rfl (.callM (H1 := [.blk r 50 [.int .i64 (((Q : Nat) : Int)), vn2, vw2, .int .i64 t, .int .i64 ((S.flp a).rt), vl, vh], .own vn2 52 2 ((S.flp a).ns.length) (nds (S.flp a).ns), .own vw2 71 3 ((S.flp a).ws.length) (wls (S.flp a).ws), .own vl 3 1 Q (ints (S.flp a).la), .own vh 4 1 Q (bls (S.flp a).ha)]) (H2 := [.blk b1 54 [.int .i64 k, .int .i64 (((a : Nat) : Int)), .int .i64 (((b : Nat) : Int))]]) (vs := [.pointer (some ⟨r, 0, none⟩), .int .i64 (((a : Nat) : Int)), .int .i64 4]) (caps := []) Tcall_43 rfl rfl (Weak.refl _) (fun w hs => turn_spec (hok.flp a) (by omega) ha (by decide) (hs.sub (List.sublist_append_left _ _)).self) ?_)
  rintro _ _ ⟨vn3, vw3, rfl, rfl⟩
  show Run _ _ (putF _ _ _ (.tuple #[])) [.blk r 50 [.int .i64 (((Q : Nat) : Int)), vn3, vw3, .int .i64 t, .int .i64 (((S.flp a).trn a 4).rt), vl, vh], .own vn3 52 2 (((S.flp a).trn a 4).ns.length) (nds ((S.flp a).trn a 4).ns), .own vw3 71 3 (((S.flp a).trn a 4).ws.length) (wls ((S.flp a).trn a 4).ws), .own vl 3 1 Q (ints ((S.flp a).trn a 4).la), .own vh 4 1 Q (bls ((S.flp a).trn a 4).ha), .blk b1 54 [.int .i64 k, .int .i64 (((a : Nat) : Int)), .int .i64 (((b : Nat) : Int))]]
  refine .dr ?_
  refine .m ?_
  refine .fa Tfo_54_1 ?_
  refine .u (.int .i64 (((a : Nat) : Int))) (.load1 Tone_3 rfl (.b (.tail _ (.tail _ (.tail _ (.tail _ (.tail _ (.head _)))))))) ?_
  refine .step rfl (.callM (H1 := [.blk r 50 [.int .i64 (((Q : Nat) : Int)), vn3, vw3, .int .i64 t, .int .i64 (((S.flp a).trn a 4).rt), vl, vh], .own vn3 52 2 (((S.flp a).trn a 4).ns.length) (nds ((S.flp a).trn a 4).ns), .own vw3 71 3 (((S.flp a).trn a 4).ws.length) (wls ((S.flp a).trn a 4).ws), .own vl 3 1 Q (ints ((S.flp a).trn a 4).la), .own vh 4 1 Q (bls ((S.flp a).trn a 4).ha)]) (H2 := [.blk b1 54 [.int .i64 k, .int .i64 (((a : Nat) : Int)), .int .i64 (((b : Nat) : Int))]]) (vs := [.pointer (some ⟨r, 0, none⟩), .int .i64 (((a : Nat) : Int))]) (caps := []) Tcall_42 rfl rfl (Weak.refl _) (fun w hs => flip_spec ((hok.flp a).trn ha _) (by omega) ha (hs.sub (List.sublist_append_left _ _)).self) ?_)
  rintro _ _ ⟨vn4, vw4, rfl, rfl⟩
  show Run _ _ (putF _ _ _ (.tuple #[])) [.blk r 50 [.int .i64 (((Q : Nat) : Int)), vn4, vw4, .int .i64 t, .int .i64 ((((S.flp a).trn a 4).flp a).rt), vl, vh], .own vn4 52 2 ((((S.flp a).trn a 4).flp a).ns.length) (nds (((S.flp a).trn a 4).flp a).ns), .own vw4 71 3 ((((S.flp a).trn a 4).flp a).ws.length) (wls (((S.flp a).trn a 4).flp a).ws), .own vl 3 1 Q (ints (((S.flp a).trn a 4).flp a).la), .own vh 4 1 Q (bls (((S.flp a).trn a 4).flp a).ha), .blk b1 54 [.int .i64 k, .int .i64 (((a : Nat) : Int)), .int .i64 (((b : Nat) : Int))]]
  refine .done ?_
  refine .blockEnd ?_
  refine .fin ?_
  refine ⟨.tuple #[], [.blk r 50 [.int .i64 (((Q : Nat) : Int)), vn4, vw4, .int .i64 ((t + DgS.tn k) % 8), .int .i64 ((S.gate k a b).rt), vl, vh], .own vn4 52 2 ((S.gate k a b).ns.length) (nds (S.gate k a b).ns), .own vw4 71 3 ((S.gate k a b).ws.length) (wls (S.gate k a b).ws), .own vl 3 1 Q (ints (S.gate k a b).la), .own vh 4 1 Q (bls (S.gate k a b).ha)], Out.none rfl, (Some'.weak (.takeEq (by first | rfl | (rw [hgt]; done) | (rw [hgt]; rfl) | (rw [hgt, htn]; done) | (rw [hgt, htn]; rfl)) (.takeEq (by first | rfl | (rw [hgt]; done) | (rw [hgt]; rfl) | (rw [hgt, htn]; done) | (rw [hgt, htn]; rfl)) (.takeEq (by first | rfl | (rw [hgt]; done) | (rw [hgt]; rfl) | (rw [hgt, htn]; done) | (rw [hgt, htn]; rfl)) (.takeEq (by first | rfl | (rw [hgt]; done) | (rw [hgt]; rfl) | (rw [hgt, htn]; done) | (rw [hgt, htn]; rfl)) (.takeEq (by first | rfl | (rw [hgt]; done) | (rw [hgt]; rfl) | (rw [hgt, htn]; done) | (rw [hgt, htn]; rfl)) (.nil _))))))), ?_⟩
  exact ⟨_, _, rfl, rfl⟩
 have p19 := h19; try simp only [bs] at p19
 refine .sr ?_
 refine .w (.bool (k == 3)) ?_
 refine .m ?_
 refine .done ?_
 refine .cond (b := k == 3) rfl (fun h33 => ?_) (fun h33 => ?_)
 ·have p33 := h33; try simp only [bs] at p33
  have hgt : S.gate k a b = (((S.trn a 4).flp a).trn a 4).flp a := by rw [DgS.gate, if_neg p13, if_neg p19, if_pos p33]
  have htn : (t + DgS.tn k) % 8 = (t + 2) % 8 := by rw [DgS.tn, if_pos p33]
  refine .sr ?_
  refine .m ?_
  refine .fa Tfo_54_1 ?_
  refine .u (.int .i64 (((a : Nat) : Int))) (.load1 Tone_3 rfl (.b (.head _))) ?_
  refine .step rfl (.callM (H1 := [.blk r 50 [.int .i64 (((Q : Nat) : Int)), vn, vw, .int .i64 t, .int .i64 (S.rt), vl, vh], .own vn 52 2 (S.ns.length) (nds S.ns), .own vw 71 3 (S.ws.length) (wls S.ws), .own vl 3 1 Q (ints S.la), .own vh 4 1 Q (bls S.ha)]) (H2 := [.blk b1 54 [.int .i64 k, .int .i64 (((a : Nat) : Int)), .int .i64 (((b : Nat) : Int))]]) (vs := [.pointer (some ⟨r, 0, none⟩), .int .i64 (((a : Nat) : Int)), .int .i64 4]) (caps := []) Tcall_43 rfl rfl (Weak.selF [1, 1, 1, 1, 1]) (fun w hs => turn_spec hok (by omega) ha (by decide) (hs.sub (List.sublist_append_left _ _)).self) ?_)
  rintro _ _ ⟨vn5, vw5, rfl, rfl⟩
  show Run _ _ (putF _ _ _ (.tuple #[])) [.blk r 50 [.int .i64 (((Q : Nat) : Int)), vn5, vw5, .int .i64 t, .int .i64 ((S.trn a 4).rt), vl, vh], .own vn5 52 2 ((S.trn a 4).ns.length) (nds (S.trn a 4).ns), .own vw5 71 3 ((S.trn a 4).ws.length) (wls (S.trn a 4).ws), .own vl 3 1 Q (ints (S.trn a 4).la), .own vh 4 1 Q (bls (S.trn a 4).ha), .blk b1 54 [.int .i64 k, .int .i64 (((a : Nat) : Int)), .int .i64 (((b : Nat) : Int))]]
  refine .dsr ?_
  refine .m ?_
  refine .fa Tfo_54_1 ?_
  refine .u (.int .i64 (((a : Nat) : Int))) (.load1 Tone_3 rfl (.b (.tail _ (.tail _ (.tail _ (.tail _ (.tail _ (.head _)))))))) ?_
  refine .step rfl (.callM (H1 := [.blk r 50 [.int .i64 (((Q : Nat) : Int)), vn5, vw5, .int .i64 t, .int .i64 ((S.trn a 4).rt), vl, vh], .own vn5 52 2 ((S.trn a 4).ns.length) (nds (S.trn a 4).ns), .own vw5 71 3 ((S.trn a 4).ws.length) (wls (S.trn a 4).ws), .own vl 3 1 Q (ints (S.trn a 4).la), .own vh 4 1 Q (bls (S.trn a 4).ha)]) (H2 := [.blk b1 54 [.int .i64 k, .int .i64 (((a : Nat) : Int)), .int .i64 (((b : Nat) : Int))]]) (vs := [.pointer (some ⟨r, 0, none⟩), .int .i64 (((a : Nat) : Int))]) (caps := []) Tcall_42 rfl rfl (Weak.refl _) (fun w hs => flip_spec (hok.trn ha _) (by omega) ha (hs.sub (List.sublist_append_left _ _)).self) ?_)
  rintro _ _ ⟨vn6, vw6, rfl, rfl⟩
  show Run _ _ (putF _ _ _ (.tuple #[])) [.blk r 50 [.int .i64 (((Q : Nat) : Int)), vn6, vw6, .int .i64 t, .int .i64 (((S.trn a 4).flp a).rt), vl, vh], .own vn6 52 2 (((S.trn a 4).flp a).ns.length) (nds ((S.trn a 4).flp a).ns), .own vw6 71 3 (((S.trn a 4).flp a).ws.length) (wls ((S.trn a 4).flp a).ws), .own vl 3 1 Q (ints ((S.trn a 4).flp a).la), .own vh 4 1 Q (bls ((S.trn a 4).flp a).ha), .blk b1 54 [.int .i64 k, .int .i64 (((a : Nat) : Int)), .int .i64 (((b : Nat) : Int))]]
  refine .dsr ?_
  refine .m ?_
  refine .fa Tfo_54_1 ?_
  refine .u (.int .i64 (((a : Nat) : Int))) (.load1 Tone_3 rfl (.b (.tail _ (.tail _ (.tail _ (.tail _ (.tail _ (.head _)))))))) ?_
  refine .step rfl (.callM (H1 := [.blk r 50 [.int .i64 (((Q : Nat) : Int)), vn6, vw6, .int .i64 t, .int .i64 (((S.trn a 4).flp a).rt), vl, vh], .own vn6 52 2 (((S.trn a 4).flp a).ns.length) (nds ((S.trn a 4).flp a).ns), .own vw6 71 3 (((S.trn a 4).flp a).ws.length) (wls ((S.trn a 4).flp a).ws), .own vl 3 1 Q (ints ((S.trn a 4).flp a).la), .own vh 4 1 Q (bls ((S.trn a 4).flp a).ha)]) (H2 := [.blk b1 54 [.int .i64 k, .int .i64 (((a : Nat) : Int)), .int .i64 (((b : Nat) : Int))]]) (vs := [.pointer (some ⟨r, 0, none⟩), .int .i64 (((a : Nat) : Int)), .int .i64 4]) (caps := []) Tcall_43 rfl rfl (Weak.refl _) (fun w hs => turn_spec ((hok.trn ha _).flp a) (by omega) ha (by decide) (hs.sub (List.sublist_append_left _ _)).self) ?_)
  rintro _ _ ⟨vn7, vw7, rfl, rfl⟩
  show Run _ _ (putF _ _ _ (.tuple #[])) [.blk r 50 [.int .i64 (((Q : Nat) : Int)), vn7, vw7, .int .i64 t, .int .i64 ((((S.trn a 4).flp a).trn a 4).rt), vl, vh], .own vn7 52 2 ((((S.trn a 4).flp a).trn a 4).ns.length) (nds (((S.trn a 4).flp a).trn a 4).ns), .own vw7 71 3 ((((S.trn a 4).flp a).trn a 4).ws.length) (wls (((S.trn a 4).flp a).trn a 4).ws), .own vl 3 1 Q (ints (((S.trn a 4).flp a).trn a 4).la), .own vh 4 1 Q (bls (((S.trn a 4).flp a).trn a 4).ha), .blk b1 54 [.int .i64 k, .int .i64 (((a : Nat) : Int)), .int .i64 (((b : Nat) : Int))]]
  refine .dsr ?_
  refine .m ?_
  refine .fa Tfo_54_1 ?_
  refine .u (.int .i64 (((a : Nat) : Int))) (.load1 Tone_3 rfl (.b (.tail _ (.tail _ (.tail _ (.tail _ (.tail _ (.head _)))))))) ?_
  refine .step rfl (.callM (H1 := [.blk r 50 [.int .i64 (((Q : Nat) : Int)), vn7, vw7, .int .i64 t, .int .i64 ((((S.trn a 4).flp a).trn a 4).rt), vl, vh], .own vn7 52 2 ((((S.trn a 4).flp a).trn a 4).ns.length) (nds (((S.trn a 4).flp a).trn a 4).ns), .own vw7 71 3 ((((S.trn a 4).flp a).trn a 4).ws.length) (wls (((S.trn a 4).flp a).trn a 4).ws), .own vl 3 1 Q (ints (((S.trn a 4).flp a).trn a 4).la), .own vh 4 1 Q (bls (((S.trn a 4).flp a).trn a 4).ha)]) (H2 := [.blk b1 54 [.int .i64 k, .int .i64 (((a : Nat) : Int)), .int .i64 (((b : Nat) : Int))]]) (vs := [.pointer (some ⟨r, 0, none⟩), .int .i64 (((a : Nat) : Int))]) (caps := []) Tcall_42 rfl rfl (Weak.refl _) (fun w hs => flip_spec (((hok.trn ha _).flp a).trn ha _) (by omega) ha (hs.sub (List.sublist_append_left _ _)).self) ?_)
  rintro _ _ ⟨vn8, vw8, rfl, rfl⟩
  show Run _ _ (putF _ _ _ (.tuple #[])) [.blk r 50 [.int .i64 (((Q : Nat) : Int)), vn8, vw8, .int .i64 t, .int .i64 (((((S.trn a 4).flp a).trn a 4).flp a).rt), vl, vh], .own vn8 52 2 (((((S.trn a 4).flp a).trn a 4).flp a).ns.length) (nds ((((S.trn a 4).flp a).trn a 4).flp a).ns), .own vw8 71 3 (((((S.trn a 4).flp a).trn a 4).flp a).ws.length) (wls ((((S.trn a 4).flp a).trn a 4).flp a).ws), .own vl 3 1 Q (ints ((((S.trn a 4).flp a).trn a 4).flp a).la), .own vh 4 1 Q (bls ((((S.trn a 4).flp a).trn a 4).flp a).ha), .blk b1 54 [.int .i64 k, .int .i64 (((a : Nat) : Int)), .int .i64 (((b : Nat) : Int))]]
  refine .dr ?_
  iterate 2 refine .m ?_
  refine .u (.pointer (some ⟨r, 0, none⟩)) (.nilCheck rfl) ?_
  refine .fa Tfo_50_0 ?_
  refine .fa Tfo_29_3 ?_
  refine .u (.int .i64 t) (.load1 Tone_3 rfl (.b (.head _))) ?_
  refine .u (.int .i64 (t + 2)) (.add rfl rfl rfl (by omega) (by omega)) ?_
  refine .u (.int .i64 ((t + 2) % 8)) (.rem rfl rfl (by omega) (by omega)) ?_
  refine .u (.pointer (some ⟨r, 0, none⟩)) (.nilCheck rfl) ?_
  refine .fa Tfo_50_0 ?_
  refine .fa Tfo_29_3 ?_
  refine .step rfl (.store (us := [.int .i64 ((t + 2) % 8)]) Tsize_3 rfl rfl rfl (.here _) (by simp only [List.length_cons, List.length_nil]; omega) ?_)
  show Run _ _ _ [.blk r 50 [.int .i64 (((Q : Nat) : Int)), vn8, vw8, .int .i64 ((t + 2) % 8), .int .i64 (((((S.trn a 4).flp a).trn a 4).flp a).rt), vl, vh], .own vn8 52 2 (((((S.trn a 4).flp a).trn a 4).flp a).ns.length) (nds ((((S.trn a 4).flp a).trn a 4).flp a).ns), .own vw8 71 3 (((((S.trn a 4).flp a).trn a 4).flp a).ws.length) (wls ((((S.trn a 4).flp a).trn a 4).flp a).ws), .own vl 3 1 Q (ints ((((S.trn a 4).flp a).trn a 4).flp a).la), .own vh 4 1 Q (bls ((((S.trn a 4).flp a).trn a 4).flp a).ha), .blk b1 54 [.int .i64 k, .int .i64 (((a : Nat) : Int)), .int .i64 (((b : Nat) : Int))]]
  refine .done ?_
  refine .blockEnd ?_
  refine .fin ?_
  refine ⟨.tuple #[], [.blk r 50 [.int .i64 (((Q : Nat) : Int)), vn8, vw8, .int .i64 ((t + DgS.tn k) % 8), .int .i64 ((S.gate k a b).rt), vl, vh], .own vn8 52 2 ((S.gate k a b).ns.length) (nds (S.gate k a b).ns), .own vw8 71 3 ((S.gate k a b).ws.length) (wls (S.gate k a b).ws), .own vl 3 1 Q (ints (S.gate k a b).la), .own vh 4 1 Q (bls (S.gate k a b).ha)], Out.none rfl, (Some'.weak (.takeEq (by first | rfl | (rw [hgt]; done) | (rw [hgt]; rfl) | (rw [hgt, htn]; done) | (rw [hgt, htn]; rfl)) (.takeEq (by first | rfl | (rw [hgt]; done) | (rw [hgt]; rfl) | (rw [hgt, htn]; done) | (rw [hgt, htn]; rfl)) (.takeEq (by first | rfl | (rw [hgt]; done) | (rw [hgt]; rfl) | (rw [hgt, htn]; done) | (rw [hgt, htn]; rfl)) (.takeEq (by first | rfl | (rw [hgt]; done) | (rw [hgt]; rfl) | (rw [hgt, htn]; done) | (rw [hgt, htn]; rfl)) (.takeEq (by first | rfl | (rw [hgt]; done) | (rw [hgt]; rfl) | (rw [hgt, htn]; done) | (rw [hgt, htn]; rfl)) (.nil _))))))), ?_⟩
  exact ⟨_, _, rfl, rfl⟩
 have p33 := h33; try simp only [bs] at p33
 refine .sr ?_
 refine .w (.bool (k == 9)) ?_
 refine .m ?_
 refine .done ?_
 refine .cond (b := k == 9) rfl (fun h62 => ?_) (fun h62 => ?_)
 ·have p62 := h62; try simp only [bs] at p62
  have hgt : S.gate k a b = ((S.flp b).czd a b).flp b := by rw [DgS.gate, if_neg p13, if_neg p19, if_neg p33, if_pos p62]
  have htn : (t + DgS.tn k) % 8 = t := by rw [DgS.tn, if_neg (by omega), if_neg (by omega)]; omega
  refine .sr ?_
  refine .m ?_
  refine .fa Tfo_54_2 ?_
  refine .u (.int .i64 (((b : Nat) : Int))) (.load1 Tone_3 rfl (.b (.head _))) ?_
  refine .step rfl (.callM (H1 := [.blk r 50 [.int .i64 (((Q : Nat) : Int)), vn, vw, .int .i64 t, .int .i64 (S.rt), vl, vh], .own vn 52 2 (S.ns.length) (nds S.ns), .own vw 71 3 (S.ws.length) (wls S.ws), .own vl 3 1 Q (ints S.la), .own vh 4 1 Q (bls S.ha)]) (H2 := [.blk b1 54 [.int .i64 k, .int .i64 (((a : Nat) : Int)), .int .i64 (((b : Nat) : Int))]]) (vs := [.pointer (some ⟨r, 0, none⟩), .int .i64 (((b : Nat) : Int))]) (caps := []) Tcall_42 rfl rfl (Weak.selF [1, 1, 1, 1, 1]) (fun w hs => flip_spec hok (by omega) hb (hs.sub (List.sublist_append_left _ _)).self) ?_)
  rintro _ _ ⟨vn9, vw9, rfl, rfl⟩
  show Run _ _ (putF _ _ _ (.tuple #[])) [.blk r 50 [.int .i64 (((Q : Nat) : Int)), vn9, vw9, .int .i64 t, .int .i64 ((S.flp b).rt), vl, vh], .own vn9 52 2 ((S.flp b).ns.length) (nds (S.flp b).ns), .own vw9 71 3 ((S.flp b).ws.length) (wls (S.flp b).ws), .own vl 3 1 Q (ints (S.flp b).la), .own vh 4 1 Q (bls (S.flp b).ha), .blk b1 54 [.int .i64 k, .int .i64 (((a : Nat) : Int)), .int .i64 (((b : Nat) : Int))]]
  refine .dsr ?_
  refine .m ?_
  refine .fa Tfo_54_1 ?_
  refine .u (.int .i64 (((a : Nat) : Int))) (.load1 Tone_3 rfl (.b (.tail _ (.tail _ (.tail _ (.tail _ (.tail _ (.head _)))))))) ?_
  refine .fa Tfo_54_2 ?_
  refine .u (.int .i64 (((b : Nat) : Int))) (.load1 Tone_3 rfl (.b (.tail _ (.tail _ (.tail _ (.tail _ (.tail _ (.head _)))))))) ?_
  refine .step rfl (.callM (H1 := [.blk r 50 [.int .i64 (((Q : Nat) : Int)), vn9, vw9, .int .i64 t, .int .i64 ((S.flp b).rt), vl, vh], .own vn9 52 2 ((S.flp b).ns.length) (nds (S.flp b).ns), .own vw9 71 3 ((S.flp b).ws.length) (wls (S.flp b).ws), .own vl 3 1 Q (ints (S.flp b).la), .own vh 4 1 Q (bls (S.flp b).ha)]) (H2 := [.blk b1 54 [.int .i64 k, .int .i64 (((a : Nat) : Int)), .int .i64 (((b : Nat) : Int))]]) (vs := [.pointer (some ⟨r, 0, none⟩), .int .i64 (((a : Nat) : Int)), .int .i64 (((b : Nat) : Int))]) (caps := []) Tcall_44 rfl rfl (Weak.refl _) (fun w hs => cz_spec (hok.flp b) (by omega) ha hb (hs.sub (List.sublist_append_left _ _)).self) ?_)
  rintro _ _ ⟨vn10, vw10, rfl, rfl⟩
  show Run _ _ (putF _ _ _ (.tuple #[])) [.blk r 50 [.int .i64 (((Q : Nat) : Int)), vn10, vw10, .int .i64 t, .int .i64 (((S.flp b).czd a b).rt), vl, vh], .own vn10 52 2 (((S.flp b).czd a b).ns.length) (nds ((S.flp b).czd a b).ns), .own vw10 71 3 (((S.flp b).czd a b).ws.length) (wls ((S.flp b).czd a b).ws), .own vl 3 1 Q (ints ((S.flp b).czd a b).la), .own vh 4 1 Q (bls ((S.flp b).czd a b).ha), .blk b1 54 [.int .i64 k, .int .i64 (((a : Nat) : Int)), .int .i64 (((b : Nat) : Int))]]
  refine .dr ?_
  refine .m ?_
  refine .fa Tfo_54_2 ?_
  refine .u (.int .i64 (((b : Nat) : Int))) (.load1 Tone_3 rfl (.b (.tail _ (.tail _ (.tail _ (.tail _ (.tail _ (.head _)))))))) ?_
  refine .step rfl (.callM (H1 := [.blk r 50 [.int .i64 (((Q : Nat) : Int)), vn10, vw10, .int .i64 t, .int .i64 (((S.flp b).czd a b).rt), vl, vh], .own vn10 52 2 (((S.flp b).czd a b).ns.length) (nds ((S.flp b).czd a b).ns), .own vw10 71 3 (((S.flp b).czd a b).ws.length) (wls ((S.flp b).czd a b).ws), .own vl 3 1 Q (ints ((S.flp b).czd a b).la), .own vh 4 1 Q (bls ((S.flp b).czd a b).ha)]) (H2 := [.blk b1 54 [.int .i64 k, .int .i64 (((a : Nat) : Int)), .int .i64 (((b : Nat) : Int))]]) (vs := [.pointer (some ⟨r, 0, none⟩), .int .i64 (((b : Nat) : Int))]) (caps := []) Tcall_42 rfl rfl (Weak.refl _) (fun w hs => flip_spec ((hok.flp b).czd ha hb) (by omega) hb (hs.sub (List.sublist_append_left _ _)).self) ?_)
  rintro _ _ ⟨vn11, vw11, rfl, rfl⟩
  show Run _ _ (putF _ _ _ (.tuple #[])) [.blk r 50 [.int .i64 (((Q : Nat) : Int)), vn11, vw11, .int .i64 t, .int .i64 ((((S.flp b).czd a b).flp b).rt), vl, vh], .own vn11 52 2 ((((S.flp b).czd a b).flp b).ns.length) (nds (((S.flp b).czd a b).flp b).ns), .own vw11 71 3 ((((S.flp b).czd a b).flp b).ws.length) (wls (((S.flp b).czd a b).flp b).ws), .own vl 3 1 Q (ints (((S.flp b).czd a b).flp b).la), .own vh 4 1 Q (bls (((S.flp b).czd a b).flp b).ha), .blk b1 54 [.int .i64 k, .int .i64 (((a : Nat) : Int)), .int .i64 (((b : Nat) : Int))]]
  refine .done ?_
  refine .blockEnd ?_
  refine .fin ?_
  refine ⟨.tuple #[], [.blk r 50 [.int .i64 (((Q : Nat) : Int)), vn11, vw11, .int .i64 ((t + DgS.tn k) % 8), .int .i64 ((S.gate k a b).rt), vl, vh], .own vn11 52 2 ((S.gate k a b).ns.length) (nds (S.gate k a b).ns), .own vw11 71 3 ((S.gate k a b).ws.length) (wls (S.gate k a b).ws), .own vl 3 1 Q (ints (S.gate k a b).la), .own vh 4 1 Q (bls (S.gate k a b).ha)], Out.none rfl, (Some'.weak (.takeEq (by first | rfl | (rw [hgt]; done) | (rw [hgt]; rfl) | (rw [hgt, htn]; done) | (rw [hgt, htn]; rfl)) (.takeEq (by first | rfl | (rw [hgt]; done) | (rw [hgt]; rfl) | (rw [hgt, htn]; done) | (rw [hgt, htn]; rfl)) (.takeEq (by first | rfl | (rw [hgt]; done) | (rw [hgt]; rfl) | (rw [hgt, htn]; done) | (rw [hgt, htn]; rfl)) (.takeEq (by first | rfl | (rw [hgt]; done) | (rw [hgt]; rfl) | (rw [hgt, htn]; done) | (rw [hgt, htn]; rfl)) (.takeEq (by first | rfl | (rw [hgt]; done) | (rw [hgt]; rfl) | (rw [hgt, htn]; done) | (rw [hgt, htn]; rfl)) (.nil _))))))), ?_⟩
  exact ⟨_, _, rfl, rfl⟩
 have p62 := h62; try simp only [bs] at p62
 refine .sr ?_
 refine .w (.bool (k == 10)) ?_
 refine .m ?_
 refine .done ?_
 refine .cond (b := k == 10) rfl (fun h78 => ?_) (fun h78 => ?_)
 ·have p78 := h78; try simp only [bs] at p78
  have hgt : S.gate k a b = S.czd a b := by rw [DgS.gate, if_neg p13, if_neg p19, if_neg p33, if_neg p62, if_pos p78]
  have htn : (t + DgS.tn k) % 8 = t := by rw [DgS.tn, if_neg (by omega), if_neg (by omega)]; omega
  refine .region ?_
  refine .m ?_
  refine .fa Tfo_54_1 ?_
  refine .u (.int .i64 (((a : Nat) : Int))) (.load1 Tone_3 rfl (.b (.head _))) ?_
  refine .fa Tfo_54_2 ?_
  refine .u (.int .i64 (((b : Nat) : Int))) (.load1 Tone_3 rfl (.b (.head _))) ?_
  refine .step rfl (.callM (H1 := [.blk r 50 [.int .i64 (((Q : Nat) : Int)), vn, vw, .int .i64 t, .int .i64 (S.rt), vl, vh], .own vn 52 2 (S.ns.length) (nds S.ns), .own vw 71 3 (S.ws.length) (wls S.ws), .own vl 3 1 Q (ints S.la), .own vh 4 1 Q (bls S.ha)]) (H2 := [.blk b1 54 [.int .i64 k, .int .i64 (((a : Nat) : Int)), .int .i64 (((b : Nat) : Int))]]) (vs := [.pointer (some ⟨r, 0, none⟩), .int .i64 (((a : Nat) : Int)), .int .i64 (((b : Nat) : Int))]) (caps := []) Tcall_44 rfl rfl (Weak.selF [1, 1, 1, 1, 1]) (fun w hs => cz_spec hok (by omega) ha hb (hs.sub (List.sublist_append_left _ _)).self) ?_)
  rintro _ _ ⟨vn12, vw12, rfl, rfl⟩
  show Run _ _ (putF _ _ _ (.tuple #[])) [.blk r 50 [.int .i64 (((Q : Nat) : Int)), vn12, vw12, .int .i64 t, .int .i64 ((S.czd a b).rt), vl, vh], .own vn12 52 2 ((S.czd a b).ns.length) (nds (S.czd a b).ns), .own vw12 71 3 ((S.czd a b).ws.length) (wls (S.czd a b).ws), .own vl 3 1 Q (ints (S.czd a b).la), .own vh 4 1 Q (bls (S.czd a b).ha), .blk b1 54 [.int .i64 k, .int .i64 (((a : Nat) : Int)), .int .i64 (((b : Nat) : Int))]]
  refine .done ?_
  refine .blockEnd ?_
  refine .fin ?_
  refine ⟨.tuple #[], [.blk r 50 [.int .i64 (((Q : Nat) : Int)), vn12, vw12, .int .i64 ((t + DgS.tn k) % 8), .int .i64 ((S.gate k a b).rt), vl, vh], .own vn12 52 2 ((S.gate k a b).ns.length) (nds (S.gate k a b).ns), .own vw12 71 3 ((S.gate k a b).ws.length) (wls (S.gate k a b).ws), .own vl 3 1 Q (ints (S.gate k a b).la), .own vh 4 1 Q (bls (S.gate k a b).ha)], Out.none rfl, (Some'.weak (.takeEq (by first | rfl | (rw [hgt]; done) | (rw [hgt]; rfl) | (rw [hgt, htn]; done) | (rw [hgt, htn]; rfl)) (.takeEq (by first | rfl | (rw [hgt]; done) | (rw [hgt]; rfl) | (rw [hgt, htn]; done) | (rw [hgt, htn]; rfl)) (.takeEq (by first | rfl | (rw [hgt]; done) | (rw [hgt]; rfl) | (rw [hgt, htn]; done) | (rw [hgt, htn]; rfl)) (.takeEq (by first | rfl | (rw [hgt]; done) | (rw [hgt]; rfl) | (rw [hgt, htn]; done) | (rw [hgt, htn]; rfl)) (.takeEq (by first | rfl | (rw [hgt]; done) | (rw [hgt]; rfl) | (rw [hgt, htn]; done) | (rw [hgt, htn]; rfl)) (.nil _))))))), ?_⟩
  exact ⟨_, _, rfl, rfl⟩
 have p78 := h78; try simp only [bs] at p78
 refine .sr ?_
 refine .w (.bool (k == 11)) ?_
 refine .m ?_
 refine .done ?_
 refine .cond (b := k == 11) rfl (fun h86 => ?_) (fun h86 => ?_)
 ·have p86 := h86; try simp only [bs] at p86
  have hgt : S.gate k a b = S.swp a b := by rw [DgS.gate, if_neg p13, if_neg p19, if_neg p33, if_neg p62, if_neg p78, if_pos p86]
  have htn : (t + DgS.tn k) % 8 = t := by rw [DgS.tn, if_neg (by omega), if_neg (by omega)]; omega
  refine .seq ?_
  refine Run.openOwn (.tail _ (.tail _ (.tail _ (.tail _ (.head _))))) (by omega) (fun gl cgl hvgl hcapgl _ => ?_) (fun _ _ _ => ⟨nofun, nofun, nofun⟩)
  subst hvgl
  refine Run.lastlyM [29, 31] [.blk b1 54 [.int .i64 k, .int .i64 (((a : Nat) : Int)), .int .i64 (((b : Nat) : Int))], .blk r 50 [.int .i64 (((Q : Nat) : Int)), vn, vw, .int .i64 t, .int .i64 (S.rt), .slice (some ⟨gl, 0, none⟩) Q cgl, vh], .own vn 52 2 (S.ns.length) (nds S.ns), .own vw 71 3 (S.ws.length) (wls S.ws), .own (.slice (some ⟨gl, 0, none⟩) Q cgl) 3 1 Q (ints S.la), .own vh 4 1 Q (bls S.ha)] [.blk b1 54 [.int .i64 k, .int .i64 (((a : Nat) : Int)), .int .i64 (((b : Nat) : Int))], .blk r 50 [.int .i64 (((Q : Nat) : Int)), vn, vw, .int .i64 t, .int .i64 (S.rt), .slice (some ⟨gl, 0, none⟩) Q cgl, vh]] (by kernel_rfl) ?_
  refine DM.m 0 rfl ?_
  refine DM.tP 1 rfl (.pointer (some ⟨r, 0, none⟩)) (fun _ => OpY.nilCheck rfl) ?_
  refine DM.tP 2 rfl (.pointer (some ⟨r, 5, none⟩)) (fun _ => OpY.fieldAddr Tfo_50_1 rfl rfl) ?_
  refine DM.t0 3 rfl (Some'.weak (.take (.take (.nil _)))) (.slice (some ⟨gl, 0, none⟩) Q cgl) (OpY.load1 Tone_48 rfl (.b (.tail _ (.head _)))) ?_
  refine DM.tP 4 rfl (.pointer (some ⟨b1, 1, none⟩)) (fun _ => OpY.fieldAddr Tfo_54_1 rfl rfl) ?_
  refine DM.t0 5 rfl (Some'.weak (.take (.take (.nil _)))) (.int .i64 (((a : Nat) : Int))) (OpY.load1 Tone_3 rfl (.b (.head _))) ?_
  refine DM.m 6 rfl ?_
  refine DM.tP 7 rfl (.pointer (some ⟨r, 0, none⟩)) (fun _ => OpY.nilCheck rfl) ?_
  refine DM.tP 8 rfl (.pointer (some ⟨r, 5, none⟩)) (fun _ => OpY.fieldAddr Tfo_50_1 rfl rfl) ?_
  refine DM.t0 9 rfl (Some'.weak (.take (.take (.nil _)))) (.slice (some ⟨gl, 0, none⟩) Q cgl) (OpY.load1 Tone_48 rfl (.b (.tail _ (.head _)))) ?_
  refine DM.tP 10 rfl (.pointer (some ⟨b1, 2, none⟩)) (fun _ => OpY.fieldAddr Tfo_54_2 rfl rfl) ?_
  refine DM.t0 11 rfl (Some'.weak (.take (.take (.nil _)))) (.int .i64 (((b : Nat) : Int))) (OpY.load1 Tone_3 rfl (.b (.head _))) ?_
  refine DM.m 12 rfl ?_
  refine DM.tP 13 rfl (.pointer (some ⟨r, 0, none⟩)) (fun _ => OpY.nilCheck rfl) ?_
  refine DM.tP 14 rfl (.pointer (some ⟨r, 5, none⟩)) (fun _ => OpY.fieldAddr Tfo_50_1 rfl rfl) ?_
  refine DM.t0 15 rfl (Some'.weak (.take (.take (.nil _)))) (.slice (some ⟨gl, 0, none⟩) Q cgl) (OpY.load1 Tone_48 rfl (.b (.tail _ (.head _)))) ?_
  refine DM.tP 16 rfl (.pointer (some ⟨b1, 2, none⟩)) (fun _ => OpY.fieldAddr Tfo_54_2 rfl rfl) ?_
  refine DM.t0 17 rfl (Some'.weak (.take (.take (.nil _)))) (.int .i64 (((b : Nat) : Int))) (OpY.load1 Tone_3 rfl (.b (.head _))) ?_
  refine DM.tP 18 rfl (.pointer (some ⟨gl, b, none⟩)) (fun _ => OpY.ix b Tsl_48) ?_
  refine DM.t 19 rfl (Some'.weak (.take (.take (.take (.take (.take (.take (.nil _)))))))) (.int .i64 (ix S.la (b))) (OpY.load1 Tone_3 rfl (Cells.own0 (.tail _ (.tail _ (.tail _ (.tail _ (.head _))))) (pre1 (by omega)))) ?_
  refine DM.m 20 rfl ?_
  refine DM.tP 21 rfl (.pointer (some ⟨r, 0, none⟩)) (fun _ => OpY.nilCheck rfl) ?_
  refine DM.tP 22 rfl (.pointer (some ⟨r, 5, none⟩)) (fun _ => OpY.fieldAddr Tfo_50_1 rfl rfl) ?_
  refine DM.t0 23 rfl (Some'.weak (.take (.take (.nil _)))) (.slice (some ⟨gl, 0, none⟩) Q cgl) (OpY.load1 Tone_48 rfl (.b (.tail _ (.head _)))) ?_
  refine DM.tP 24 rfl (.pointer (some ⟨b1, 1, none⟩)) (fun _ => OpY.fieldAddr Tfo_54_1 rfl rfl) ?_
  refine DM.t0 25 rfl (Some'.weak (.take (.take (.nil _)))) (.int .i64 (((a : Nat) : Int))) (OpY.load1 Tone_3 rfl (.b (.head _))) ?_
  refine DM.tP 26 rfl (.pointer (some ⟨gl, a, none⟩)) (fun _ => OpY.ix a Tsl_48) ?_
  refine DM.t 27 rfl (Some'.weak (.take (.take (.take (.take (.take (.take (.nil _)))))))) (.int .i64 (ix S.la (a))) (OpY.load1 Tone_3 rfl (Cells.own0 (.tail _ (.tail _ (.tail _ (.tail _ (.head _))))) (pre1 (by omega)))) ?_
  refine DM.tP 28 rfl (.pointer (some ⟨gl, a, none⟩)) (fun _ => OpY.ix a Tsl_48) ?_
  refine DM.step (i := 29) (by kernel_rfl) (by kernel_rfl) rfl rfl (OpStep.storeOwnInt (o := a) (a := ix S.la (b)) Tsize_3 rfl rfl (.there _ (.there _ (.there _ (.there _ (.here _))))) (by omega) ?_)
  refine ⟨(Some'.weak (.take (.take (.nil _)))), ?_⟩
  refine DM.tP 30 rfl (.pointer (some ⟨gl, b, none⟩)) (fun _ => OpY.ix b Tsl_48) ?_
  refine DM.step (i := 31) (by kernel_rfl) (by kernel_rfl) rfl rfl (OpStep.storeOwnInt (o := b) (a := ix S.la (a)) Tsize_3 rfl rfl (.there _ (.there _ (.there _ (.there _ (.here _))))) (by omega) ?_)
  refine ⟨(Some'.weak (.take (.take (.nil _)))), ?_⟩
  refine DM.done (by kernel_rfl) ?_
  refine Run.openOwn (.tail _ (.tail _ (.tail _ (.tail _ (.tail _ (.head _)))))) (by omega) (fun gh cgh hvgh hcapgh _ => ?_) (fun _ _ _ => ⟨nofun, nofun, nofun⟩)
  subst hvgh
  refine Run.lastlyM [29, 31] [.blk b1 54 [.int .i64 k, .int .i64 (((a : Nat) : Int)), .int .i64 (((b : Nat) : Int))], .blk r 50 [.int .i64 (((Q : Nat) : Int)), vn, vw, .int .i64 t, .int .i64 (S.rt), .slice (some ⟨gl, 0, none⟩) Q cgl, .slice (some ⟨gh, 0, none⟩) Q cgh], .own vn 52 2 (S.ns.length) (nds S.ns), .own vw 71 3 (S.ws.length) (wls S.ws), .own (.slice (some ⟨gl, 0, none⟩) Q cgl) 3 1 Q (ints ((S.la.set a (ix S.la (b))).set b (ix S.la (a)))), .own (.slice (some ⟨gh, 0, none⟩) Q cgh) 4 1 Q (bls S.ha)] [.blk b1 54 [.int .i64 k, .int .i64 (((a : Nat) : Int)), .int .i64 (((b : Nat) : Int))], .blk r 50 [.int .i64 (((Q : Nat) : Int)), vn, vw, .int .i64 t, .int .i64 (S.rt), .slice (some ⟨gl, 0, none⟩) Q cgl, .slice (some ⟨gh, 0, none⟩) Q cgh]] (by kernel_rfl) ?_
  refine DM.m 0 rfl ?_
  refine DM.tP 1 rfl (.pointer (some ⟨r, 0, none⟩)) (fun _ => OpY.nilCheck rfl) ?_
  refine DM.tP 2 rfl (.pointer (some ⟨r, 6, none⟩)) (fun _ => OpY.fieldAddr Tfo_50_2 rfl rfl) ?_
  refine DM.t0 3 rfl (Some'.weak (.take (.take (.nil _)))) (.slice (some ⟨gh, 0, none⟩) Q cgh) (OpY.load1 Tone_47 rfl (.b (.tail _ (.head _)))) ?_
  refine DM.tP 4 rfl (.pointer (some ⟨b1, 1, none⟩)) (fun _ => OpY.fieldAddr Tfo_54_1 rfl rfl) ?_
  refine DM.t0 5 rfl (Some'.weak (.take (.take (.nil _)))) (.int .i64 (((a : Nat) : Int))) (OpY.load1 Tone_3 rfl (.b (.head _))) ?_
  refine DM.m 6 rfl ?_
  refine DM.tP 7 rfl (.pointer (some ⟨r, 0, none⟩)) (fun _ => OpY.nilCheck rfl) ?_
  refine DM.tP 8 rfl (.pointer (some ⟨r, 6, none⟩)) (fun _ => OpY.fieldAddr Tfo_50_2 rfl rfl) ?_
  refine DM.t0 9 rfl (Some'.weak (.take (.take (.nil _)))) (.slice (some ⟨gh, 0, none⟩) Q cgh) (OpY.load1 Tone_47 rfl (.b (.tail _ (.head _)))) ?_
  refine DM.tP 10 rfl (.pointer (some ⟨b1, 2, none⟩)) (fun _ => OpY.fieldAddr Tfo_54_2 rfl rfl) ?_
  refine DM.t0 11 rfl (Some'.weak (.take (.take (.nil _)))) (.int .i64 (((b : Nat) : Int))) (OpY.load1 Tone_3 rfl (.b (.head _))) ?_
  refine DM.m 12 rfl ?_
  refine DM.tP 13 rfl (.pointer (some ⟨r, 0, none⟩)) (fun _ => OpY.nilCheck rfl) ?_
  refine DM.tP 14 rfl (.pointer (some ⟨r, 6, none⟩)) (fun _ => OpY.fieldAddr Tfo_50_2 rfl rfl) ?_
  refine DM.t0 15 rfl (Some'.weak (.take (.take (.nil _)))) (.slice (some ⟨gh, 0, none⟩) Q cgh) (OpY.load1 Tone_47 rfl (.b (.tail _ (.head _)))) ?_
  refine DM.tP 16 rfl (.pointer (some ⟨b1, 2, none⟩)) (fun _ => OpY.fieldAddr Tfo_54_2 rfl rfl) ?_
  refine DM.t0 17 rfl (Some'.weak (.take (.take (.nil _)))) (.int .i64 (((b : Nat) : Int))) (OpY.load1 Tone_3 rfl (.b (.head _))) ?_
  refine DM.tP 18 rfl (.pointer (some ⟨gh, b, none⟩)) (fun _ => OpY.ix b Tsl_47) ?_
  refine DM.t 19 rfl (Some'.weak (.take (.take (.take (.take (.take (.take (.nil _)))))))) (.bool (bx (S.ha) b)) (OpY.load1 Tone_4 rfl (Cells.own0 (.tail _ (.tail _ (.tail _ (.tail _ (.tail _ (.head _)))))) (preBl (by omega)))) ?_
  refine DM.m 20 rfl ?_
  refine DM.tP 21 rfl (.pointer (some ⟨r, 0, none⟩)) (fun _ => OpY.nilCheck rfl) ?_
  refine DM.tP 22 rfl (.pointer (some ⟨r, 6, none⟩)) (fun _ => OpY.fieldAddr Tfo_50_2 rfl rfl) ?_
  refine DM.t0 23 rfl (Some'.weak (.take (.take (.nil _)))) (.slice (some ⟨gh, 0, none⟩) Q cgh) (OpY.load1 Tone_47 rfl (.b (.tail _ (.head _)))) ?_
  refine DM.tP 24 rfl (.pointer (some ⟨b1, 1, none⟩)) (fun _ => OpY.fieldAddr Tfo_54_1 rfl rfl) ?_
  refine DM.t0 25 rfl (Some'.weak (.take (.take (.nil _)))) (.int .i64 (((a : Nat) : Int))) (OpY.load1 Tone_3 rfl (.b (.head _))) ?_
  refine DM.tP 26 rfl (.pointer (some ⟨gh, a, none⟩)) (fun _ => OpY.ix a Tsl_47) ?_
  refine DM.t 27 rfl (Some'.weak (.take (.take (.take (.take (.take (.take (.nil _)))))))) (.bool (bx (S.ha) a)) (OpY.load1 Tone_4 rfl (Cells.own0 (.tail _ (.tail _ (.tail _ (.tail _ (.tail _ (.head _)))))) (preBl (by omega)))) ?_
  refine DM.tP 28 rfl (.pointer (some ⟨gh, a, none⟩)) (fun _ => OpY.ix a Tsl_47) ?_
  refine DM.step (i := 29) (by kernel_rfl) (by kernel_rfl) rfl rfl (OpStep.storeOwnB (o := a) (a := bx (S.ha) b) Tsize_4 rfl rfl (.there _ (.there _ (.there _ (.there _ (.there _ (.here _)))))) (by omega) ?_)
  refine ⟨(Some'.weak (.take (.take (.nil _)))), ?_⟩
  refine DM.tP 30 rfl (.pointer (some ⟨gh, b, none⟩)) (fun _ => OpY.ix b Tsl_47) ?_
  refine DM.step (i := 31) (by kernel_rfl) (by kernel_rfl) rfl rfl (OpStep.storeOwnB (o := b) (a := bx (S.ha) a) Tsize_4 rfl rfl (.there _ (.there _ (.there _ (.there _ (.there _ (.here _)))))) (by omega) ?_)
  refine ⟨(Some'.weak (.take (.take (.nil _)))), ?_⟩
  refine DM.done (by kernel_rfl) ?_
  refine .blockEnd ?_
  refine .fin ?_
  refine ⟨.tuple #[], [.blk r 50 [.int .i64 (((Q : Nat) : Int)), vn, vw, .int .i64 ((t + DgS.tn k) % 8), .int .i64 ((S.gate k a b).rt), .slice (some ⟨gl, 0, none⟩) Q cgl, .slice (some ⟨gh, 0, none⟩) Q cgh], .own vn 52 2 ((S.gate k a b).ns.length) (nds (S.gate k a b).ns), .own vw 71 3 ((S.gate k a b).ws.length) (wls (S.gate k a b).ws), .own (.slice (some ⟨gl, 0, none⟩) Q cgl) 3 1 Q (ints (S.gate k a b).la), .own (.slice (some ⟨gh, 0, none⟩) Q cgh) 4 1 Q (bls (S.gate k a b).ha)], Out.none rfl, (Some'.weak (.skip (.takeEq (by first | rfl | (rw [hgt]; done) | (rw [hgt]; rfl) | (rw [hgt, htn]; done) | (rw [hgt, htn]; rfl)) (.takeEq (by first | rfl | (rw [hgt]; done) | (rw [hgt]; rfl) | (rw [hgt, htn]; done) | (rw [hgt, htn]; rfl)) (.takeEq (by first | rfl | (rw [hgt]; done) | (rw [hgt]; rfl) | (rw [hgt, htn]; done) | (rw [hgt, htn]; rfl)) (.takeEq (by first | rfl | (rw [hgt]; done) | (rw [hgt]; rfl) | (rw [hgt, htn]; done) | (rw [hgt, htn]; rfl)) (.takeEq (by first | rfl | (rw [hgt]; done) | (rw [hgt]; rfl) | (rw [hgt, htn]; done) | (rw [hgt, htn]; rfl)) (.nil _)))))))), ?_⟩
  exact ⟨_, _, rfl, rfl⟩
 have p86 := h86; try simp only [bs] at p86
 refine .sr ?_
 refine .w (.bool (k == 12)) ?_
 refine .m ?_
 refine .done ?_
 refine .cond (b := k == 12) rfl (fun h148 => ?_) (fun h148 => ?_)
 ·have p148 := h148; try simp only [bs] at p148
  have hgt : S.gate k a b = S := by rw [DgS.gate, if_neg p13, if_neg p19, if_neg p33, if_neg p62, if_neg p78, if_neg p86, if_pos p148]
  have htn : (t + DgS.tn k) % 8 = (t + 1) % 8 := by rw [DgS.tn, if_neg (by omega), if_pos p148]
  refine .region ?_
  iterate 2 refine .m ?_
  refine .u (.pointer (some ⟨r, 0, none⟩)) (.nilCheck rfl) ?_
  refine .fa Tfo_50_0 ?_
  refine .fa Tfo_29_3 ?_
  refine .u (.int .i64 t) (.load1 Tone_3 rfl (.b (.tail _ (.head _)))) ?_
  refine .u (.int .i64 (t + 1)) (.add rfl rfl rfl (by omega) (by omega)) ?_
  refine .u (.int .i64 ((t + 1) % 8)) (.rem rfl rfl (by omega) (by omega)) ?_
  refine .u (.pointer (some ⟨r, 0, none⟩)) (.nilCheck rfl) ?_
  refine .fa Tfo_50_0 ?_
  refine .fa Tfo_29_3 ?_
  refine .step rfl (.store (us := [.int .i64 ((t + 1) % 8)]) Tsize_3 rfl rfl rfl (.there _ (.here _)) (by simp only [List.length_cons, List.length_nil]; omega) ?_)
  show Run _ _ _ [.blk b1 54 [.int .i64 k, .int .i64 (((a : Nat) : Int)), .int .i64 (((b : Nat) : Int))], .blk r 50 [.int .i64 (((Q : Nat) : Int)), vn, vw, .int .i64 ((t + 1) % 8), .int .i64 (S.rt), vl, vh], .own vn 52 2 (S.ns.length) (nds S.ns), .own vw 71 3 (S.ws.length) (wls S.ws), .own vl 3 1 Q (ints S.la), .own vh 4 1 Q (bls S.ha)]
  refine .done ?_
  refine .blockEnd ?_
  refine .fin ?_
  refine ⟨.tuple #[], [.blk r 50 [.int .i64 (((Q : Nat) : Int)), vn, vw, .int .i64 ((t + DgS.tn k) % 8), .int .i64 ((S.gate k a b).rt), vl, vh], .own vn 52 2 ((S.gate k a b).ns.length) (nds (S.gate k a b).ns), .own vw 71 3 ((S.gate k a b).ws.length) (wls (S.gate k a b).ws), .own vl 3 1 Q (ints (S.gate k a b).la), .own vh 4 1 Q (bls (S.gate k a b).ha)], Out.none rfl, (Some'.weak (.skip (.takeEq (by first | rfl | (rw [hgt]; done) | (rw [hgt]; rfl) | (rw [hgt, htn]; done) | (rw [hgt, htn]; rfl)) (.takeEq (by first | rfl | (rw [hgt]; done) | (rw [hgt]; rfl) | (rw [hgt, htn]; done) | (rw [hgt, htn]; rfl)) (.takeEq (by first | rfl | (rw [hgt]; done) | (rw [hgt]; rfl) | (rw [hgt, htn]; done) | (rw [hgt, htn]; rfl)) (.takeEq (by first | rfl | (rw [hgt]; done) | (rw [hgt]; rfl) | (rw [hgt, htn]; done) | (rw [hgt, htn]; rfl)) (.takeEq (by first | rfl | (rw [hgt]; done) | (rw [hgt]; rfl) | (rw [hgt, htn]; done) | (rw [hgt, htn]; rfl)) (.nil _)))))))), ?_⟩
  exact ⟨_, _, rfl, rfl⟩
 have p148 := h148; try simp only [bs] at p148
 have hgt : S.gate k a b = S.trn a (DgS.rot k) := by rw [DgS.gate, if_neg p13, if_neg p19, if_neg p33, if_neg p62, if_neg p78, if_neg p86, if_neg p148]
 have htn : (t + DgS.tn k) % 8 = t := by rw [DgS.tn, if_neg (by omega), if_neg (by omega)]; omega
 refine .lastlyB [6] [.blk b1 54 [.int .i64 k, .int .i64 (((a : Nat) : Int)), .int .i64 (((b : Nat) : Int))], .blk r 50 [.int .i64 (((Q : Nat) : Int)), vn, vw, .int .i64 t, .int .i64 (S.rt), vl, vh], .own vn 52 2 (S.ns.length) (nds S.ns), .own vw 71 3 (S.ws.length) (wls S.ws), .own vl 3 1 Q (ints S.la), .own vh 4 1 Q (bls S.ha)] (by kernel_rfl) ?_
 refine DL.m 0 rfl ?_
 refine DL.tP 1 rfl (.pointer (some ⟨b1, 1, none⟩)) (fun _ => OpY.fieldAddr Tfo_54_1 rfl rfl) ?_
 refine DL.tT 2 rfl (Some'.weak (.take (.take (.take (.take (.take (.take (.nil _)))))))) (.int .i64 (((a : Nat) : Int))) (.load1 Tone_3 rfl (.b (.head _))) ?_
 refine DL.tP 3 rfl (.pointer (some ⟨b1, 0, none⟩)) (fun _ => OpY.fieldAddr Tfo_54_0 rfl rfl) ?_
 refine DL.tT 4 rfl (Some'.weak (.take (.take (.take (.take (.take (.take (.nil _)))))))) (.int .i64 k) (.load1 Tone_3 rfl (.b (.head _))) ?_
 refine DL.stepS (i := 5) (by kernel_rfl) rfl rfl (OpStep.q (v := .int .i64 (DgS.rot k)) (OpQ.call (vs := [.int .i64 k]) (caps := []) Tcall_45 rfl rfl (fun w hs => rotationCoef_spec _ w)) ?_)
 refine ⟨(Some'.weak (.take (.take (.take (.take (.take (.take (.nil _)))))))), ?_⟩
 refine DL.step (i := 6) (by kernel_rfl) (by kernel_rfl) rfl rfl (OpStep.callM (H1 := [.blk r 50 [.int .i64 (((Q : Nat) : Int)), vn, vw, .int .i64 t, .int .i64 (S.rt), vl, vh], .own vn 52 2 (S.ns.length) (nds S.ns), .own vw 71 3 (S.ws.length) (wls S.ws), .own vl 3 1 Q (ints S.la), .own vh 4 1 Q (bls S.ha)]) (H2 := [.blk b1 54 [.int .i64 k, .int .i64 (((a : Nat) : Int)), .int .i64 (((b : Nat) : Int))]]) (vs := [.pointer (some ⟨r, 0, none⟩), .int .i64 (((a : Nat) : Int)), .int .i64 (DgS.rot k)]) (caps := []) Tcall_43 rfl rfl (Weak.selF [1, 1, 1, 1, 1]) (fun w hs => turn_spec hok (by omega) ha hrb (hs.sub (List.sublist_append_left _ _)).self) ?_)
 rintro _ _ ⟨vn13, vw13, rfl, rfl⟩
 refine DL.done (by kernel_rfl) ?_
 refine .blockEnd ?_
 refine .fin ?_
 refine ⟨.tuple #[], [.blk r 50 [.int .i64 (((Q : Nat) : Int)), vn13, vw13, .int .i64 ((t + DgS.tn k) % 8), .int .i64 ((S.gate k a b).rt), vl, vh], .own vn13 52 2 ((S.gate k a b).ns.length) (nds (S.gate k a b).ns), .own vw13 71 3 ((S.gate k a b).ws.length) (wls (S.gate k a b).ws), .own vl 3 1 Q (ints (S.gate k a b).la), .own vh 4 1 Q (bls (S.gate k a b).ha)], Out.none rfl, (Some'.weak (.takeEq (by first | rfl | (rw [hgt]; done) | (rw [hgt]; rfl) | (rw [hgt, htn]; done) | (rw [hgt, htn]; rfl)) (.takeEq (by first | rfl | (rw [hgt]; done) | (rw [hgt]; rfl) | (rw [hgt, htn]; done) | (rw [hgt, htn]; rfl)) (.takeEq (by first | rfl | (rw [hgt]; done) | (rw [hgt]; rfl) | (rw [hgt, htn]; done) | (rw [hgt, htn]; rfl)) (.takeEq (by first | rfl | (rw [hgt]; done) | (rw [hgt]; rfl) | (rw [hgt, htn]; done) | (rw [hgt, htn]; rfl)) (.takeEq (by first | rfl | (rw [hgt]; done) | (rw [hgt]; rfl) | (rw [hgt, htn]; done) | (rw [hgt, htn]; rfl)) (.nil _))))))), ?_⟩
 exact ⟨_, _, rfl, rfl⟩

end Go.Proofs.Ytnnkoeknejeieaa
