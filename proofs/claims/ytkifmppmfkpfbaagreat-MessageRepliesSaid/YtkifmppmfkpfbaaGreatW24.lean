import Derived.Test.YtkifmppmfkpfbaaGreatW23
import Derived.RecoverIn
import Derived.OneCell
import Derived.Test.YtkifmppmfkpfbaaGreatW18
import Derived.Test.YtkifmppmfkpfbaaGreatW20
set_option linter.unusedVariables false
set_option linter.unusedSimpArgs false
namespace Go.Proofs.YtkifmppmfkpfbaaGreat.V
open Go.RowKit
section
section rc
variable {P : Program}
structure DfOk (P : Program) (f : FuncId) (pv : TypeId) (c1 c2 : Value) (T : TypeId) : Prop where
 fn : ∃ fn, P.funcs[f]? = some fn ∧ (fn.name == "runtime.NumGoroutine") = false ∧ fn.body.isNone = false
 ret : ∀ (a b : Nat) (w : World), CallsDIn (FW none) 0 P f #[.pointer (some ⟨a, 0, none⟩), .pointer (some ⟨b, 0, none⟩)] .returning w fun e u w' => e = .returned (.tuple #[]) ∧ u = .returning ∧ w' = w
 pan : ∀ (a b : Nat) (w : World) (x y : Value) (t1 t2 : TypeId), w.heap[a]? = some (.cells #[x] t1 (0, 0)) → w.heap[b]? = some (.cells #[y] t2 (0, 0)) → a ≠ b →
  CallsDIn (FW none) 0 P f #[.pointer (some ⟨a, 0, none⟩), .pointer (some ⟨b, 0, none⟩)] (.panicking [{ v := .iface pv (.agg #[]), recovered := false }]) w fun e u w' =>
   e = .returned (.tuple #[]) ∧ u = .panicking [{ v := .iface pv (.agg #[]), recovered := true }] ∧ w' = ((w.alloc (.cells #[] T (0, 0))).setCell ⟨a, 0, none⟩ c1).setCell ⟨b, 0, none⟩ c2
def dfd (f : FuncId) (a b : Nat) : Deferred := { target := .fn (.func f) #[.pointer (some ⟨a, 0, none⟩), .pointer (some ⟨b, 0, none⟩)], args := #[] }
theorem leave_ret {f : FuncId} {pv : TypeId} {c1 c2 : Value} {T : TypeId} (h : DfOk P f pv c1 c2 T) {fn : Func} {tmps : Array Value} {R : Ending → World → Prop} {a b : Nat} {w : World}
    (hR : ∃ v, (results fn tmps).run P w = .ok v w ∧ R (.returned v) w) : LeavesIn (FW none) 0 P fn tmps R [dfd f a b] .returning w := by
 obtain ⟨fn', h1, h2, h3⟩ := h.fn
 refine leavesIn_cons (f := f) (args := #[.pointer (some ⟨a, 0, none⟩), .pointer (some ⟨b, 0, none⟩)]) (by simp) (fun hd => absurd hd depthW) ?_ (fun _ _ => trivial) ?_
 ·simp only [invoke, callFunc, Sem.run_bind, run_program, Result.andThen_ok, h1, h2, h3, Bool.false_eq_true, if_false, Sem.run_pure]; rfl
 refine (h.ret a b w).mono ?_
 rintro e u w' ⟨rfl, rfl, rfl⟩
 exact hR
theorem leave_pan {f : FuncId} {pv : TypeId} {c1 c2 : Value} {T : TypeId} (h : DfOk P f pv c1 c2 T) {fn : Func} {tmps : Array Value} {R : Ending → World → Prop} {a b : Nat} {w : World} {x y : Value} {t1 t2 : TypeId}
    (h1 : w.heap[a]? = some (.cells #[x] t1 (0, 0))) (h2 : w.heap[b]? = some (.cells #[y] t2 (0, 0))) (hab : a ≠ b)
    (hR : ∃ v, (results fn tmps).run P (((w.alloc (.cells #[] T (0, 0))).setCell ⟨a, 0, none⟩ c1).setCell ⟨b, 0, none⟩ c2) = .ok v (((w.alloc (.cells #[] T (0, 0))).setCell ⟨a, 0, none⟩ c1).setCell ⟨b, 0, none⟩ c2) ∧ R (.returned v) (((w.alloc (.cells #[] T (0, 0))).setCell ⟨a, 0, none⟩ c1).setCell ⟨b, 0, none⟩ c2)) :
    LeavesIn (FW none) 0 P fn tmps R [dfd f a b] (.panicking [{ v := .iface pv (.agg #[]), recovered := false }]) w := by
 obtain ⟨fn', g1, g2, g3⟩ := h.fn
 refine leavesIn_cons (f := f) (args := #[.pointer (some ⟨a, 0, none⟩), .pointer (some ⟨b, 0, none⟩)]) (by simp) (fun hd => absurd hd depthW) ?_ (fun _ _ => trivial) ?_
 ·simp only [invoke, callFunc, Sem.run_bind, run_program, Result.andThen_ok, g1, g2, g3, Bool.false_eq_true, if_false, Sem.run_pure]; rfl
 refine (h.pan a b w x y t1 t2 h1 h2 hab).mono ?_
 rintro e u w' ⟨rfl, rfl, rfl⟩
 exact hR
def Cx.fromP (C : Cx) (lo hi : Nat) (pin : List (Nat × Nat)) : Cx := ⟨C.T, C.E, C.Y, C.shp, C.S, lo, hi, C.I, C.inl, C.x, pin⟩
theorem Cx.fromP_ok {C : Cx} {E : Env} {lo hi : Nat} {pin : List (Nat × Nat)} (h : (C.from lo hi).ok P E) : (C.fromP lo hi pin).ok P E := ⟨h.T, h.eqs, h.Y, h.SI, h.env, h.lo, h.hi, h.mixed, h.x⟩
def dfOps : List Oper → Option (Oper × Tmp)
 | [o1, o2] => match o1.guard, o2.guard, nodefB o1.op, o2.dst, o2.op with
   | none, none, true, none, .defer c => match c.callee, c.args.toList with
     | .value (.tmp t), [] => some (o1, t)
     | _, _ => none
   | _, _, _, _, _ => none
 | _ => none
def dfCode : Code → Option (Oper × Tmp)
 | .region _ ops false => dfOps ops.toList
 | _ => none
def dfK (C C2 : Cx) (f p1 p2 B1 B2 : Nat) (b : Code) (t : Tmp) (K2 : Exit → St → Prop) (s1 : St) : Prop :=
 match s1.ev (.tmp t) with
 | .fnv g [.ptr b1 0, .ptr b2 0] => (nBeq g f && nBeq b1 B1 && nBeq b2 B2 && !nBeq b1 b2 && nBle C.lo (s1.next + 100000) && nBlt (s1.next + 100000) C.hi && pinS (s1.next + 100000) s1 [(p1, b1), (p2, b2)]) = true ∧
     vc (C2.fromP (s1.next + 100000) C.hi [(p1, b1), (p2, b2)]) b ⟨s1.fr, s1.n, s1.heap, s1.ents, s1.next + 100000⟩ K2
 | _ => False
def vcDf (C C2 : Cx) (f p1 p2 B1 B2 : Nat) : Code → St → (Exit → St → Prop) → (Exit → St → Prop) → Prop
 | .seq a b, s, K1, K2 => match dfCode a with
   | some (o, t) => step C s.next o s (dfK C C2 f p1 p2 B1 B2 b t K2)
   | none => vc C a s fun e s' => match e with
     | .normal => vcDf C C2 f p1 p2 B1 B2 b s' K1 K2
     | e => K1 e s'
 | _, _, _, _ => False
def calmDf : Code → Bool
 | .seq a b => match dfCode a with
   | some _ => calmC b
   | none => calmC a && calmDf b
 | _ => false
structure DE (E E' : Env) (f b1 b2 : Nat) : Prop where
 keep : E'.keep = E.keep
 B : E'.B = E.B
 may : E'.may = E.may
 z0 : E'.z0 = E.z0
 lo : E.lo ≤ E'.lo
 hi : E'.hi = E.hi
 df : E'.df = [dfd f (E'.ρ0.b b1) (E'.ρ0.b b2)]
 l1 : b1 < E'.lo
 l2 : b2 < E'.lo
 ne : b1 ≠ b2
 anc : ∀ i, i < E.lo ∨ E.hi ≤ i → E'.ρ0.b i = E.ρ0.b i ∧ E'.ρ0.s i = E.ρ0.s i
theorem DE.back {E E' : Env} {f b1 b2 : Nat} (d : DE E E' f b1 b2) {ρ : Nm} {H : List Ent} {G : List FE} {w : World} (h : Hp E' ρ H G w) : Hp E ρ H G w := by
 obtain ⟨d1, d2, d3, d4, d5, d6, d7, d8, d9, d11, d10⟩ := d
 refine ⟨d1 ▸ h.keep, d2 ▸ h.size, fun e he => d2 ▸ h.base e he, h.block, h.inj, h.facts, h.pos, h.apart, h.alone, fun f hf k hk => ?_, fun f hf k hk => ?_, fun i hi => ?_⟩
 ·have := h.exB f hf k hk; rwa [d3, d2] at this
 ·have := h.al f hf k hk; rwa [d4, d2] at this
 ·have h1 := h.anc i (by omega)
  have h2 := d10 i hi
  exact ⟨h1.1.trans h2.1, h1.2.trans h2.2⟩
theorem pinS_l {lo : Nat} {s : St} {p1 b1 p2 b2 : Nat} (h : pinS lo s [(p1, b1), (p2, b2)] = true) : b1 < lo ∧ b2 < lo := by
 unfold pinS at h
 split at h
 ·simp only [Bool.and_eq_true, nBlt_iff] at h
  obtain ⟨⟨_, h1⟩, h⟩ := h
  unfold pinS at h
  split at h
  ·simp only [Bool.and_eq_true, nBlt_iff] at h
   exact ⟨h1, h.1.2⟩
  ·cases h
 ·cases h
theorem dfOps_spec {l : List Oper} {o : Oper} {t : Tmp} (h : dfOps l = some (o, t)) : ∃ o2 c, l = [o, o2] ∧ o.guard = none ∧ o2.guard = none ∧ nodefB o.op = true ∧ o2.dst = none ∧ o2.op = .defer c ∧ c.callee = .value (.tmp t) ∧ c.args.toList = [] := by
 unfold dfOps at h
 split at h
 ·rename_i o1 o2
  split at h
  ·rename_i h1 h2 h3 h4 h5
   split at h
   ·rename_i t' h6 h7
    cases h
    exact ⟨o2, _, rfl, h1, h2, h3, h4, h5, h6, h7⟩
   ·cases h
  ·cases h
 ·cases h
theorem vcDf_sound {C C2 : Cx} {E : Env} (hC : C.ok P E) (hC2 : ∀ lo hi E', E'.ok → E'.lo = lo → E'.hi = hi → (C2.from lo hi).ok P E') (hnp : ∀ s, ¬ C.x.pan s) (hdf : E.df = []) {f p1 p2 B1 B2 : Nat} :
    ∀ (c : Code) (K1 K2 : Exit → St → Prop) (Q : Exit → Act → World → Prop), calmDf c = true → (∀ ch s, ¬ K1 (.panic ch) s) →
    (∀ e s' ρ' a' w', Fit E ρ' s' a' w' → K1 e s' → Q e a' w') →
    (∀ E', DE E E' f B1 B2 → ∀ e s' ρ' a' w', Fit E' ρ' s' a' w' → K2 e s' → Q e a' w') →
    (∀ c a a' w, a.defers = a'.defers → a'.tmps[p1]? = a.tmps[p1]? → a'.tmps[p2]? = a.tmps[p2]? → Q (.panic c) a w → Q (.panic c) a' w) →
    (∀ E', DE E E' f B1 B2 → ∀ s' ρ' a' w', a'.defers = E'.df → PinA E' [(p1, B1), (p2, B2)] a' → Hp E' ρ' s'.heap s'.ents w' → C2.x.pan s' → Q (.panic C2.x.ch) a' w') →
    ∀ (s : St) (ρ : Nm) (a : Act) (w : World), vcDf C C2 f p1 p2 B1 B2 c s K1 K2 → Fit E ρ s a w → Cwp none P c Q a w := by
 intro c
 induction c with
 | seq x y _ ihy =>
   intro K1 K2 Q hc hK1 hQ1 hQ2 hQi hQp s ρ a w h hf
   unfold vcDf at h
   unfold calmDf at hc
   split at h
   ·rename_i o t hd
    rw [hd] at hc
    unfold dfCode at hd
    split at hd
    rotate_left
    ·cases hd
    rename_i id ops ihx
    obtain ⟨o2, cl, hl, g1, g2, hnd, hdst, hop, hcal, hargs⟩ := dfOps_spec hd
    refine wpIn_seq (cwp_region_list ?_)
    rw [hl]
    have wt : ∀ (o : Oper) (a : Act), o.guard = none → Region.wanted o (yielded ops a.tmps) = true := fun o a ho => by unfold Region.wanted; rw [ho]
    unfold wpListR
    rw [if_pos (wt _ _ g1)]
    refine step_sound hC hnd h hf (fun s' _ _ _ _ _ _ hp => (hnp s' hp).elim) fun s1 ρ1 a1 w1 hf1 hk _ => ?_
    unfold dfK at hk
    split at hk
    rotate_left
    ·exact hk.elim
    rename_i g b1 b2 hv
    obtain ⟨hq, hk⟩ := hk
    simp only [Bool.and_eq_true, nBlt_iff, Bool.not_eq_true'] at hq
    obtain ⟨⟨⟨⟨⟨⟨q1, q2⟩, q3⟩, q4⟩, q5⟩, q6⟩, q7⟩ := hq
    have q1 := nBeq_eq q1
    have q2 := nBeq_eq q2
    have q3 := nBeq_eq q3
    have q5 := nBle_le q5
    subst q1 q2 q3
    have q8 := pinS_l q7
    unfold wpListR
    rw [if_pos (wt _ _ g2)]
    have hev : a1.eval (.tmp t) = (SV.fnv g [.ptr b1 0, .ptr b2 0]).den ρ1 := by rw [hf1.ev (Agr.refl _ _ _) (.tmp t), hv]
    refine ⟨fun _ _ => trivial, ?_⟩
    rw [show (FW none).round = none from rfl, Oper.semAt_none]
    have hargs' : cl.args = #[] := by apply Array.ext'; simpa using hargs
    have hrun : (execOp a1.eval o2).run P w1 = .ok (.defer (dfd g (ρ1.b b1) (ρ1.b b2))) w1 := by
     unfold execOp
     simp only [hop, resolve, hcal, hev, hargs', SV.den, SV.dens, Deferred.ofValue, Sem.run_bind, Sem.run_pure, Result.andThen_ok]
     simp [dfd]
    rw [hrun]
    show wpListR none P ops (Exit.then (Cwp none P y Q) Q) [] _ _
    unfold wpListR
    rw [hdst]
    show Cwp none P y Q _ _
    let E' : Env := ⟨E.keep, E.B, E.may, E.z0, s1.next + 100000, E.hi, ρ1, [dfd g (ρ1.b b1) (ρ1.b b2)]⟩
    have hE' : E'.ok := ⟨hC.env.keepX⟩
    have hd' : DE E E' g b1 b2 := ⟨rfl, rfl, rfl, rfl, by show E.lo ≤ s1.next + 100000; rw [hC.lo]; exact q5, rfl, rfl, q8.1, q8.2, fun e => by subst e; simp at q4, fun i hi => hf1.hp.anc i hi⟩
    have hh := hf1.hp
    have hfit : Fit E' ρ1 ⟨s1.fr, s1.n, s1.heap, s1.ents, s1.next + 100000⟩ (Act.put { tmps := a1.tmps, defers := dfd g (ρ1.b b1) (ρ1.b b2) :: a1.defers } none undef) w1 := by
     refine ⟨hf1.len, hf1.lim, hf1.tmps, ?_, ⟨hh.keep, hh.size, hh.base, hh.block, hh.inj, hh.facts, hh.pos, hh.apart, hh.alone, hh.exB, hh.al, fun i _ => ⟨rfl, rfl⟩⟩⟩
     show dfd g (ρ1.b b1) (ρ1.b b2) :: a1.defers = [dfd g (ρ1.b b1) (ρ1.b b2)]
     rw [hf1.defers, hdf]
    have hC2' : (C2.fromP (s1.next + 100000) C.hi [(p1, b1), (p2, b2)]).ok P E' := Cx.fromP_ok (hC2 _ _ E' hE' rfl hC.hi)
    refine vc_sound hC2' y K2 Q hc ⟨fun c a a' w h1 h2 h3 => hQi c a a' w h1 ?_ ?_ h3, fun s' ρ' a' w' h1 h2 h3 h4 => hQp E' hd' s' ρ' a' w' h1 h2 h3 h4⟩ (fun e s' ρ' a' w' h1 h2 => hQ2 E' hd' e s' ρ' a' w' h1 h2) _ ρ1 _ w1 hk hfit
    ·exact h2 (p1, b1) List.mem_cons_self
    ·exact h2 (p2, b2) (List.mem_cons_of_mem _ List.mem_cons_self)
   ·rename_i hd
    rw [hd] at hc
    simp only [Bool.and_eq_true] at hc
    refine wpIn_seq (wpIn_mono (vc_sound hC x _ (fun e a w => match e with | .panic _ => False | e => Exit.then (Cwp none P y Q) Q e a w) hc.1 ⟨fun c a a' w _ _ h => h.elim, fun s' _ _ _ _ _ _ h => (hnp s' h).elim⟩ ?_ s ρ a w h hf) ?_)
    ·intro e s' ρ' a' w' hf' hk
     cases e with
     | normal => exact ihy K1 K2 Q hc.2 hK1 hQ1 hQ2 hQi hQp s' ρ' a' w' hk hf'
     | panic ch => exact hK1 ch s' hk
     | _ => exact hQ1 _ _ _ _ _ hf' hk
    ·intro e a w h
     cases e with
     | panic ch => exact h.elim
     | _ => exact h
 | _ =>
   intros
   rename_i h _
   unfold vcDf at h
   exact h.elim
def hasB1 (H : List Ent) (b : Nat) (t : TypeId) : Bool := match H with
 | [] => false
 | e :: l => (match nBeq e.id b with
   | true => nBeq e.ty t && nBeq (lenL e.cells) 1
   | false => hasB1 l b t)
theorem hasB1_spec {b : Nat} {t : TypeId} : ∀ {H : List Ent}, hasB1 H b t = true → ∃ e ∈ H, e.id = b ∧ e.ty = t ∧ ∃ v, e.cells = [v]
 | [], h => by cases h
 | e :: l, h => by
   unfold hasB1 at h
   split at h
   ·rename_i hb
    simp only [Bool.and_eq_true] at h
    have h2 := nBeq_eq h.2
    rw [lenL_eq] at h2
    refine ⟨e, List.mem_cons_self, nBeq_eq hb, nBeq_eq h.1, ?_⟩
    match hc : e.cells, h2 with
    | [v], _ => exact ⟨v, rfl⟩
   ·obtain ⟨e', h1, h2⟩ := hasB1_spec h
    exact ⟨e', List.mem_cons_of_mem _ h1, h2⟩
def results2 (fn : Func) : Option (Tmp × TypeId × Tmp × TypeId) := match fn.results.toList with
 | [.cell p1 t1, .cell p2 t2] => some (p1, t1, p2, t2)
 | _ => none
def vcFD (C C2 : Cx) (f B1 B2 : Nat) (t1 t2 : TypeId) (fn : Func) (args : List SV) (H : List Ent) (G : List FE) (nx : Nat) (Post : SV → St → Prop) : Prop :=
 match fn.body, results2 fn with
 | some c, some (p1, u1, p2, u2) => (nBle (lenL args) fn.ntmps && nBle fn.ntmps 4000 && nBeq u1 t1 && nBeq u2 t2) = true ∧ vcDf C C2 f p1 p2 B1 B2 c (St.start args fn.ntmps H G nx) (endK C.T fn.results.toList Post) (endK C.T fn.results.toList Post)
 | _, _ => False
def calmFD (fn : Func) : Bool :=
 match fn.body with
 | some c => calmDf c
 | none => false
theorem res2 {T : TT} (hT : TT.ok P T) {fn : Func} {p1 p2 : Tmp} {t1 t2 : TypeId} (h : results2 fn = some (p1, t1, p2, t2)) {tmps : Array Value} {a b : Nat} {w : World} {c1 c2 : Value} {i1 i2 : TI} (h1 : T t1 = some i1) (h2 : T t2 = some i2) (a1 : i1.sh.agg = false) (a2 : i2.sh.agg = false)
    (k1 : tmps[p1]? = some (.pointer (some ⟨a, 0, none⟩))) (k2 : tmps[p2]? = some (.pointer (some ⟨b, 0, none⟩))) (m1 : w.cell? ⟨a, 0, none⟩ = some c1) (m2 : w.cell? ⟨b, 0, none⟩ = some c2) :
    (results fn tmps).run P w = .ok (.tuple #[c1, c2]) w := by
 unfold results2 at h
 split at h
 ·rename_i q1 u1 q2 u2 hr
  cases h
  have e1 : (rd tmps (.cell p1 t1)).run P w = .ok c1 w := by
   simp only [rd, Array.getD_eq_getD_getElem?, k1, Option.getD_some, asAddr, Sem.run_bind, Sem.run_pure, Result.andThen_ok]
   exact run_loadVar_cell (hT _ _ h1) w a 0 c1 a1 m1
  have e2 : (rd tmps (.cell p2 t2)).run P w = .ok c2 w := by
   simp only [rd, Array.getD_eq_getD_getElem?, k2, Option.getD_some, asAddr, Sem.run_bind, Sem.run_pure, Result.andThen_ok]
   exact run_loadVar_cell (hT _ _ h2) w b 0 c2 a2 m2
  rw [results_eq, ← Array.toArray_toList (xs := fn.results), List.mapM_toArray, hr]
  simp only [List.mapM_cons, List.mapM_nil, Sem.run_bind, Sem.run_map, Sem.run_pure, e1, e2, Result.andThen_ok]
  simp
 ·cases h
theorem onceE_setE {b : Nat} {cs : List SV} : ∀ (H : List Ent), onceE (setE H b cs) = onceE H := by
 have ids : ∀ (H : List Ent) (i : Nat), ((setE H b cs).all fun y => !nBeq y.id i) = (H.all fun y => !nBeq y.id i) := by
  intro H i
  induction H with
  | nil => rfl
  | cons e l ih =>
    simp only [setE]
    cases nBeq e.id b with
    | true => rfl
    | false => simp only [List.all_cons, ih]
 intro H
 induction H with
 | nil => rfl
 | cons e l ih =>
   simp only [setE]
   cases hb : nBeq e.id b with
   | true => rfl
   | false => simp only [onceE, ids, ih]
theorem calls_of_vcD {C C2 : Cx} {E : Env} (hC : C.ok P E) (hC2 : ∀ lo hi E', E'.ok → E'.lo = lo → E'.hi = hi → (C2.from lo hi).ok P E') (hnp : ∀ s, ¬ C.x.pan s) {g : FuncId} {c1 c2 : Value} {T : TypeId} (hdo : DfOk P g C2.x.pv c1 c2 T)
    {f : FuncId} {fn : Func} (hfn : P.funcs[f]? = some fn) (hcalm : calmFD fn = true) (args : List SV) {xs : Array Value} {ρ : Nm} {H : List Ent} {G : List FE} {nx : Nat} (hx : ∀ ρ', Agr ρ ρ' H G → (SV.dens ρ' args).toArray = xs) (w : World)
    (hh : Hp E ρ H G w) {Post : SV → St → Prop} {B1 B2 : Nat} {t1 t2 : TypeId} {i1 i2 : TI} {v1 v2 : SV} (hv1 : ∀ ρ, v1.den ρ = c1) (hv2 : ∀ ρ, v2.den ρ = c2) (hT1 : C.T t1 = some i1) (hT2 : C.T t2 = some i2) (ha1 : i1.sh.agg = false) (ha2 : i2.sh.agg = false)
    (h : vcFD C C2 g B1 B2 t1 t2 fn args H G nx Post) (hP : ∀ s, C2.x.pan s → (onceE s.heap && hasB1 s.heap B1 t1 && hasB1 s.heap B2 t2) = true ∧ ∀ H G n, Post (.tup [v1, v2]) ⟨.e, 0, H, G, n⟩) {R : Ending → World → Prop}
    (hR : ∀ (v : SV) (s : St) (ρ : Nm) (a : Act) (w' : World), Fit E ρ s a w' → (∀ ρ', Agr ρ ρ' s.heap s.ents → v.den ρ' = v.den ρ) → Post v s → R (.returned (v.den ρ)) w')
    (hdf : E.df = []) : Calls P f xs w R := by
 unfold vcFD at h
 unfold calmFD at hcalm
 split at h
 rotate_left
 ·exact h.elim
 rename_i c p1 u1 p2 u2 hb hr2
 rw [hb] at hcalm
 obtain ⟨hq, h⟩ := h
 simp only [Bool.and_eq_true] at hq
 obtain ⟨⟨⟨q1, q2⟩, q3⟩, q4⟩ := hq
 have hl1 := nBle_le q1
 have hl2 := nBle_le q2
 rw [lenL_eq] at hl1
 have q3 := nBeq_eq q3
 have q4 := nBeq_eq q4
 subst q3 q4
 refine callsW' (r := none) (n := 0) (callsIn_of_wp_defers hfn hb trivial ?_)
 have hmono : ∀ (e : Exit) (a : Act) (w : World), (match e with | .panic ch => ∀ tmps' : Array Value, tmps'[p1]? = a.tmps[p1]? → tmps'[p2]? = a.tmps[p2]? → LeavesIn (FW none) 0 P fn tmps' R a.defers (.panicking ch) w | e => bodyPostDIn (FW none) 0 P fn R e a w) → bodyPostDIn (FW none) 0 P fn R e a w := by
  intro e a w h
  cases e <;> first | exact h | exact h _ rfl rfl
 refine wpIn_mono ?_ hmono
 have inv : ∀ {E : Env} {s' : St} {ρ' : Nm} {a' : Act} {w' : World} {v : SV}, Fit E ρ' s' a' w' → resV C.T s' fn.results.toList = some v → ∀ ρ'', Agr ρ' ρ'' s'.heap s'.ents → v.den ρ'' = v.den ρ' := by
  intro E s' ρ' a' w' v hf' hv ρ'' hr
  have h1 := res_run hC.T hf' hv
  have h2 := res_run hC.T (hf'.rename hr) (resV_dead hv)
  rw [h1] at h2
  have h3 : v.den ⟨ρ''.b, ρ''.s, ρ'.z⟩ = v.den ρ' := by simpa using h2.symm
  rw [← h3]
  exact den_z _ _ _ _ v
 have fin1 : ∀ (s' : St) (ρ' : Nm) (a' : Act) (w' : World), Fit E ρ' s' a' w' → resK Post s' (resV C.T s' fn.results.toList) → LeavesIn (FW none) 0 P fn a'.tmps R a'.defers .returning w' := by
  intro s' ρ' a' w' hf' hk
  unfold resK at hk
  split at hk
  ·rename_i v hv
   rw [hf'.defers, hdf]
   exact ⟨_, res_run hC.T hf' hv, hR _ _ _ _ _ hf' (inv hf' hv) hk⟩
  ·exact hk.elim
 have fin2 : ∀ E', DE E E' g B1 B2 → ∀ (s' : St) (ρ' : Nm) (a' : Act) (w' : World), Fit E' ρ' s' a' w' → resK Post s' (resV C.T s' fn.results.toList) → LeavesIn (FW none) 0 P fn a'.tmps R a'.defers .returning w' := by
  intro E' hd s' ρ' a' w' hf' hk
  unfold resK at hk
  split at hk
  ·rename_i v hv
   rw [hf'.defers, hd.df]
   refine leave_ret hdo ⟨_, res_run hC.T hf' hv, ?_⟩
   have hfE : Fit E ρ' s' { tmps := a'.tmps, defers := [] } w' := ⟨hf'.len, hf'.lim, hf'.tmps, hdf.symm, hd.back hf'.hp⟩
   exact hR _ _ _ _ _ hfE (inv hf' hv) hk
  ·exact hk.elim
 refine vcDf_sound hC hC2 hnp hdf c _ _ _ hcalm (fun ch s h => h) ?_ ?_ ?_ ?_ (St.start args fn.ntmps H G nx) ρ _ w h (start_fit (C := C) args hx w hh hdf hl1 hl2)
 ·intro e s' ρ' a' w' hf' hk
  cases e with
  | normal => exact fin1 _ _ _ _ hf' hk
  | ret => exact fin1 _ _ _ _ hf' hk
  | _ => exact hk.elim
 ·intro E' hd e s' ρ' a' w' hf' hk
  cases e with
  | normal => exact fin2 E' hd _ _ _ _ hf' hk
  | ret => exact fin2 E' hd _ _ _ _ hf' hk
  | _ => exact hk.elim
 ·intro ch a a' w hd h1 h2 hq tmps' e1 e2
  rw [← hd]
  exact hq tmps' (e1.trans h1) (e2.trans h2)
 ·intro E' hd s' ρ' a' w' hdfe hpin hh' hp tmps' e1 e2
  obtain ⟨hb, hpost⟩ := hP _ hp
  simp only [Bool.and_eq_true] at hb
  obtain ⟨⟨ho, hb1⟩, hb2⟩ := hb
  obtain ⟨x1, m1, d1, y1, z1, c1'⟩ := hasB1_spec hb1
  obtain ⟨x2, m2, d2, y2, z2, c2'⟩ := hasB1_spec hb2
  have k1 := hpin (p1, B1) List.mem_cons_self
  have k2 := hpin (p2, B2) (List.mem_cons_of_mem _ List.mem_cons_self)
  have r1 := (hh'.anc B1 (.inl hd.l1)).1
  have r2 := (hh'.anc B2 (.inl hd.l2)).1
  have g1 := hh'.block ρ' (Agr.refl _ _ _) x1 m1
  have g2 := hh'.block ρ' (Agr.refl _ _ _) x2 m2
  rw [c1', d1, y1] at g1
  rw [c2', d2, y2] at g2
  simp only [SV.dens] at g1 g2
  have hab : ρ'.b B1 ≠ ρ'.b B2 := fun e => hd.ne (by rw [← d1, ← d2]; exact hh'.inj x1 m1 x2 m2 (by rw [d1, d2]; exact e))
  rw [hdfe, hd.df, ← r1, ← r2]
  have hhE := hd.back hh'
  have hal : Below w'.heap.size w' (w'.alloc (.cells #[] T (0, 0))) := (Below.refl _ _).alloc (Nat.le_refl _) _
  have hhA := hhE.below hC.env hal
  have g1a : (w'.alloc (.cells #[] T (0, 0))).heap[ρ'.b B1]? = some (.cells #[z1.den ρ'] u1 (0, 0)) := by rw [hal.block _ (lt_of_block g1)]; exact g1
  have g2a : (w'.alloc (.cells #[] T (0, 0))).heap[ρ'.b B2]? = some (.cells #[z2.den ρ'] u2 (0, 0)) := by rw [hal.block _ (lt_of_block g2)]; exact g2
  have s1 := hhA.set hC.env (w' := (w'.alloc (.cells #[] T (0, 0))).setCell ⟨ρ'.b B1, 0, none⟩ c1) m1 ho [v1] (fun k hk => Below.heap_setCell _ _ _ _ (by rw [d1] at hk; exact hk)) ((Below.refl _ _).setCell (by have := hhE.base x1 m1; rw [d1] at this; exact this) _) (fun ρ'' hr => by
   rw [d1, y1, SV.dens, SV.dens, hv1]; exact one_setCell g1a)
  have g2b : ((w'.alloc (.cells #[] T (0, 0))).setCell ⟨ρ'.b B1, 0, none⟩ c1).heap[ρ'.b B2]? = some (.cells #[z2.den ρ'] u2 (0, 0)) := by rw [Below.heap_setCell _ _ _ _ (Ne.symm hab)]; exact g2a
  have m2' : x2 ∈ setE s'.heap x1.id [v1] := setE_mem m2 (by rw [d1, d2]; exact fun e => hd.ne e.symm)
  have s2 := s1.1.set hC.env (w' := ((w'.alloc (.cells #[] T (0, 0))).setCell ⟨ρ'.b B1, 0, none⟩ c1).setCell ⟨ρ'.b B2, 0, none⟩ c2) m2' (by rw [onceE_setE]; exact ho) [v2] (fun k hk => Below.heap_setCell _ _ _ _ (by rw [d2] at hk; exact hk)) ((Below.refl _ _).setCell (by have := hhE.base x2 m2; rw [d2] at this; exact this) _) (fun ρ'' hr => by
   rw [d2, y2, SV.dens, SV.dens, hv2]; exact one_setCell g2b)
  have n2 := one_setCell (u := c2) g2b
  have n1 := one_setCell (u := c1) g1a
  have n1' : (((w'.alloc (.cells #[] T (0, 0))).setCell ⟨ρ'.b B1, 0, none⟩ c1).setCell ⟨ρ'.b B2, 0, none⟩ c2).heap[ρ'.b B1]? = some (.cells #[c1] u1 (0, 0)) := by rw [Below.heap_setCell _ _ _ _ hab]; exact n1
  refine leave_pan hdo g1 g2 hab ⟨_, res2 hC.T hr2 hT1 hT2 ha1 ha2 (by rw [e1, k1, ← r1]) (by rw [e2, k2, ← r2]) (cell_of_one n1') (cell_of_one n2), ?_⟩
  have hfE : Fit E ρ' ⟨.e, 0, setE (setE s'.heap x1.id [v1]) x2.id [v2], s'.ents, 0⟩ { tmps := #[], defers := [] } (((w'.alloc (.cells #[] T (0, 0))).setCell ⟨ρ'.b B1, 0, none⟩ c1).setCell ⟨ρ'.b B2, 0, none⟩ c2) :=
   ⟨rfl, Nat.zero_le _, fun ρ'' _ t ht => absurd ht (Nat.not_lt_zero _), hdf.symm, s2.1⟩
  have hfin := hR (.tup [v1, v2]) _ ρ' _ _ hfE (fun ρ'' _ => by simp only [SV.den, SV.dens, hv1, hv2]) (hpost _ _ _)
  simpa only [SV.den, SV.dens, hv1, hv2] using hfin
theorem calls_of_vcDL {C C2 : Cx} {E : Env} (hC : C.ok P E) (hC2 : ∀ lo hi E', E'.ok → E'.lo = lo → E'.hi = hi → (C2.from lo hi).ok P E') (hnp : ∀ s, ¬ C.x.pan s) {g : FuncId} {c1 c2 : Value} {T : TypeId} (hdo : DfOk P g C2.x.pv c1 c2 T)
    {f : FuncId} {fn : Func} (hfn : P.funcs[f]? = some fn) (hcalm : calmFD fn = true) (args : List SV) {xs : Array Value} {ρ : Nm} {H : List Ent} {G : List FE} {nx : Nat} (hx : ∀ ρ', Agr ρ ρ' H G → (SV.dens ρ' args).toArray = xs) (w : World)
    (hh : Hp E ρ H G w) {Post : SV → St → Prop} {B1 B2 : Nat} {t1 t2 : TypeId} {i1 i2 : TI} {v1 v2 : SV} (hv1 : ∀ ρ, v1.den ρ = c1) (hv2 : ∀ ρ, v2.den ρ = c2) (hT1 : C.T t1 = some i1) (hT2 : C.T t2 = some i2) (ha1 : i1.sh.agg = false) (ha2 : i2.sh.agg = false)
    (h : vcFD C C2 g B1 B2 t1 t2 fn args H G nx (relitK C Post)) (hP : ∀ s, C2.x.pan s → (onceE s.heap && hasB1 s.heap B1 t1 && hasB1 s.heap B2 t2) = true ∧ ∀ H G n, relitK C Post (.tup [v1, v2]) ⟨.e, 0, H, G, n⟩) {R : Ending → World → Prop}
    (hR : ∀ (v : SV) (s : St) (ρ : Nm) (a : Act) (w' : World), Fit E ρ s a w' → (∀ ρ', Agr ρ ρ' s.heap s.ents → v.den ρ' = v.den ρ) → Post v s → R (.returned (v.den ρ)) w')
    (hdf : E.df = []) : Calls P f xs w R := by
 refine calls_of_vcD hC hC2 hnp hdo hfn hcalm args hx w hh hv1 hv2 hT1 hT2 ha1 ha2 h hP (fun v s ρ1 a w' hf hv hk => ?_) hdf
 unfold relitK at hk
 obtain ⟨ho, hk⟩ := obsK_spec hk
 obtain ⟨ρ2, k1, k2⟩ := relitV_sound (E := E) (S := C.shp) (n := s.next + 50000) hC.lo hC.hi v hf.hp ho
 have e1 : ∀ ρ'', Agr ρ2 ρ'' (relitV C.shp C.lo C.hi s.heap s.ents (s.next + 50000) v).H (relitV C.shp C.lo C.hi s.heap s.ents (s.next + 50000) v).G → (hd1 (relitV C.shp C.lo C.hi s.heap s.ents (s.next + 50000) v).v).den ρ'' = v.den ρ1 := fun ρ'' hr => by
  rw [(k2 ρ'' hr).2]; exact hv ρ'' (k2 ρ'' hr).1
 have e2 := e1 ρ2 (Agr.refl _ _ _)
 rw [← e2]
 exact hR _ ⟨s.fr, s.n, _, _, _⟩ ρ2 a w' (hf.mem _ k1 fun ρ'' hr => (k2 ρ'' hr).1) (fun ρ' hr => by rw [e2]; exact e1 ρ' hr) hk
def vcWTD (C C2 : Cx) (g B1 B2 : Nat) (t1 t2 : TypeId) (fn : Func) (as9 : List Shp) (tk : List (Option TypeId)) (rs : List Shp) (ros : List RO) (ls : List Nat) (x : Shp.Ds as9) (post : Shp.Ds rs → Prop) : Prop :=
 match svArgsT as9 tk (fun _ => x) 0 with
 | some (svs, ents) => freshL C.lo C.hi [] [] ents = true ∧ vcFD C C2 g B1 B2 t1 t2 fn svs [] ents 1000 (relitK C (retPostT rs ros (tkNo tk 0) ls post))
 | none => False
theorem spec_of_vcTD {C : Cx} {C2 : Prop → Cx} {f : FuncId} {fn : Func} (hn : hasFn P f) (hfn : P.funcs[f]? = some fn) (hcalm : calmFD fn = true) {g : FuncId} {pv : TypeId} {c1 c2 : Value} {T : TypeId} (hdo : DfOk P g pv c1 c2 T) (hpv : ∀ B, (C2 B).x.pv = pv)
    {B1 B2 : Nat} {t1 t2 : TypeId} {i1 i2 : TI} {v1 v2 : SV} (hv1 : ∀ ρ, v1.den ρ = c1) (hv2 : ∀ ρ, v2.den ρ = c2) (hT1 : C.T t1 = some i1) (hT2 : C.T t2 = some i2) (ha1 : i1.sh.agg = false) (ha2 : i2.sh.agg = false)
    {as9 : List Shp} {tk : List (Option TypeId)} {rs : List Shp} {ros : List RO} {ls : List Nat} {pre : Shp.Ds as9 → Prop} {post : Shp.Ds as9 → Shp.Ds rs → Prop} {bad : Shp.Ds as9 → Prop}
    (hP : ∀ B s, (C2 B).x.pan s → (onceE s.heap && hasB1 s.heap B1 t1 && hasB1 s.heap B2 t2) = true ∧ B)
    (hbad : ∀ x, pre x → bad x → ∀ H G n, relitK C (retPostT rs ros (tkNo tk 0) ls (post x)) (.tup [v1, v2]) ⟨.e, 0, H, G, n⟩)
    (hC : ∀ E : Env, E.ok → E.lo = C.lo → E.hi = C.hi → C.ok P E) (hC2 : ∀ B lo hi E', E'.ok → E'.lo = lo → E'.hi = hi → ((C2 B).from lo hi).ok P E')
    (h : ∀ x, Shp.lims as9 x → pre x → vcWTD C (C2 (bad x)) g B1 B2 t1 t2 fn as9 tk rs ros ls x (post x)) {E : Env} (hE : E.ok) (hnp : ∀ s, ¬ C.x.pan s := by exact fun _ h => h) : SpecOk P E f (fnSpecT as9 tk rs ros ls pre post) := by
 refine spec_of_vcTG (C := C) hn (fun E x hE hlo hhi hdf hl hp => ?_) hE
 have hv := h x hl hp
 unfold vcWTD at hv
 split at hv
 ·rename_i svs ents hsv
  refine ⟨svs, ents, hsv, hv.1, fun ρc w xs hh hx => calls_of_vcDL (hC E hE hlo hhi) (hC2 (bad x)) hnp (by rw [hpv]; exact hdo) hfn hcalm svs hx w hh hv1 hv2 hT1 hT2 ha1 ha2 hv.2 (fun s hs => ?_) (fun v s ρ a w' h1 h2 h3 => ⟨v, s, ρ, a, rfl, h1, h2, h3⟩) hdf⟩
  obtain ⟨k1, k2⟩ := hP _ _ hs
  exact ⟨k1, hbad x hp k2⟩
 ·exact hv.elim
end rc
end
section
set_option maxHeartbeats 8000000
set_option maxRecDepth 100000
def nuC_t : SpecT := fun _ => none
def nuC : Cx := ⟨tt, qt, bt, st, nuC_t, 0, 1000000000000000, fun _ => none, false, CxE.no, []⟩
theorem nuC_si {E : Env} (h : E.ok) : SpecsOk Tryz.prog E (CxE.no) nuC_t (fun _ => none) := ⟨(fun t f h => by cases h), noI_ok _ _ _⟩
theorem nuC_x {E : Env} (h : E.ok) : CxEOk Tryz.prog E (CxE.no) := CxE.no_ok _ _
theorem nuC_cx (E : Env) (h : E.ok) (h1 : E.lo = 0) (h2 : E.hi = 1000000000000000) : Cx.ok nuC Tryz.prog E := ⟨tt_ok, qt_ok, bt_ok, nuC_si h, h, h1, h2, mixed_ok, nuC_x h⟩
def cutOk (l : List UInt8) (a n : Int) : Bool := decide (0 ≤ a ∧ 0 ≤ n ∧ a + n ≤ l.length)
def cutF (l : List UInt8) (a n : Int) : List UInt8 := if 0 ≤ a ∧ 0 ≤ n ∧ a + n ≤ l.length then (l.drop a.toNat).take n.toNat else []
abbrev sliAs : List Shp := [.sl .byte, .int .i64, .int .i64]
abbrev sliSp : Spec := fnSpecT sliAs [none, none, none] [.sl .byte, .bool] [.sh] [0] (fun _ => True) fun x y => y.1 = cutF x.1 x.2.1 x.2.2.1 ∧ y.2.1 = cutOk x.1 x.2.1 x.2.2.1
theorem wsl_fn : hasFn Tryz.prog 112 := ⟨_, Tryz.func112, by rfl, by rfl⟩
theorem wsl_sp {E : Env} (hE : E.ok) : SpecOk Tryz.prog E 112 sliSp := by
 refine spec_of_vcT (C := nuC) wsl_fn Tryz.func112 (by kernel_rfl) nuC_cx (fun x hl hx => ?_) hE
 obtain ⟨l, a, n, u⟩ := x
 simp only [Shp.lims, Shp.lim] at hl hx
 cbv
 (repeat' (first|((with_reducible apply And.intro <;> intro h) <;> (first|(with_reducible first|exact (tf h ‹_›).elim|exact (tf ‹_› h).elim)|cbv))|((with_reducible first|apply Cb.mk|apply Lz.mk|apply JoinT.left|(apply AllT.mk;intro x hx));cbv)|((with_reducible refine Ob.mk (fun _ => ?_) ?_);rotate_left 1)|(with_reducible first|refine Mg.mk (Exists.intro ?_ (And.intro ?_ ?_))|rfl|apply Fin.mk|exact True.intro|apply And.intro)))
 all_goals (try dsimp only [Shp.D, Shp.Ds, Shp.dflt] at *); simp only [vla, vem, veq, vln] at *; (try dsimp only [Shp.D, Shp.Ds, Shp.dflt, Shp.dflts] at *)
 all_goals first
  | omega
  | (rw [cutF, if_neg (by omega)]; done)
  | (rw [cutOk]; symm; rw [decide_eq_false_iff_not]; omega)
  | (rw [cutF, if_pos (by omega), show (IntKind.i64.wrap (a + n)).toNat - a.toNat = n.toNat by (rw [IntKind.wrap_i64]; omega)]; done)
  | (rw [cutF, if_pos (by omega), show ((a + n + 9223372036854775808) % 18446744073709551616 - 9223372036854775808).toNat - a.toNat = n.toNat by omega]; done)
  | (rw [cutOk]; symm; rw [decide_eq_true_iff]; omega)
  | skip
def numF (l : List UInt8) (a w : Int) : Int × Bool := if 1 ≤ w ∧ w ≤ 8 ∧ 0 ≤ a ∧ a + w ≤ l.length then (num ((l.drop a.toNat).take w.toNat), true) else (0, false)
theorem getD_drop (l : List UInt8) (a k : Nat) (h : a + k < l.length) : ((l.drop a).take (k + 1)) = (l.drop a).take k ++ [l.getD (a + k) 0] := by
 have hk : k < (l.drop a).length := by rw [List.length_drop]; omega
 rw [List.take_succ_eq_append_getElem hk, List.getElem_drop]
 simp [List.getD_eq_getElem?_getD, List.getElem?_eq_getElem h]
theorem or_byte (v : Nat) (x : UInt8) (h : v * 256 + x.toNat < 18446744073709551616) : bits .or .u64 (IntKind.u64.wrap ((v : Int) * 2 ^ min (Int.toNat 8) IntKind.u64.bits)) (IntKind.u64.wrap (x.toNat : Int)) = ((v * 256 + x.toNat : Nat) : Int) := or_step v x.toNat h x.toNat_lt
theorem numF_nn (l : List UInt8) (a w : Int) : 0 ≤ (numF l a w).1 := by
 unfold numF
 split <;> simp
theorem numF_lt (l : List UInt8) (a w : Int) (k : Nat) (hw : w ≤ k) : (numF l a w).1 < 256 ^ k := by
 unfold numF
 split
 ·have h1 := num_lt ((l.drop a.toNat).take w.toNat)
  have h2 : 256 ^ ((l.drop a.toNat).take w.toNat).length ≤ 256 ^ k := Nat.pow_le_pow_right (by omega) (by have := List.length_take_le w.toNat (l.drop a.toNat); omega)
  have h3 : num ((l.drop a.toNat).take w.toNat) < 256 ^ k := by omega
  show ((num ((l.drop a.toNat).take w.toNat) : Nat) : Int) < 256 ^ k
  exact_mod_cast h3
 ·show (0 : Int) < 256 ^ k
  exact Int.pow_pos (by omega)
abbrev numAs : List Shp := [.sl .byte, .int .i64, .int .i64]
abbrev numRs : List Shp := [.int .u64, .bool]
abbrev numSp : Spec := fnFn numAs numRs (fun x => -9223372036854775808 ≤ x.2.1 ∧ x.2.1 ≤ 9223372036854775807) fun x => ((numF x.1 x.2.1 x.2.2.1).1, (numF x.1 x.2.1 x.2.2.1).2, ())
theorem num_eq {x : Shp.Ds numAs} {y : Shp.Ds numRs} (h : numF x.1 x.2.1 x.2.2.1 = (y.1, y.2.1)) : y = ((numF x.1 x.2.1 x.2.2.1).1, (numF x.1 x.2.1 x.2.2.1).2, ()) := by
 obtain ⟨a, b, u⟩ := y
 rw [h]
def wnC_t : SpecT := lf0 112 (sliSp)
def wnC : Cx := ⟨tt, qt, bt, st, wnC_t, 0, 1000000000000000, fun _ => none, false, CxE.no, []⟩
theorem wnC_si {E : Env} (h : E.ok) : SpecsOk Tryz.prog E (CxE.no) wnC_t (fun _ => none) := ⟨(lf0_ok (.inl (wsl_sp h))), noI_ok _ _ _⟩
theorem wnC_x {E : Env} (h : E.ok) : CxEOk Tryz.prog E (CxE.no) := CxE.no_ok _ _
theorem wnC_cx (E : Env) (h : E.ok) (h1 : E.lo = 0) (h2 : E.hi = 1000000000000000) : Cx.ok wnC Tryz.prog E := ⟨tt_ok, qt_ok, bt_ok, wnC_si h, h, h1, h2, mixed_ok, wnC_x h⟩
theorem wnum_fn : hasFn Tryz.prog 86 := ⟨_, Tryz.func86, by rfl, by rfl⟩
theorem wnum_sp0 {E : Env} (hE : E.ok) : SpecOk Tryz.prog E 86 (fnSpec numAs numRs [] (fun x => -9223372036854775808 ≤ x.2.1 ∧ x.2.1 ≤ 9223372036854775807) fun x y => numF x.1 x.2.1 x.2.2.1 = (y.1, y.2.1)) := by
 refine spec_of_vc (C := wnC) wnum_fn Tryz.func86 (by kernel_rfl) wnC_cx (fun x hl hx => ?_) hE
 obtain ⟨l, at_, width, u⟩ := x
 simp only [Shp.lims, Shp.lim] at hl hx
 cbv
 (repeat' (first|((with_reducible apply And.intro <;> intro h) <;> (first|(with_reducible first|exact (tf h ‹_›).elim|exact (tf ‹_› h).elim)|cbv))|((with_reducible first|apply Cb.mk|apply Lz.mk|apply JoinT.left|(apply AllT.mk;intro x hx));cbv)|((with_reducible refine Ob.mk (fun _ => ?_) ?_);rotate_left 1)|(with_reducible first|refine Mg.mk (Exists.intro ?_ (And.intro ?_ ?_))|rfl|apply Fin.mk|exact True.intro|apply And.intro)))
 all_goals first|(with_reducible first|show (∃ _, unr _ _ _ _ _ _)|show UnrI _ _ _ _ _|show Goes _ _ _ _|show JoinT _ _ _ _ _ _ _)|(((try dsimp only [Shp.D, Shp.Ds, Shp.dflt] at *); simp only [vla, vem, veq, vln] at *; (try dsimp only [Shp.D, Shp.Ds, Shp.dflt, Shp.dflts] at *); first | (rw [numF, if_neg (by omega)]; done) | (have h2 : x.snd.fst = false := (by simpa using h); have e := hx.1.2; rw [h2, cutOk, eq_comm, decide_eq_false_iff_not] at e; rw [numF, if_neg (by omega)])))
 have e := hx.1.2
 have e2 := hx.1.1
 have e3 := h
 have w1 := ‹(BE.cmp BinOp.lss _ _).den = false›
 have w2 := ‹(BE.cmp BinOp.gtr _ _).den = false›
 dsimp only [Shp.D, Shp.Ds, Shp.dflt] at e e2 e3 w1 w2
 simp only [vla, vem, veq] at e e2 e3 w1 w2
 replace e3 : x.2.1 = true := by simpa using e3
 rw [e3, cutOk, eq_comm, decide_eq_true_iff] at e
 rw [cutF, if_pos e] at e2
 have e4 : x.1.length = width.toNat := by rw [e2, List.length_take, List.length_drop]; omega
 with_reducible refine loop_hv [] (12 :: rangeN 31 9) [] [] (fun z b t y => 0 ≤ z 30 ∧ z 30 ≤ width ∧ z 10 = num (x.1.take (z 30).toNat)) (fun z b t y => (width - z 30).toNat) (by cbv) (by cbv) ?_ ?_ (fun z1 b1 t1 u1 y1 R1 hP1 hR1 => ?_)
 ·exact EndOk.au
 ·intro zq bq tq yq hUq
  have q10 := hUq.z 10
  have q30 := hUq.z 30
  cbv at q10 q30
  replace q10 := q10.eq
  replace q30 := q30.eq
  simp only [atI, atB, atT, atY, convL_self, vem, veq, ne_eq, cmpI, arI, dvI, shI, SV.den] at q10 q30
  clear hUq
  try dsimp only [Shp.D, Shp.Ds, Shp.dflt] at *
  try simp only [vla, vem, veq] at *
  rw [← q10, ← q30]
  refine ⟨by omega, by omega, by simp [num]⟩
 cbv
 (repeat' (first|((with_reducible apply And.intro <;> intro h) <;> (first|(with_reducible first|exact (tf h ‹_›).elim|exact (tf ‹_› h).elim)|cbv))|((with_reducible first|apply Cb.mk|apply Lz.mk|apply JoinT.left|(apply AllT.mk;intro x hx));cbv)|((with_reducible refine Ob.mk (fun _ => ?_) ?_);rotate_left 1)|(with_reducible first|refine Mg.mk (Exists.intro ?_ (And.intro ?_ ?_))|rfl|apply Fin.mk|exact True.intro|apply And.intro)))
 all_goals first | (with_reducible show Goes _ _ _ _; skip) | (clear hR1)
 ·with_reducible refine hR1 _ ?_ (fun zq bq tq yq hUq => ?_)
  ·exact EndOk.au
  have q10 := hUq.z 10
  have q30 := hUq.z 30
  cbv at q10 q30
  replace q10 := q10.eq
  replace q30 := q30.eq
  simp only [atI, atB, atT, atY, convL_self, vem, veq, ne_eq, cmpI, arI, dvI, shI, SV.den] at q10 q30
  clear hUq hR1
  try dsimp only [Shp.D, Shp.Ds, Shp.dflt] at *
  try simp only [vem, veq, ne_eq, cmpI, arI, dvI, shI, SV.den, elemAt, convL_self] at *
  try dsimp only [Shp.D, Shp.Ds, Shp.dflt, Shp.dflts] at *
  obtain ⟨p1, p2, p3⟩ := hP1
  obtain ⟨k, hk⟩ := Int.eq_ofNat_of_zero_le p1
  have hk2 : k < x.1.length := by omega
  have hg := getD_drop x.1 0 k (by omega)
  have hlt := num_take_lt x.1 k 8 (by omega) (by omega) (x.1.getD k 0)
  simp only [List.drop_zero, Nat.zero_add] at hg
  rw [hk, Int.toNat_natCast] at p3
  rw [p3, hk, Int.toNat_natCast, or_byte _ _ hlt] at q10
  refine ⟨⟨by omega, by omega, ?_⟩, by omega⟩
  rw [show (zq 30).toNat = k + 1 by omega, hg, num_snoc]
  exact q10.symm
 all_goals first
  | ((try dsimp only [Shp.D, Shp.Ds, Shp.dflt] at *); simp only [vla, vem, veq, vln] at *; (try dsimp only [Shp.D, Shp.Ds, Shp.dflt, Shp.dflts] at *); omega)
  | skip
 (try dsimp only [Shp.D, Shp.Ds, Shp.dflt] at *); simp only [vla, vem, veq, vln] at *; (try dsimp only [Shp.D, Shp.Ds, Shp.dflt, Shp.dflts] at *)
 obtain ⟨p1, p2, p3⟩ := hP1
 rw [numF, if_pos (by omega), ← e2, p3, List.take_of_length_le (by omega)]
theorem wnum_sp {E : Env} (hE : E.ok) : SpecOk Tryz.prog E 86 numSp := fnFn_of (wnum_sp0 hE) fun _ _ h => num_eq h
end
section
set_option maxHeartbeats 8000000
set_option maxRecDepth 100000
theorem cutF_0 {l : List UInt8} {w : Int} (h0 : 0 ≤ w) (h1 : w ≤ l.length) : cutF l 0 w = l.take w.toNat := by
 unfold cutF
 rw [if_pos (by omega)]
 simp
theorem cutF_no {l : List UInt8} {w : Int} (h : ¬ (0 ≤ w ∧ w ≤ l.length)) : cutF l 0 w = [] := by
 unfold cutF
 rw [if_neg (by omega)]
theorem numF_cut (l : List UInt8) (w : Int) : numF (cutF l 0 w) 0 w = numF l 0 w := by
 by_cases h : 0 ≤ w ∧ w ≤ l.length
 ·rw [cutF_0 h.1 h.2]
  unfold numF
  have hl : (l.take w.toNat).length = w.toNat := by rw [List.length_take]; omega
  by_cases h1 : 1 ≤ w ∧ w ≤ 8
  ·rw [if_pos (by rw [hl]; omega), if_pos (by omega)]
   simp only [Int.toNat_zero, List.drop_zero, List.take_take, Nat.min_self]
  ·rw [if_neg (by omega), if_neg (by omega)]
 ·rw [cutF_no h]
  unfold numF
  rw [if_neg (by simp only [List.length_nil]; omega), if_neg (by omega)]
theorem numF_drop (l : List UInt8) (k : Nat) (w : Int) : numF (l.drop k) 0 w = numF l k w := by
 unfold numF
 rw [List.length_drop]
 by_cases h : 1 ≤ w ∧ w ≤ 8 ∧ (k : Int) + w ≤ l.length
 ·rw [if_pos (by omega), if_pos (by omega)]
  simp
 ·rw [if_neg (by omega), if_neg (by omega)]
theorem take_rest (l : List UInt8) (k : Nat) : List.take (l.length - k) (List.drop k l) = List.drop k l := by
 exact List.take_of_length_le (by rw [List.length_drop]; exact Nat.le_refl _)
def prI (d : List UInt8) : List UInt8 := cutF (d.drop 4) 0 ((numF d 2 2).1 - 4)
def TrC (d : List UInt8) : Prop := 4 ≤ d.length ∧ ((numF d 0 1).1 = 0 ∨ (numF d 0 1).1 = 3) ∧ 4 ≤ (numF d 2 2).1 ∧ (numF d 2 2).1 ≤ d.length ∧ ((prI d).length = 4 ∨ ((prI d).length = 8 ∧ (numF (prI d) 4 2).1 = 32782 ∧ ¬ (numF (prI d) 6 2).1 = 0))
instance (d : List UInt8) : Decidable (TrC d) := by unfold TrC; exact inferInstance
def trV (d : List UInt8) : TrT := ((numF (prI d) 0 1).1, (numF (prI d) 2 2).1, if (prI d).length = 4 then 0 else (numF (prI d) 6 2).1, ())
def trR (d : List UInt8) : List UInt8 := d.drop (numF d 2 2).1.toNat
def trM (d : List UInt8) : Bool := decide (¬ (numF d 0 1).1 = 0)
def trsP : Nat → List UInt8 → Option (List TrT)
 | 0, d => if d.length = 0 then some [] else none
 | c + 1, d => if TrC d ∧ trM d = decide (0 < c) then (trsP c (trR d)).map (trV d :: ·) else none
def prSpi (d : List UInt8) : List UInt8 := cutF ((prI d).drop 4) 0 (numF (prI d) 2 1).1
def prT (d : List UInt8) : List UInt8 := (prI d).drop (4 + (numF (prI d) 2 1).1.toNat)
def PrC (d : List UInt8) : Prop := 4 ≤ d.length ∧ ((numF d 0 1).1 = 0 ∨ (numF d 0 1).1 = 2) ∧ 4 ≤ (numF d 2 2).1 ∧ (numF d 2 2).1 ≤ d.length ∧ 4 ≤ (prI d).length ∧ 4 + (numF (prI d) 2 1).1 ≤ (prI d).length
instance (d : List UInt8) : Decidable (PrC d) := by unfold PrC; exact inferInstance
def prP (d : List UInt8) : Option PrT :=
 if PrC d then (trsP (numF (prI d) 3 1).1.toNat (prT d)).map fun ts => ((numF (prI d) 0 1).1, (numF (prI d) 1 1).1, prSpi d, ts, ()) else none
def prR (d : List UInt8) : List UInt8 := d.drop (numF d 2 2).1.toNat
def prM (d : List UInt8) : Bool := decide (¬ (numF d 0 1).1 = 0)
def prsN : Nat → List UInt8 → Option (List PrT)
 | 0, _ => none
 | k + 1, d => match prP d with
   | none => none
   | some x => match prM d with
     | true => (prsN k (prR d)).map (x :: ·)
     | false => if (prR d).length = 0 then some [x] else none
theorem prC_len {d : List UInt8} (h : PrC d) : (prR d).length + 8 ≤ d.length := by
 obtain ⟨h1, _, h2, h3, h4, _⟩ := h
 unfold prR
 rw [List.length_drop]
 have : (prI d).length ≤ ((numF d 2 2).1 - 4).toNat := by
  unfold prI cutF
  split
  ·rw [List.length_take]; omega
  ·simp
 omega
theorem prsN_more : ∀ {k : Nat} {d : List UInt8}, d.length ≤ k → ∀ m, d.length ≤ m → prsN k d = prsN m d := by
 intro k
 induction k with
 | zero =>
   intro d h m _
   have hd : d = [] := List.eq_nil_of_length_eq_zero (by omega)
   subst hd
   cases m with
   | zero => rfl
   | succ m =>
     have : prP [] = none := by
      unfold prP
      rw [if_neg]
      intro h
      have := h.1
      simp at this
     simp only [prsN, this]
 | succ k ih =>
   intro d h m hm
   cases m with
   | zero =>
     have hd : d = [] := List.eq_nil_of_length_eq_zero (by omega)
     subst hd
     have : prP [] = none := by
      unfold prP
      rw [if_neg]
      intro h
      have := h.1
      simp at this
     simp only [prsN, this]
   | succ m =>
     simp only [prsN]
     cases hp : prP d with
     | none => rfl
     | some x =>
       have hc : PrC d := by
        unfold prP at hp
        split at hp
        ·assumption
        ·cases hp
       have := prC_len hc
       rw [ih (by omega) m (by omega)]
def prsP (d : List UInt8) : Option (List PrT) := prsN d.length d
theorem prsP_eq (d : List UInt8) : prsP d = match prP d with
    | none => none
    | some x => match prM d with
      | true => (prsP (prR d)).map (x :: ·)
      | false => if (prR d).length = 0 then some [x] else none := by
 unfold prsP
 rw [prsN_more (Nat.le_refl _) (d.length + 1) (by omega)]
 simp only [prsN]
 cases hp : prP d with
 | none => rfl
 | some x =>
   have hc : PrC d := by
    unfold prP at hp
    split at hp
    ·assumption
    ·cases hp
   have := prC_len hc
   rw [prsN_more (show (prR d).length ≤ d.length by omega) (prR d).length (Nat.le_refl _)]
theorem ok_iff {l : List UInt8} {n : Int} : cutOk l 0 n = true ↔ 0 ≤ n ∧ n ≤ l.length := by
 unfold cutOk
 rw [decide_eq_true_iff]
 omega
theorem len_cut {l : List UInt8} {n : Int} (h : 0 ≤ n ∧ n ≤ l.length) : (cutF l 0 n).length = n.toNat := by
 rw [cutF_0 h.1 h.2, List.length_take]
 omega
theorem ok_i {l : List UInt8} {n : Int} : (true = cutOk l 0 n) = (0 ≤ n ∧ n ≤ l.length) := by
 rw [← ok_iff]
 cases cutOk l 0 n <;> simp
theorem no_i {l : List UInt8} {n : Int} : (false = cutOk l 0 n) = ¬ (0 ≤ n ∧ n ≤ l.length) := by
 rw [← ok_iff]
 cases cutOk l 0 n <;> simp
theorem no_iff {l : List UInt8} {n : Int} : cutOk l 0 n = false ↔ ¬ (0 ≤ n ∧ n ≤ l.length) := by
 rw [← ok_iff]
 cases cutOk l 0 n <;> simp
theorem n1 (l : List UInt8) (a : Int) : 0 ≤ (numF l a 1).1 ∧ (numF l a 1).1 < 256 := ⟨numF_nn l a 1, numF_lt l a 1 1 (by decide)⟩
theorem n2 (l : List UInt8) (a : Int) : 0 ≤ (numF l a 2).1 ∧ (numF l a 2).1 < 65536 := ⟨numF_nn l a 2, numF_lt l a 2 2 (by decide)⟩
theorem nW1 (l : List UInt8) (a : Int) : ((numF l a 1).1 + 9223372036854775808) % 18446744073709551616 - 9223372036854775808 = (numF l a 1).1 := by
 have := n1 l a
 omega
theorem nW2 (l : List UInt8) (a : Int) : ((numF l a 2).1 + 9223372036854775808) % 18446744073709551616 - 9223372036854775808 = (numF l a 2).1 := by
 have := n2 l a
 omega
theorem nW4 (l : List UInt8) (a : Int) : ((numF l a 2).1 - 4 + 9223372036854775808) % 18446744073709551616 - 9223372036854775808 = (numF l a 2).1 - 4 := by
 have := n2 l a
 omega
theorem c1 : ((1 : Nat) : Int) = 1 := rfl
theorem c2 : ((2 : Nat) : Int) = 2 := rfl
theorem c3 : ((3 : Nat) : Int) = 3 := rfl
theorem c4 : ((4 : Nat) : Int) = 4 := rfl
theorem c6 : ((6 : Nat) : Int) = 6 := rfl
theorem c8 : ((8 : Nat) : Int) = 8 := rfl
theorem prI_fold (d : List UInt8) : cutF (d.drop 4) 0 ((numF d 2 2).1 - 4) = prI d := rfl
end
end Go.Proofs.YtkifmppmfkpfbaaGreat.V
