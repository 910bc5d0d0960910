import Derived.Test.YtkifmppmfkpfbaaGreatW15
import Derived.RangeFuncOwn
set_option linter.unusedVariables false
set_option linter.unusedSimpArgs false
namespace Go.Proofs.YtkifmppmfkpfbaaGreat.V
open Go.RowKit
section
def recOf (G : List FE) (i : Nat) : Option Loop := match findE G i with
 | some f => match f.c with
   | .codes (.ob (.loop r)) => some r
   | _ => none
 | none => none
def setRec (G : List FE) (i : Nat) (r : Loop) : List FE := match findE G i with
 | some f => replE G ⟨f.id, f.own, f.t, f.al, .codes (.ob (.loop r))⟩
 | none => G
def recL (G : List FE) (i : Nat) : Nat := match findE G i with
 | some f => f.t
 | none => 0
def recAt (r : Loop) (st : LoopState) (p : Option Code) : Loop := ⟨st, p, r.fn, r.tmps, r.params, r.assign, r.body, r.defers⟩
structure IsRec (G : List FE) (i l : Nat) (r0 : Loop) (st : LoopState) (p : Option Code) : Prop where
 r : recOf G i = some (recAt r0 st p)
 l : recL G i = l
 one : soleE i G = true
def isRecP (G : List FE) (i l : Nat) (r0 : Loop) (st : LoopState) (p : Option Code) : Prop := (match recOf G i with
 | some r => r = recAt r0 st p
 | none => False) ∧ recL G i = l ∧ soleE i G = true
theorem isRec_of {G : List FE} {i l : Nat} {r0 : Loop} {st : LoopState} {p : Option Code} (h : isRecP G i l r0 st p) : IsRec G i l r0 st p := by
 obtain ⟨h1, h2, h3⟩ := h
 refine ⟨?_, h2, h3⟩
 split at h1
 ·rename_i r hr; rw [hr, h1]
 ·exact h1.elim
structure AllL (p : Loop → Nat → Nat → Prop) : Prop where
 all : ∀ r0 l D, p r0 l D
section recs
variable {E : Env} {ρ : Nm} {w : World} {H : List Ent} {G : List FE} {P : Program}
theorem rec_at (hh : Hp E ρ H G w) {i : Nat} {r : Loop} (h : recOf G i = some r) : w.heap[recL G i]? = some (.loop r) := by
 unfold recOf at h
 unfold recL
 cases hf : findE G i with
 | none => rw [hf] at h; cases h
 | some f =>
   rw [hf] at h
   simp only at h ⊢
   split at h
   ·rename_i r' hc
    cases h
    have := hh.facts f (findE_mem hf).1
    unfold FE.holds at this
    rw [hc] at this
    exact this.2
   ·cases h
theorem rec_set (hE : E.ok) (hh : Hp E ρ H G w) {i : Nat} {r : Loop} (h : recOf G i = some r) (hs : soleE i G = true) (r' : Loop) :
    ∃ ρ', Hp E ρ' H (setRec G i r') (w.putObj (recL G i) (.loop r')) ∧ ∀ ρ'', Agr ρ' ρ'' H (setRec G i r') → Agr ρ ρ'' H G := by
 unfold recOf at h
 unfold recL setRec
 cases hf : findE G i with
 | none => rw [hf] at h; cases h
 | some f =>
   rw [hf] at h
   simp only at h ⊢
   split at h
   ·rename_i r2 hc
    cases h
    obtain ⟨hm, hid⟩ := findE_mem hf
    have hfa := hh.facts f hm
    unfold FE.holds at hfa
    rw [hc] at hfa
    have hx : f.excl ρ (ρ.b f.id) := by unfold FE.excl; rw [hc]
    have hlt := (Array.getElem?_eq_some_iff.1 hfa.2).1
    have hbw : E.may f.t ∨ E.B ≤ f.t := by have := hh.exB f hm _ hx; rwa [hfa.1.1] at this
    obtain ⟨k1, k2, _⟩ := hh.objset hE (f := f) (f' := ⟨f.id, f.own, f.t, f.al, .codes (.ob (.loop r'))⟩) (Z' := fun _ => False) (by rw [hid]; exact hf) (by rw [hid]; exact hs) hc rfl rfl ⟨fun _ h => h.elim, fun _ _ h => h, fun _ _ _ _ h => h, fun _ h => h.elim⟩ (fun j hj => hj) (w' := w.putObj f.t (.loop r')) (fun k hk => World.putObj_heap_other (by rw [← hfa.1.1]; exact hk)) (below_putObj hbw) (by
     unfold FE.holds
     simp only [Nm.setZ, if_true]
     exact ⟨⟨hfa.1.1, fun _ h => h⟩, World.putObj_heap_same hlt⟩)
    exact ⟨_, k1, k2⟩
   ·cases h
end recs
def putAll (s : St) : List Nat → List SV → St
 | t :: ts, v :: vs => putAll (s.put (some t) v) ts vs
 | _, _ => s
def putTs (tmps : Array Value) : List Nat → List Value → Array Value
 | t :: ts, v :: vs => putTs (tmps.setIfInBounds t v) ts vs
 | _, _ => tmps
theorem putTs_fold (ps : Array Tmp) (args : Array Value) (tmps : Array Value) : (ps.zip args).foldl (fun tmps (t, a) => tmps.setIfInBounds t a) tmps = putTs tmps ps.toList args.toList := by
 rw [← Array.foldl_toList, Array.toList_zip]
 generalize ps.toList = l
 generalize args.toList = m
 induction l generalizing m tmps with
 | nil => simp [putTs]
 | cons t l ih =>
   cases m with
   | nil => simp [putTs]
   | cons v m => simp only [List.zip_cons_cons, List.foldl_cons, putTs]; exact ih _ _
theorem fit_putAll {E : Env} {ρ : Nm} {w : World} : ∀ (ts : List Nat) (vs : List SV) (us : List Value) (s : St) (tmps : Array Value) (df : List Deferred), Fit E ρ s { tmps := tmps, defers := df } w → (∀ ρ', Agr ρ ρ' s.heap s.ents → SV.dens ρ' vs = us) → Fit E ρ (putAll s ts vs) { tmps := putTs tmps ts us, defers := df } w
 | [], _, _, s, tmps, df, h, _ => h
 | _ :: _, [], us, s, tmps, df, h, hv => by
   have := hv ρ (Agr.refl _ _ _)
   simp only [SV.dens] at this
   subst this
   exact h
 | t :: ts, v :: vs, us, s, tmps, df, h, hv => by
   have h0 := hv ρ (Agr.refl _ _ _)
   simp only [SV.dens] at h0
   subst h0
   simp only [putAll, putTs]
   have hag : ∀ ρ', Agr ρ ρ' s.heap s.ents → v.den ρ' = v.den ρ ∧ SV.dens ρ' vs = SV.dens ρ vs := fun ρ' hr => by
    have := hv ρ' hr
    simp only [SV.dens, List.cons.injEq] at this
    exact this
   refine fit_putAll ts vs (SV.dens ρ vs) _ _ df (h.put (some t) fun ρ' hr => (hag ρ' hr).1) fun ρ' hr => (hag ρ' (by rw [put_heap, put_ents] at hr; exact hr)).2
def rdK (r0 : Loop) (i l : Nat) (s : St) (K : SV → St → Prop) (e : Exit) (s3 : St) : Prop :=
 match e with
 | .normal => isRecP s3.ents i l r0 .busy none ∧ K (.bool (.c true)) ⟨s3.fr, s3.n, s3.heap, padH s3.heap (padG (setRec s3.ents i (recAt r0 .ready none)) s.ents) s.heap, s3.next⟩
 | .ret => isRecP s3.ents i l r0 .busy none ∧ K (.bool (.c false)) ⟨s3.fr, s3.n, s3.heap, padH s3.heap (padG (setRec s3.ents i (recAt r0 .done (some .ret))) s.ents) s.heap, s3.next⟩
 | .exit j => isRecP s3.ents i l r0 .busy none ∧ K (.bool (.c false)) ⟨s3.fr, s3.n, s3.heap, padH s3.heap (padG (setRec s3.ents i (recAt r0 .done (some (.exit j)))) s.ents) s.heap, s3.next⟩
 | _ => False
def asK (C : Cx) (body : Code) (r0 : Loop) (i l : Nat) (s : St) (K : SV → St → Prop) (e : Exit) (s2 : St) : Prop :=
 match e with
 | .normal => isRecP s2.ents i l r0 .ready none ∧ vc C body (s2.withE (setRec s2.ents i (recAt r0 .busy none))) (rdK r0 i l s K)
 | _ => False
def yieldSpec (C : Cx) (ps : List Nat) (assign body : Code) (s0 : St) (r0 : Loop) (i l : Nat) : Nat → Spec := fun l' lo hi id args s K => l' = l ∧ isRecP s.ents i l r0 .ready none ∧
 (nBle lo (s.next + 100000) && nBlt (s.next + 100000) hi && heapLo (s.next + 100000) hi s.heap && entsLo (s.next + 100000) hi s.ents && nBeq (lenL args) (lenN ps)) = true ∧
 vc (C.from (s.next + 100000) hi) assign (putAll ⟨s0.fr, s0.n, s.heap, padH s.heap (padG s.ents s0.ents) s0.heap, s.next + 100000⟩ ps args) (asK (C.from (s.next + 100000) hi) body r0 i l ⟨s.fr, s.n, s.heap, padH s.heap (padG s.ents s0.ents) s0.heap, s.next⟩ K)
where lenN : List Nat → Nat
 | [] => 0
 | _ :: l => lenN l + 1
theorem lenN_eq (l : List Nat) : yieldSpec.lenN l = l.length := by induction l with
 | nil => rfl
 | cons x l ih => simp [yieldSpec.lenN, ih]
structure Rec0 (r0 : Loop) (ps : List Nat) (assign body : Code) (tmps : Array Value) : Prop where
 ps : r0.params.toList = ps
 assign : r0.assign = assign
 body : r0.body = body
 tmps : r0.tmps = tmps
theorem pad_agr {E : Env} {ρ ρ' ρ1 : Nm} {H H' : List Ent} {G G' : List FE} {w : World} (hh : Hp E ρ' H' (padH H' (padG G' G) H) w) (hG : ∀ e ∈ H, (e.id < E.lo ∨ E.hi ≤ e.id) ∧ E.ρ0.b e.id = ρ.b e.id)
    (hg : ∀ f ∈ G, (f.id < E.lo ∨ E.hi ≤ f.id) ∧ E.ρ0.b f.id = ρ.b f.id ∧ E.ρ0.s f.id = ρ.s f.id) (h0 : Hp E ρ' H' G' w) (hr : Agr ρ' ρ1 H' (padH H' (padG G' G) H)) : Agr ρ ρ1 H G := by
 obtain ⟨p1, p2, p3⟩ := padG_spec h0 G
 obtain ⟨r1, r2, r3⟩ := padH_spec p1 H
 have anc := hh.anc
 refine ⟨fun e he => ?_, fun g hg' => ?_⟩
 ·obtain ⟨q1, q2⟩ := hG e he
  have h1 := (anc e.id q1).1
  rcases r3 e he with ⟨e', k1, k2⟩ | ⟨g, k1, k2⟩
  ·rw [← q2, ← h1, ← k2]; exact hr.1 e' k1
  ·rw [← q2, ← h1, ← k2]; exact (hr.2 g k1).1
 ·obtain ⟨q1, q2, q3⟩ := hg g hg'
  obtain ⟨g', k1, k2⟩ := p3 g hg'
  have h1 := anc g.id q1
  have h2 := hr.2 g' (r2 g' k1)
  rw [k2] at h2
  exact ⟨(h2.1.trans h1.1).trans q2, (h2.2.trans h1.2).trans q3⟩
section rf
variable {P : Program}
theorem yield_ok {C : Cx} {E : Env} (hE : E.ok) (hC : ∀ lo hi E', E'.ok → E'.lo = lo → E'.hi = hi → (C.from lo hi).ok P E') (hnp : ∀ s, ¬ C.x.pan s) {ps : List Nat} {assign body : Code} (hA : calmC assign = true) (hB : calmC body = true) {s0 : St} {ρ0 : Nm} {tmps : Array Value}
    (hlen : tmps.size = s0.n) (hlim : s0.n ≤ 4000) (htm : ∀ ρ'', Agr ρ0 ρ'' s0.heap s0.ents → ∀ t, t < s0.n → tmps[t]? = some ((s0.fr.get t).den ρ''))
    (hGH : ∀ e ∈ s0.heap, (e.id < E.lo ∨ E.hi ≤ e.id) ∧ E.ρ0.b e.id = ρ0.b e.id) (hGG : ∀ f ∈ s0.ents, (f.id < E.lo ∨ E.hi ≤ f.id) ∧ E.ρ0.b f.id = ρ0.b f.id ∧ E.ρ0.s f.id = ρ0.s f.id) {r0 : Loop} (hr0 : Rec0 r0 ps assign body tmps) {i l : Nat} :
    ∀ l' lo hi id args s K, E.lo = lo → E.hi = hi → yieldSpec C ps assign body s0 r0 i l l' lo hi id args s K → ∀ ρ w, Hp E ρ s.heap s.ents w → (∀ ρ', Agr ρ ρ' s.heap s.ents → SV.dens ρ' args = SV.dens ρ args) →
    ∃ f tmps assign body w', (Instr.yield l' (SV.dens ρ args).toArray).run P w = .ok (.round l' f tmps assign body) w' ∧ RoundIn Fence.wide 0 P l' f tmps assign body w' fun e w'' => ∃ v s' ρ', e = .returned (v.den ρ') ∧ K v s' ∧ Hp E ρ' s'.heap s'.ents w'' ∧ ∀ ρ'', Agr ρ' ρ'' s'.heap s'.ents → Agr ρ ρ'' s.heap s.ents ∧ v.den ρ'' = v.den ρ' := by
 rintro l' lo hi id args s K hlo hhi ⟨rfl, hrec, hq, h⟩ ρ w hh hargs
 have hrec := isRec_of hrec
 simp only [Bool.and_eq_true, nBlt_iff] at hq
 obtain ⟨⟨⟨⟨q1, q2⟩, q3⟩, q4⟩, q5⟩ := hq
 have q1 := nBle_le q1
 have q3 := heapLo_mem q3
 have q4 := entsLo_mem q4
 have q5 := nBeq_eq q5
 rw [lenL_eq, lenN_eq] at q5
 obtain ⟨p1, p2, p3⟩ := padG_spec hh s0.ents
 obtain ⟨hp, r2, r3⟩ := padH_spec p1 s0.heap
 -- what is padded lies where it lay
 have agr0 : ∀ ρ1, Agr ρ ρ1 s.heap (padH s.heap (padG s.ents s0.ents) s0.heap) → Agr ρ0 ρ1 s0.heap s0.ents := fun ρ1 hr => pad_agr hp hGH hGG hh hr
 have agrS : ∀ ρ1, Agr ρ ρ1 s.heap (padH s.heap (padG s.ents s0.ents) s0.heap) → Agr ρ ρ1 s.heap s.ents := fun ρ1 hr => ⟨hr.1, fun f hf => hr.2 f (r2 f (p2 f hf))⟩
 let E' : Env := ⟨E.keep, E.B, E.may, E.z0, s.next + 100000, hi, ρ, []⟩
 have hE' : E'.ok := ⟨hE.keepX⟩
 have hp' : Hp E' ρ s.heap (padH s.heap (padG s.ents s0.ents) s0.heap) w := ⟨hp.keep, hp.size, hp.base, hp.block, hp.inj, hp.facts, hp.pos, hp.apart, hp.alone, hp.exB, hp.al, fun i _ => ⟨rfl, rfl⟩⟩
 have hCC := hC (s.next + 100000) hi E' hE' rfl rfl
 have pno : ∀ {Q : Exit → Act → World → Prop}, (∀ c a w, ¬ Q (.panic c) a w) → PanOk E' (C.from (s.next + 100000) hi).pin (C.from (s.next + 100000) hi).x Q := fun hq => ⟨fun c a a' w _ _ h => (hq _ _ _ h).elim, fun s' _ _ _ _ _ _ h => (hnp s' h).elim⟩
 have fit0 : Fit E' ρ ⟨s0.fr, s0.n, s.heap, padH s.heap (padG s.ents s0.ents) s0.heap, s.next + 100000⟩ { tmps := tmps, defers := [] } w := ⟨hlen, hlim, fun ρ1 hr t ht => htm ρ1 (agr0 ρ1 hr) t ht, rfl, hp'⟩
 have fit1 := fit_putAll ps args (SV.dens ρ args) _ _ _ fit0 fun ρ1 hr => hargs ρ1 (agrS ρ1 hr)
 -- back to the iterator's names
 have back : ∀ {s3 : St} {ρ3 : Nm} {w3 : World} {G3 : List FE}, Hp E' ρ3 s3.heap G3 w3 → Hp E ρ3 s3.heap (padH s3.heap (padG G3 (padH s.heap (padG s.ents s0.ents) s0.heap)) s.heap) w3 ∧ ∀ ρ'', Agr ρ3 ρ'' s3.heap (padH s3.heap (padG G3 (padH s.heap (padG s.ents s0.ents) s0.heap)) s.heap) → Agr ρ ρ'' s.heap s.ents := by
  intro s3 ρ3 w3 G3 h3
  obtain ⟨a1, a2, a3⟩ := padG_spec h3 (padH s.heap (padG s.ents s0.ents) s0.heap)
  obtain ⟨b1, b2, b3⟩ := padH_spec a1 s.heap
  have anc := b1.anc
  have anc3 := h3.anc
  refine ⟨⟨b1.keep, b1.size, b1.base, b1.block, b1.inj, b1.facts, b1.pos, b1.apart, b1.alone, b1.exB, b1.al, fun i hi' => ?_⟩, fun ρ'' hg => ⟨fun e he => ?_, fun g hg' => ?_⟩⟩
  ·have h1 := anc i (by show i < s.next + 100000 ∨ hi ≤ i; omega)
   have h2 := hh.anc i hi'
   exact ⟨h1.1.trans h2.1, h1.2.trans h2.2⟩
  ·have h1 := (anc e.id (q3 e he)).1
   rcases b3 e he with ⟨e', k1, k2⟩ | ⟨g, k1, k2⟩
   ·rw [← k2] at h1 ⊢
    exact (hg.1 e' k1).trans h1
   ·rw [← k2] at h1 ⊢
    exact (hg.2 g k1).1.trans h1
  ·obtain ⟨g', k1, k2⟩ := a3 g (r2 g (p2 g hg'))
   have h1 := anc g.id (q4 g hg')
   have h2 := hg.2 g' (b2 g' k1)
   rw [k2] at h2
   exact ⟨h2.1.trans h1.1, h2.2.trans h1.2⟩
 have hat : ∀ {s3 : St} {ρ3 : Nm} {w3 : World} {st : LoopState} {p : Option Code}, Hp E' ρ3 s3.heap s3.ents w3 → IsRec s3.ents i l' r0 st p → w3.heap[l']? = some (.loop (recAt r0 st p)) := fun h3 hr => by
  have := rec_at h3 hr.r
  rwa [hr.l] at this
 have hset : ∀ {s3 : St} {ρ3 : Nm} {w3 : World} {st : LoopState} {p : Option Code} (st' : LoopState) (p' : Option Code), Hp E' ρ3 s3.heap s3.ents w3 → IsRec s3.ents i l' r0 st p → ∃ ρ4, Hp E' ρ4 s3.heap (setRec s3.ents i (recAt r0 st' p')) (w3.putObj l' (.loop (recAt r0 st' p'))) ∧ ∀ ρ'', Agr ρ4 ρ'' s3.heap (setRec s3.ents i (recAt r0 st' p')) → Agr ρ3 ρ'' s3.heap s3.ents := fun st' p' h3 hr => by
  have := rec_set hE' h3 hr.r hr.one (recAt r0 st' p')
  rwa [hr.l] at this
 have hw0 : w.heap[l']? = some (.loop (recAt r0 .ready none)) := by
  have := rec_at hh hrec.r
  rwa [hrec.l] at this
 refine ⟨r0.fn, putTs tmps ps (SV.dens ρ args), assign, body, w, ?_, ?_⟩
 ·rw [run_yield hw0 (by
    show (SV.dens ρ args).toArray.size = r0.params.size
    rw [← Array.length_toList (xs := r0.params), hr0.ps]
    simp [dens_length, q5])]
  have e1 := putTs_fold r0.params (SV.dens ρ args).toArray r0.tmps
  rw [hr0.ps, hr0.tmps] at e1
  show Result.ok (Next.round l' r0.fn ((r0.params.zip (SV.dens ρ args).toArray).foldl (fun tmps (t, a) => tmps.setIfInBounds t a) r0.tmps) r0.assign r0.body) w = _
  rw [hr0.tmps, e1, hr0.assign, hr0.body]
 ·refine roundIn_of_wpIn trivial ?_
  refine vc_sound (r := some l') hCC assign _ _ hA (pno fun c a w h => h) (fun e s2 ρ2 a2 w2 hf2 hk2 => ?_) _ ρ _ w h fit1
  cases e with
  | normal =>
    obtain ⟨hr2, hk2⟩ := hk2
    have hr2 := isRec_of hr2
    obtain ⟨ρ4, k1, k2⟩ := hset .busy none hf2.hp hr2
    refine ⟨_, run_beginRound (hat hf2.hp hr2) rfl, ?_⟩
    have fit2 := hf2.mem s2.next k1 k2
    refine vc_sound (r := some l') hCC body _ _ hB (pno fun c a w h => h) (fun e s3 ρ3 a3 w3 hf3 hk3 => ?_) _ ρ4 _ _ hk2 fit2
    have fin : ∀ (b : Bool) (st' : LoopState) (p' : Option Code), isRecP s3.ents i l' r0 .busy none → K (.bool (.c b)) ⟨s3.fr, s3.n, s3.heap, padH s3.heap (padG (setRec s3.ents i (recAt r0 st' p')) (padH s.heap (padG s.ents s0.ents) s0.heap)) s.heap, s3.next⟩ →
        ∃ v s' ρ', Ending.returned (.bool b) = .returned (v.den ρ') ∧ K v s' ∧ Hp E ρ' s'.heap s'.ents (w3.putObj l' (.loop (recAt r0 st' p'))) ∧ ∀ ρ'', Agr ρ' ρ'' s'.heap s'.ents → Agr ρ ρ'' s.heap s.ents ∧ v.den ρ'' = v.den ρ' := by
     intro b st' p' hr3 hk
     have hr3 := isRec_of hr3
     obtain ⟨ρ5, m1, m2⟩ := hset st' p' hf3.hp hr3
     obtain ⟨n1, n2⟩ := back m1
     exact ⟨.bool (.c b), _, ρ5, by simp only [SV.den, bden_c], hk, n1, fun ρ'' hr => ⟨n2 ρ'' hr, by simp only [SV.den]⟩⟩
    cases e with
    | normal => exact ⟨_, _, run_endRound none (hat hf3.hp (isRec_of hk3.1)), fin true .ready none hk3.1 hk3.2⟩
    | ret => exact ⟨_, _, run_endRound (some .ret) (hat hf3.hp (isRec_of hk3.1)), fin false .done (some .ret) hk3.1 hk3.2⟩
    | exit j => exact ⟨_, _, run_endRound (some (.exit j)) (hat hf3.hp (isRec_of hk3.1)), fin false .done (some (.exit j)) hk3.1 hk3.2⟩
    | goto j => exact hk3.elim
    | panic ch => exact hk3.elim
    | outgrown => exact hk3.elim
  | exit j => exact hk2.elim
  | goto j => exact hk2.elim
  | ret => exact hk2.elim
  | panic ch => exact hk2.elim
  | outgrown => exact hk2.elim
def Env.mark (E : Env) (D : Nat) : Env := ⟨E.keep, E.B, E.may, E.z0, E.lo, E.hi, E.ρ0, { target := .collected D, args := #[] } :: E.df⟩
def Cx.withY (C : Cx) (y : Nat → Spec) : Cx := ⟨C.T, C.E, C.Y, C.shp, C.S, C.lo, C.hi, C.I, C.inl, ⟨C.x.pv, C.x.pan, C.x.ky, y, C.x.hol⟩, C.pin⟩
theorem withY_ok {C : Cx} {E : Env} (h : C.ok P E) {y : Nat → Spec} (hy : ∀ l lo hi id args s K, E.lo = lo → E.hi = hi → y l lo hi id args s K → ∀ ρ w, Hp E ρ s.heap s.ents w → (∀ ρ', Agr ρ ρ' s.heap s.ents → SV.dens ρ' args = SV.dens ρ args) →
    ∃ f tmps assign body w', (Instr.yield l (SV.dens ρ args).toArray).run P w = .ok (.round l f tmps assign body) w' ∧ RoundIn Fence.wide 0 P l f tmps assign body w' fun e w'' => ∃ v s' ρ', e = .returned (v.den ρ') ∧ K v s' ∧ Hp E ρ' s'.heap s'.ents w'' ∧ ∀ ρ'', Agr ρ' ρ'' s'.heap s'.ents → Agr ρ ρ'' s.heap s.ents ∧ v.den ρ'' = v.den ρ') :
    (C.withY y).ok P E :=
 ⟨h.T, h.eqs, h.Y, ⟨h.SI.S, fun t f hf => ⟨(h.SI.I t f hf).fn, (h.SI.I t f hf).calls⟩⟩, h.env, h.lo, h.hi, h.mixed, ⟨h.x.ky, hy⟩⟩
def dfE (d D : Nat) : FE := ⟨d, false, D, [], .codes (.ob (.deferred (some [])))⟩
def lpE (i l : Nat) (r : Loop) : FE := ⟨i, false, l, [], .codes (.ob (.loop r))⟩
def pendK (K : Exit → St → Prop) (s : St) : Option Code → Prop
 | none => K .normal s
 | some .ret => K .ret s
 | some (.exit j) => K (.exit j) s
 | _ => False
def notBusy : LoopState → Bool
 | .busy => false
 | _ => true
def rfEnd (i l : Nat) (s : St) (K : Exit → St → Prop) (v : SV) (s' : St) : Prop := (soleE i s'.ents = true ∧ recL s'.ents i = l) ∧ match recOf s'.ents i with
 | some r => notBusy r.state = true ∧ pendK K ⟨s.fr, s.n, s'.heap, padH s'.heap (padG (setRec s'.ents i (recAt r .exhausted r.pending)) s.ents) s.heap, s'.next⟩ r.pending
 | none => False
def rfVC (lo hi : Nat) (C1 C0 : Cx) (fi : FuncId) (fnI : Func) (g : Operand) (ps : List Nat) (assign body : Code) (s : St) (K : Nat → Exit → St → Prop) : Prop :=
 match s.ev g with
 | .fnv f cs => (nBeq f fi && fresh lo hi s.next s.heap s.ents && fresh lo hi (s.next + 1) s.heap s.ents && nBle lo (s.next + 100000) && nBlt (s.next + 100000) hi && heapLo (s.next + 100000) hi s.heap && entsLo (s.next + 100000) hi s.ents) = true ∧
   AllL fun r0 l D => vcF ((C1.from (s.next + 100000) hi).withY (yieldSpec C0 ps assign body s r0 (s.next + 1) l)) fnI (.val (.func (.yield l) #[] #[]) :: cs) s.heap (lpE (s.next + 1) l (recAt r0 .ready none) :: dfE s.next D :: s.ents) (s.next + 100000) (rfEnd (s.next + 1) l s (K D))
 | _ => False
theorem rangeF {C1 C0 : Cx} {E : Env} {lo hi : Nat} (hE : E.ok) (hlo : E.lo = lo) (hhi : E.hi = hi) (hC1 : ∀ lo hi E', E'.ok → E'.lo = lo → E'.hi = hi → (C1.from lo hi).ok P E') (hC0 : ∀ lo hi E', E'.ok → E'.lo = lo → E'.hi = hi → (C0.from lo hi).ok P E') (hnp1 : ∀ s, ¬ C1.x.pan s) (hnp0 : ∀ s, ¬ C0.x.pan s)
    {g : Operand} {ps : Array Tmp} {assign body : Code} (hA : calmC assign = true) (hB : calmC body = true) {fi : FuncId} {fnI : Func} (hfn : P.funcs[fi]? = some fnI) (hnm : (fnI.name == "runtime.NumGoroutine") = false ∧ fnI.body.isNone = false) (hcalm : calmF fnI = true)
    {s : St} {ρ : Nm} {a : Act} {w : World} (hf : Fit E ρ s a w) {K : Nat → Exit → St → Prop} (h : rfVC lo hi C1 C0 fi fnI g ps.toList assign body s K) {Q : Exit → Act → World → Prop}
    (hK : ∀ D e s' ρ' a' w', Fit (E.mark D) ρ' s' a' w' → K D e s' → Q e a' w') : Cwp none P (.rangeFunc g ps assign body) Q a w := by
 unfold rfVC at h
 split at h
 ·rename_i f cs hg
  obtain ⟨hq, h⟩ := h
  simp only [Bool.and_eq_true, nBlt_iff] at hq
  obtain ⟨⟨⟨⟨⟨⟨q0, q1⟩, q2⟩, q3⟩, q4⟩, q5⟩, q6⟩ := hq
  have q0 := nBeq_eq q0
  subst q0
  have q1 := fresh_spec q1 hlo hhi
  have q2 := fresh_spec q2 hlo hhi
  have q3 := nBle_le q3
  have q5 := heapLo_mem q5
  have q6 := entsLo_mem q6
  refine wpIn_rangeFunc ?_
  intro fn _
  obtain ⟨r0, hr0⟩ : ∃ r0 : Loop, r0 = ⟨.ready, none, fn, a.tmps, ps, assign, body, w.heap.size⟩ := ⟨_, rfl⟩
  have hrr : recAt r0 .ready none = r0 := by rw [hr0]; rfl
  obtain ⟨k1, k2, _⟩ := hf.hp.obj hE (f := dfE s.next w.heap.size) q1 (.deferred (some [])) rfl (by
   unfold FE.holds
   refine ⟨⟨by simp [dfE, Nm.setO], fun _ h => by simp [dfE, Nm.setO] at h⟩, World.alloc_heap_new w _⟩)
  have hsz : (w.alloc (.deferred (some []))).heap.size = w.heap.size + 1 := World.size_alloc _ _
  obtain ⟨m1, m2, _⟩ := k1.obj hE (f := lpE (s.next + 1) (w.heap.size + 1) r0) ⟨q2.lo, q2.hi, q2.H, fun g hg => by
   rcases List.mem_cons.1 hg with rfl | hg
   ·show s.next ≠ s.next + 1; omega
   ·exact q2.G g hg, fun g hg => by
   rcases List.mem_cons.1 hg with rfl | hg
   ·rfl
   ·exact q2.N g hg⟩ (.loop r0) rfl (by
   unfold FE.holds
   refine ⟨⟨by simp [lpE, Nm.setO], fun _ h => by simp [lpE, Nm.setO] at h⟩, ?_⟩
   have := World.alloc_heap_new (w.alloc (.deferred (some []))) (.loop r0)
   rwa [hsz] at this)
  rw [hsz] at m1 m2
  generalize hρ2 : (ρ.setO (dfE s.next w.heap.size).id w.heap.size).setO (lpE (s.next + 1) (w.heap.size + 1) r0).id (w.heap.size + 1) = ρ2 at m1 m2
  obtain ⟨w2, hw2⟩ : ∃ w2, (w.alloc (.deferred (some []))).alloc (.loop r0) = w2 := ⟨_, rfl⟩
  rw [hw2] at m1
  have ag : ∀ ρ'', Agr ρ2 ρ'' s.heap (lpE (s.next + 1) (w.heap.size + 1) r0 :: dfE s.next w.heap.size :: s.ents) → Agr ρ ρ'' s.heap s.ents := fun ρ'' hr => (k2 ρ'' (m2 ρ'' hr).1).1
  have ag2 := ag ρ2 (Agr.refl _ _ _)
  have hev : ∀ ρ'', Agr ρ ρ'' s.heap s.ents → a.eval g = .func (.func f) #[] (SV.dens ρ'' cs).toArray := fun ρ'' hr => by
   rw [hf.ev hr, hg]; simp only [SV.den]
  have hds : ∀ ρ'', Agr ρ ρ'' s.heap s.ents → SV.dens ρ'' cs = SV.dens ρ cs := fun ρ'' hr => by
   have e := (hev ρ'' hr).symm.trans (hev ρ (Agr.refl _ _ _))
   simp only [Value.func.injEq, List.toArray_inj] at e
   first | exact e.2.2 | exact e.2 | simpa using e
  refine ⟨w.heap.size + 1, [{ target := .collected w.heap.size, args := #[] }], w2, { target := .fn (.func f) (SV.dens ρ cs).toArray, args := #[.func (.yield (w.heap.size + 1)) #[] #[]] }, w2, f, #[.func (.yield (w.heap.size + 1)) #[] #[]] ++ (SV.dens ρ cs).toArray, w2, ?_, ?_, fun _ _ => trivial, ?_, fun h => absurd h depthW, ?_⟩
  ·rw [← hw2, hr0]
   exact run_enterLoop_outer _ _ _ _ _
  ·simp only [resolve, hev ρ (Agr.refl _ _ _)]
   simp [go_sem]
  ·simp only [invoke, callFunc, Sem.run_bind, Sem.run_pure, Result.andThen_ok, run_program, hfn, hnm.1, hnm.2, Bool.false_eq_true, if_false]
  ·let E' : Env := ⟨E.keep, E.B, E.may, E.z0, s.next + 100000, hi, ρ2, []⟩
   have hE' : E'.ok := ⟨hE.keepX⟩
   have hp' : Hp E' ρ2 s.heap (lpE (s.next + 1) (w.heap.size + 1) (recAt r0 .ready none) :: dfE s.next w.heap.size :: s.ents) w2 := by
    rw [hrr]
    exact ⟨m1.keep, m1.size, m1.base, m1.block, m1.inj, m1.facts, m1.pos, m1.apart, m1.alone, m1.exB, m1.al, fun i _ => ⟨rfl, rfl⟩⟩
   have hy := yield_ok (C := C0) (E := E') hE' hC0 hnp0 (ps := ps.toList) hA hB (s0 := s) (ρ0 := ρ2) (tmps := a.tmps) hf.len hf.lim (fun ρ'' hr t ht => hf.tmps ρ'' ⟨fun e he => (hr.1 e he).trans (ag2.1 e he), fun g hg => ⟨(hr.2 g hg).1.trans (ag2.2 g hg).1, (hr.2 g hg).2.trans (ag2.2 g hg).2⟩⟩ t ht)
    (fun e he => ⟨q5 e he, rfl⟩) (fun g hg => ⟨q6 g hg, rfl, rfl⟩) (r0 := r0) (by rw [hr0]; exact ⟨rfl, rfl, rfl, rfl⟩) (i := s.next + 1) (l := w.heap.size + 1)
   have hCy := withY_ok (hC1 (s.next + 100000) hi E' hE' rfl rfl) hy
   refine callsW ?_
   refine calls_of_vc hCy hfn hcalm (.val (.func (.yield (w.heap.size + 1)) #[] #[]) :: cs) (ρ := ρ2) (fun ρ' hr => ?_) w2 hp' (h.all r0 (w.heap.size + 1) w.heap.size) ?_ rfl fun s' _ _ _ hx => (hnp1 s' hx).elim
   ·rw [hrr] at hr
    simp only [SV.dens, SV.den, hds ρ' (ag ρ' hr)]
    apply Array.ext'
    simp
   ·intro v s' ρ' a1 w' hf' hv hpost
    obtain ⟨⟨e1, e2⟩, hpost⟩ := hpost
    split at hpost
    ·rename_i r hr
     obtain ⟨hnb, hk⟩ := hpost
     have hat := rec_at hf'.hp hr
     rw [e2] at hat
     obtain ⟨ρ5, z1, z2⟩ := rec_set hE' hf'.hp hr e1 (recAt r .exhausted r.pending)
     rw [e2] at z1
     refine ⟨r.pending, _, run_endLoop hat (by
      intro hb
      rw [hb] at hnb
      cases hnb), ?_⟩
     -- the caller's state
     obtain ⟨p1, p2, p3⟩ := padG_spec z1 s.ents
     obtain ⟨r1, r2, r3⟩ := padH_spec p1 s.heap
     have anc := r1.anc
     have agz : ∀ ρ'', Agr ρ5 ρ'' s'.heap (padH s'.heap (padG (setRec s'.ents (s.next + 1) (recAt r .exhausted r.pending)) s.ents) s.heap) → Agr ρ ρ'' s.heap s.ents := fun ρ'' hr => by
      have := pad_agr (E := E') (ρ := ρ2) r1 (fun e he => ⟨q5 e he, rfl⟩) (fun g hg => ⟨q6 g hg, rfl, rfl⟩) z1 hr
      exact ⟨fun e he => (this.1 e he).trans (ag2.1 e he), fun g hg => ⟨(this.2 g hg).1.trans (ag2.2 g hg).1, (this.2 g hg).2.trans (ag2.2 g hg).2⟩⟩
     have hpE : Hp (E.mark w.heap.size) ρ5 s'.heap (padH s'.heap (padG (setRec s'.ents (s.next + 1) (recAt r .exhausted r.pending)) s.ents) s.heap) (w'.putObj (w.heap.size + 1) (.loop { r with state := .exhausted })) := ⟨r1.keep, r1.size, r1.base, r1.block, r1.inj, r1.facts, r1.pos, r1.apart, r1.alone, r1.exB, r1.al, fun i hi' => by
      have hi2 : i < E.lo ∨ E.hi ≤ i := hi'
      have h1 := anc i (by show i < s.next + 100000 ∨ hi ≤ i; omega)
      have h2 := m1.anc i hi2
      exact ⟨h1.1.trans h2.1, h1.2.trans h2.2⟩⟩
     have fitE : Fit (E.mark w.heap.size) ρ5 ⟨s.fr, s.n, s'.heap, padH s'.heap (padG (setRec s'.ents (s.next + 1) (recAt r .exhausted r.pending)) s.ents) s.heap, s'.next⟩ { a with defers := [{ target := .collected w.heap.size, args := #[] }] ++ a.defers } (w'.putObj (w.heap.size + 1) (.loop { r with state := .exhausted })) :=
      ⟨hf.len, hf.lim, fun ρ'' hr t ht => hf.tmps ρ'' (agz ρ'' hr) t ht, by show _ :: a.defers = _ :: E.df; rw [hf.defers], hpE⟩
     have hQ := hK w.heap.size
     cases hpd : r.pending with
     | none =>
       rw [hpd] at hk fitE
       exact hQ _ _ _ _ _ fitE hk
     | some c =>
       rw [hpd] at hk fitE
       cases c with
       | ret => exact wpIn_ret (hQ _ _ _ _ _ fitE hk)
       | exit j => exact wpIn_exit (hQ _ _ _ _ _ fitE hk)
       | _ => exact hk.elim
    ·exact hpost.elim
 ·exact h.elim
def Env.withDf (E : Env) (ds : List Deferred) : Env := ⟨E.keep, E.B, E.may, E.z0, E.lo, E.hi, E.ρ0, ds⟩
def noRF : Code → Bool
 | .rangeFunc _ _ _ _ => false
 | .seq a b => noRF a && noRF b
 | .cond _ a b => noRF a && noRF b
 | .block _ c => noRF c
 | .loop c => noRF c
 | .scope c => noRF c
 | _ => true
structure RfP where
 C1 : Cx
 C0 : Cx
 fi : FuncId
 fnI : Func
abbrev Ks := List (Nat × Nat) → Exit → St → Prop
def vcR (C : Cx) (r : RfP) : Code → List (Nat × Nat) → St → Ks → Prop
 | .seq a b, ms, s, K => match noRF a && noRF b with
   | true => vc C (.seq a b) s (K ms)
   | false => vcR C r a ms s fun ms' e s' => match e with
     | .normal => vcR C r b ms' s' K
     | e => K ms' e s'
 | .block id c, ms, s, K => match noRF c with
   | true => vc C (.block id c) s (K ms)
   | false => vcR C r c ms s fun ms' => blockK id (K ms')
 | .rangeFunc g ps a b, ms, s, K => rfVC C.lo C.hi r.C1 r.C0 r.fi r.fnI g ps.toList a b s fun D => K ((s.next, D) :: ms)
 | c, ms, s, K => vc C c s (K ms)
def calmR : Code → Bool
 | .seq a b => calmR a && calmR b
 | .block _ c => calmR c
 | .rangeFunc _ _ a b => calmC a && calmC b
 | c => calmC c
def mkDs : List (Nat × Nat) → List Deferred
 | [] => []
 | p :: l => { target := .collected p.2, args := #[] } :: mkDs l
theorem calmR_of : ∀ {c : Code}, calmR c = true → noRF c = true → calmC c = true
 | .seq a b, h, hn => by
   simp only [calmR, noRF, calmC, Bool.and_eq_true] at *
   exact ⟨calmR_of h.1 hn.1, calmR_of h.2 hn.2⟩
 | .block _ c, h, hn => by
   simp only [calmR, noRF, calmC] at *
   exact calmR_of h hn
 | .rangeFunc _ _ _ _, h, hn => by cases hn
 | .skip, h, _ => h
 | .region _ _ _, h, _ => h
 | .cond _ _ _, h, _ => h
 | .loop _, h, _ => h
 | .scope _, h, _ => h
 | .exit _, h, _ => h
 | .label _, h, _ => h
 | .ret, h, _ => h
 | .goto _, h, _ => h
 | .refuse _, h, _ => h
structure RfOk (P : Program) (r : RfP) : Prop where
 C1 : ∀ lo hi E', E'.ok → E'.lo = lo → E'.hi = hi → (r.C1.from lo hi).ok P E'
 C0 : ∀ lo hi E', E'.ok → E'.lo = lo → E'.hi = hi → (r.C0.from lo hi).ok P E'
 n1 : ∀ s, ¬ r.C1.x.pan s
 n0 : ∀ s, ¬ r.C0.x.pan s
 fn : P.funcs[r.fi]? = some r.fnI
 nm : (r.fnI.name == "runtime.NumGoroutine") = false ∧ r.fnI.body.isNone = false
 calm : calmF r.fnI = true
theorem vcR_sound {C : Cx} {r : RfP} {E : Env} (hC : ∀ ds, C.ok P (E.withDf ds)) (hnp : ∀ s, ¬ C.x.pan s) (hr : RfOk P r) : ∀ (c : Code) (K : Ks) (Q : Exit → Act → World → Prop), calmR c = true → (∀ ch a w, ¬ Q (.panic ch) a w) →
    (∀ ms e s' ρ' a' w', Fit (E.withDf (mkDs ms)) ρ' s' a' w' → K ms e s' → Q e a' w') → ∀ (ms : List (Nat × Nat)) (s : St) (ρ : Nm) (a : Act) (w : World), vcR C r c ms s K → Fit (E.withDf (mkDs ms)) ρ s a w → Cwp none P c Q a w := by
 have base : ∀ (c : Code) (K : Ks) (Q : Exit → Act → World → Prop), calmC c = true → (∀ ch a w, ¬ Q (.panic ch) a w) → (∀ ms e s' ρ' a' w', Fit (E.withDf (mkDs ms)) ρ' s' a' w' → K ms e s' → Q e a' w') →
     ∀ (ms : List (Nat × Nat)) (s : St) (ρ : Nm) (a : Act) (w : World), vc C c s (K ms) → Fit (E.withDf (mkDs ms)) ρ s a w → Cwp none P c Q a w :=
  fun c K Q hc hQ hK ms s ρ a w h hf => vc_sound (hC (mkDs ms)) c (K ms) Q hc ⟨fun c a a' w _ _ h => (hQ _ _ _ h).elim, fun s' _ _ _ _ _ _ h => (hnp s' h).elim⟩ (fun e s' ρ' a' w' h1 h2 => hK ms e s' ρ' a' w' h1 h2) s ρ a w h hf
 intro c
 induction c with
 | seq x y ihx ihy =>
   intro K Q hc hQ hK ms s ρ a w h hf
   unfold vcR at h
   cases hn : noRF x && noRF y with
   | true => rw [hn] at h; exact base _ K Q (calmR_of hc (by simpa only [noRF] using hn)) hQ hK ms s ρ a w h hf
   | false =>
     rw [hn] at h
     simp only [calmR, Bool.and_eq_true] at hc
     refine wpIn_seq (ihx _ (Exit.then (Cwp none P y Q) Q) hc.1 (fun ch a w h => hQ ch a w h) ?_ ms s ρ a w h hf)
     intro ms' e s' ρ' a' w' hf' hk
     cases e with
     | normal => exact ihy K Q hc.2 hQ hK ms' s' ρ' a' w' hk hf'
     | _ => exact hK _ _ _ _ _ _ hf' hk
 | block id x ih =>
   intro K Q hc hQ hK ms s ρ a w h hf
   unfold vcR at h
   cases hn : noRF x with
   | true => rw [hn] at h; exact base _ K Q (calmR_of hc (by simpa only [noRF] using hn)) hQ hK ms s ρ a w h hf
   | false =>
     rw [hn] at h
     simp only [calmR] at hc
     refine wpIn_block (ih _ (Exit.inBlock id Q) hc (fun ch a w h => hQ ch a w h) ?_ ms s ρ a w h hf)
     intro ms' e s' ρ' a' w' hf' hk
     cases e with
     | exit j =>
       simp only [blockK] at hk
       simp only [Exit.inBlock]
       cases hj : nBeq j id with
       | true =>
         rw [hj] at hk
         rw [if_pos (nBeq_eq hj)]
         exact hK _ _ _ _ _ _ hf' hk
       | false =>
         rw [hj] at hk
         rw [if_neg (by intro e2; subst e2; simp at hj)]
         exact hK _ _ _ _ _ _ hf' hk
     | _ => exact hK _ _ _ _ _ _ hf' hk
 | rangeFunc g ps x y _ _ =>
   intro K Q hc hQ hK ms s ρ a w h hf
   simp only [calmR, Bool.and_eq_true] at hc
   exact rangeF (hC (mkDs ms)).env (hC (mkDs ms)).lo (hC (mkDs ms)).hi hr.C1 hr.C0 hr.n1 hr.n0 hc.1 hc.2 hr.fn hr.nm hr.calm hf h fun D e s' ρ' a' w' hf' hk => hK ((s.next, D) :: ms) e s' ρ' a' w' hf' hk
 | skip => exact fun K Q hc hQ hK ms s ρ a w h hf => base _ K Q hc hQ hK ms s ρ a w h hf
 | region _ _ _ => exact fun K Q hc hQ hK ms s ρ a w h hf => base _ K Q hc hQ hK ms s ρ a w h hf
 | cond _ _ _ _ _ => exact fun K Q hc hQ hK ms s ρ a w h hf => base _ K Q hc hQ hK ms s ρ a w h hf
 | loop _ _ => exact fun K Q hc hQ hK ms s ρ a w h hf => base _ K Q hc hQ hK ms s ρ a w h hf
 | scope _ _ => exact fun K Q hc hQ hK ms s ρ a w h hf => base _ K Q hc hQ hK ms s ρ a w h hf
 | exit _ => exact fun K Q hc hQ hK ms s ρ a w h hf => base _ K Q hc hQ hK ms s ρ a w h hf
 | label _ => exact fun K Q hc hQ hK ms s ρ a w h hf => base _ K Q hc hQ hK ms s ρ a w h hf
 | ret => exact fun K Q hc hQ hK ms s ρ a w h hf => base _ K Q hc hQ hK ms s ρ a w h hf
 | goto _ => exact fun K Q hc hQ hK ms s ρ a w h hf => base _ K Q hc hQ hK ms s ρ a w h hf
 | refuse _ => exact fun K Q hc hQ hK ms s ρ a w h hf => base _ K Q hc hQ hK ms s ρ a w h hf
def endMk (Post : SV → St → Prop) (v : SV) (s : St) : List (Nat × Nat) → Prop
 | [] => Post v s
 | [(d, D)] => match findE s.ents d with
   | some f => (f.t = D ∧ soleE d s.ents = true ∧ f.c = .codes (.ob (.deferred (some [])))) ∧ Post v (s.withE (replE s.ents (deadE f)))
   | none => False
 | _ => False
def endR (T : TT) (rs : List ResultVar) (Post : SV → St → Prop) (ms : List (Nat × Nat)) (e : Exit) (s : St) : Prop := endK T rs (fun v s => endMk Post v s ms) e s
def vcFR (C : Cx) (r : RfP) (fn : Func) (args : List SV) (H : List Ent) (G : List FE) (nx : Nat) (Post : SV → St → Prop) : Prop :=
 match fn.body with
 | some c => (match nBle (lenL args) fn.ntmps && nBle fn.ntmps 4000 with | true => vcR C r c [] (St.start args fn.ntmps H G nx) (endR C.T fn.results.toList Post) | false => False)
 | none => False
def calmFR (fn : Func) : Bool :=
 match fn.body with
 | some c => calmR c
 | none => false
theorem resAll_withE (T : TT) (s : St) (G : List FE) : ∀ l : List ResultVar, resAll T (s.withE G) l = resAll T s l
 | [] => rfl
 | r :: l => by
   simp only [resAll, resAll_withE T s G l]
   cases r <;> rfl
theorem resV_withE (T : TT) (s : St) (G : List FE) (l : List ResultVar) : resV T (s.withE G) l = resV T s l := by
 unfold resV
 rw [resAll_withE]
theorem replE_replE {f g : FE} (h : f.id = g.id) : ∀ (l : List FE), replE (replE l f) g = replE l g
 | [] => rfl
 | x :: l => by
   simp only [replE]
   cases hb : nBeq x.id f.id with
   | true =>
     rw [← h, hb]
     simp only [replE, h, nBeq_self]
   | false =>
     rw [← h, hb]
     simp only [replE]
     rw [← h, hb]
     simp only
     rw [replE_replE h l]
theorem start_fit {C : Cx} {E : Env} {fn : Func} (args : List SV) {xs : Array Value} {ρ : Nm} {H : List Ent} {G : List FE} {nx : Nat} (hx : ∀ ρ', Agr ρ ρ' H G → (SV.dens ρ' args).toArray = xs) (w : World) (hh : Hp E ρ H G w) (hdf : E.df = []) (hl1 : args.length ≤ fn.ntmps) (hl2 : fn.ntmps ≤ 4000) :
    Fit E ρ (St.start args fn.ntmps H G nx) { tmps := xs ++ Array.replicate (fn.ntmps - xs.size) undef, defers := [] } w := by
 have hxs : xs.size = args.length := by rw [← hx ρ (Agr.refl _ _ _)]; simp [dens_length]
 refine ⟨by simp [St.start, hxs]; omega, hl2, ?_, hdf.symm, hh⟩
 intro ρ' hr t ht
 simp only [St.start]
 rw [frOf_get args 0 t (by omega)]
 simp only [Nat.zero_le, if_true, Nat.sub_zero]
 rw [Array.getElem?_append]
 have ht' : t < fn.ntmps := ht
 by_cases hlt : t < xs.size
 ·rw [if_pos hlt, ← hx ρ' hr]
  rw [hxs] at hlt
  simp [dens_getElem?, List.getElem?_eq_getElem hlt, List.getD_eq_getElem?_getD]
 ·rw [if_neg hlt]
  rw [hxs] at hlt
  rw [List.getD_eq_getElem?_getD, List.getElem?_eq_none (by omega)]
  simp [SV.den, hxs, Array.getElem?_replicate]
  omega
theorem calls_of_vcR {C : Cx} {r : RfP} {E : Env} (hC : ∀ ds, C.ok P (E.withDf ds)) (hnp : ∀ s, ¬ C.x.pan s) (hr : RfOk P r) {f : FuncId} {fn : Func} (hfn : P.funcs[f]? = some fn) (hcalm : calmFR fn = true) (args : List SV) {xs : Array Value} {ρ : Nm} {H : List Ent} {G : List FE} {nx : Nat} (hx : ∀ ρ', Agr ρ ρ' H G → (SV.dens ρ' args).toArray = xs) (w : World)
    (hh : Hp E ρ H G w) {Post : SV → St → Prop} (h : vcFR C r fn args H G nx Post) {R : Ending → World → Prop}
    (hR : ∀ (v : SV) (s : St) (ρ : Nm) (a : Act) (w' : World), Fit E ρ s a w' → (∀ ρ', Agr ρ ρ' s.heap s.ents → v.den ρ' = v.den ρ) → Post v s → R (.returned (v.den ρ)) w')
    (hdf : E.df = []) : Calls P f xs w R := by
 unfold vcFR at h
 unfold calmFR at hcalm
 split at h
 ·rename_i c hb
  rw [hb] at hcalm
  cases hq : (nBle (lenL args) fn.ntmps && nBle fn.ntmps 4000) with
  | false => rw [hq] at h; exact h.elim
  | true =>
  rw [hq] at h
  simp only [Bool.and_eq_true] at hq
  have hl1 := nBle_le hq.1
  have hl2 := nBle_le hq.2
  rw [lenL_eq] at hl1
  refine callsW' (r := none) (n := 0) (callsIn_of_wp_marks hfn hb trivial ?_)
  have hmono : ∀ (e : Exit) (a : Act) (w : World), (match e with | .panic _ => False | e => bodyPostM (FW none) 0 P fn R e a w) → bodyPostM (FW none) 0 P fn R e a w := by
   intro e a w h
   cases e <;> first | exact h | exact h.elim
  refine wpIn_mono ?_ hmono
  have inv : ∀ {E : Env} {s' : St} {ρ' : Nm} {a' : Act} {w' : World} {v : SV}, Fit E ρ' s' a' w' → resV C.T s' fn.results.toList = some v → ∀ ρ'', Agr ρ' ρ'' s'.heap s'.ents → v.den ρ'' = v.den ρ' := by
   intro E s' ρ' a' w' v hf' hv ρ'' hr
   have h1 := res_run (hC []).T hf' hv
   have h2 := res_run (hC []).T (hf'.rename hr) (resV_dead hv)
   rw [h1] at h2
   have h3 : v.den ⟨ρ''.b, ρ''.s, ρ'.z⟩ = v.den ρ' := by simpa using h2.symm
   rw [← h3]
   exact den_z _ _ _ _ v
  have fin : ∀ (ms : List (Nat × Nat)) (v : SV) (s' : St) (ρ' : Nm) (a' : Act) (w' : World), Fit (E.withDf (mkDs ms)) ρ' s' a' w' → resV C.T s' fn.results.toList = some v → endMk Post v s' ms → LeavesInM (FW none) 0 P fn a'.tmps R a'.defers .returning w' := by
   intro ms v s' ρ' a' w' hf' hv hk
   have hds := hf'.defers
   unfold endMk at hk
   split at hk
   ·rw [hds]
    have hfE : Fit E ρ' s' a' w' := ⟨hf'.len, hf'.lim, hf'.tmps, hds.trans hdf.symm, ⟨hf'.hp.keep, hf'.hp.size, hf'.hp.base, hf'.hp.block, hf'.hp.inj, hf'.hp.facts, hf'.hp.pos, hf'.hp.apart, hf'.hp.alone, hf'.hp.exB, hf'.hp.al, hf'.hp.anc⟩⟩
    exact ⟨_, res_run (hC []).T hf' hv, hR _ _ _ _ _ hfE (inv hf' hv) hk⟩
   ·rename_i d D
    split at hk
    ·rename_i g hg
     obtain ⟨⟨rfl, hone, hc⟩, hk⟩ := hk
     obtain ⟨hm, hid⟩ := findE_mem hg
     have hfa := hf'.hp.facts g hm
     unfold FE.holds at hfa
     rw [hc] at hfa
     have hx : g.excl ρ' (ρ'.b g.id) := by unfold FE.excl; rw [hc]
     have hlt := (Array.getElem?_eq_some_iff.1 hfa.2).1
     have hbw : (E.withDf (mkDs [(d, g.t)])).may g.t ∨ (E.withDf (mkDs [(d, g.t)])).B ≤ g.t := by have := hf'.hp.exB g hm _ hx; rwa [hfa.1.1] at this
     obtain ⟨k1, k2, _⟩ := hf'.hp.objset (hC (mkDs [(d, g.t)])).env (f := g) (f' := ⟨g.id, g.own, g.t, g.al, .codes (.ob (.deferred none))⟩) (Z' := fun _ => False) (by rw [hid]; exact hg) (by rw [hid]; exact hone) hc rfl rfl ⟨fun _ h => h.elim, fun _ _ h => h, fun _ _ _ _ h => h, fun _ h => h.elim⟩ (fun j hj => hj) (w' := w'.putObj g.t (.deferred none)) (fun k hk => World.putObj_heap_other (by rw [← hfa.1.1]; exact hk)) (below_putObj hbw) (by
      unfold FE.holds
      simp only [Nm.setZ, if_true]
      exact ⟨⟨hfa.1.1, fun _ h => h⟩, World.putObj_heap_same hlt⟩)
     have hfr := find_repl (f := (⟨g.id, g.own, g.t, g.al, .codes (.ob (.deferred none))⟩ : FE)) (f0 := g) (l := s'.ents) (by show findE s'.ents g.id = some g; rw [hid]; exact hg)
     obtain ⟨z1, z2⟩ := repl_dead k1 (f := (⟨g.id, g.own, g.t, g.al, .codes (.ob (.deferred none))⟩ : FE)) (i := g.id) hfr
     rw [replE_replE (f := (⟨g.id, g.own, g.t, g.al, .codes (.ob (.deferred none))⟩ : FE)) (g := deadE (⟨g.id, g.own, g.t, g.al, .codes (.ob (.deferred none))⟩ : FE)) rfl] at z1 z2
     have hdd : deadE ⟨g.id, g.own, g.t, g.al, .codes (.ob (.deferred none))⟩ = deadE g := rfl
     rw [hdd] at z1 z2
     have hfE : Fit E (ρ'.setZ g.id fun _ => False) (s'.withE (replE s'.ents (deadE g))) { a' with defers := [] } (w'.putObj g.t (.deferred none)) := ⟨hf'.len, hf'.lim, fun ρ'' hr t ht => hf'.tmps ρ'' (k2 ρ'' (z2 ρ'' hr)) t ht, hdf.symm, ⟨z1.keep, z1.size, z1.base, z1.block, z1.inj, z1.facts, z1.pos, z1.apart, z1.alone, z1.exB, z1.al, z1.anc⟩⟩
     have hv2 : resV C.T (s'.withE (replE s'.ents (deadE g))) fn.results.toList = some v := by rw [resV_withE]; exact hv
     have hrun := res_run (hC []).T hfE hv2
     rw [hds]
     show LeavesInM (FW none) 0 P fn a'.tmps R [{ target := .collected g.t, args := #[] }] .returning w'
     refine ⟨by simp, .inl ⟨g.t, _, rfl, run_takeDeferred hfa.2, ?_⟩⟩
     exact ⟨_, hrun, hR _ _ _ _ _ hfE (inv hfE hv2) hk⟩
    ·exact hk.elim
   ·exact hk.elim
  have hE0 : E.withDf (mkDs []) = E := by
   cases E
   simp only [Env.withDf, mkDs] at *
   rw [hdf]
  refine vcR_sound hC hnp hr c (endR C.T fn.results.toList Post) _ hcalm (fun ch a w h => h) ?_ [] (St.start args fn.ntmps H G nx) ρ _ w h (by rw [hE0]; exact start_fit (C := C) args hx w hh hdf hl1 hl2)
  intro ms e s' ρ' a' w' hf' hk'
  unfold endR at hk'
  cases e with
  | normal =>
    simp only [endK] at hk' ⊢
    unfold resK at hk'
    split at hk'
    ·rename_i v hv
     exact fin ms v s' ρ' a' w' hf' hv hk'
    ·exact hk'.elim
  | ret =>
    simp only [endK] at hk' ⊢
    unfold resK at hk'
    split at hk'
    ·rename_i v hv
     exact fin ms v s' ρ' a' w' hf' hv hk'
    ·exact hk'.elim
  | _ => exact hk'.elim
 ·exact h.elim
theorem calls_of_vcRL {C : Cx} {r : RfP} {E : Env} (hC : ∀ ds, C.ok P (E.withDf ds)) (hnp : ∀ s, ¬ C.x.pan s) (hr : RfOk P r) {f : FuncId} {fn : Func} (hfn : P.funcs[f]? = some fn) (hcalm : calmFR fn = true) (args : List SV) {xs : Array Value} {ρ : Nm} {H : List Ent} {G : List FE} {nx : Nat} (hx : ∀ ρ', Agr ρ ρ' H G → (SV.dens ρ' args).toArray = xs) (w : World)
    (hh : Hp E ρ H G w) {Post : SV → St → Prop} (h : vcFR C r fn args H G nx (relitK C Post)) {R : Ending → World → Prop}
    (hR : ∀ (v : SV) (s : St) (ρ : Nm) (a : Act) (w' : World), Fit E ρ s a w' → (∀ ρ', Agr ρ ρ' s.heap s.ents → v.den ρ' = v.den ρ) → Post v s → R (.returned (v.den ρ)) w')
    (hdf : E.df = []) : Calls P f xs w R := by
 refine calls_of_vcR hC hnp hr hfn hcalm args hx w hh h (fun v s ρ1 a w' hf hv hk => ?_) hdf
 unfold relitK at hk
 obtain ⟨ho, hk⟩ := obsK_spec hk
 obtain ⟨ρ2, k1, k2⟩ := relitV_sound (E := E) (S := C.shp) (n := s.next + 50000) (hC []).lo (hC []).hi v hf.hp ho
 have e1 : ∀ ρ'', Agr ρ2 ρ'' (relitV C.shp C.lo C.hi s.heap s.ents (s.next + 50000) v).H (relitV C.shp C.lo C.hi s.heap s.ents (s.next + 50000) v).G → (hd1 (relitV C.shp C.lo C.hi s.heap s.ents (s.next + 50000) v).v).den ρ'' = v.den ρ1 := fun ρ'' hr => by
  rw [(k2 ρ'' hr).2]; exact hv ρ'' (k2 ρ'' hr).1
 have e2 := e1 ρ2 (Agr.refl _ _ _)
 rw [← e2]
 exact hR _ ⟨s.fr, s.n, _, _, _⟩ ρ2 a w' (hf.mem _ k1 fun ρ'' hr => (k2 ρ'' hr).1) (fun ρ' hr => by rw [e2]; exact e1 ρ' hr) hk
def vcWTR (C : Cx) (r : RfP) (fn : Func) (as9 : List Shp) (tk : List (Option TypeId)) (rs : List Shp) (ros : List RO) (ls : List Nat) (x : Shp.Ds as9) (post : Shp.Ds rs → Prop) : Prop :=
 match svArgsT as9 tk (fun _ => x) 0 with
 | some (svs, ents) => freshL C.lo C.hi [] [] ents = true ∧ vcFR C r fn svs [] ents 1000 (relitK C (retPostT rs ros (tkNo tk 0) ls post))
 | none => False
theorem spec_of_vcTR {C : Cx} {r : RfP} {f : FuncId} {fn : Func} (hn : hasFn P f) (hfn : P.funcs[f]? = some fn) (hcalm : calmFR fn = true) (hr : RfOk P r) {as9 : List Shp} {tk : List (Option TypeId)} {rs : List Shp} {ros : List RO} {ls : List Nat} {pre : Shp.Ds as9 → Prop} {post : Shp.Ds as9 → Shp.Ds rs → Prop}
    (hC : ∀ E : Env, E.ok → E.lo = C.lo → E.hi = C.hi → C.ok P E) (h : ∀ x, Shp.lims as9 x → pre x → vcWTR C r fn as9 tk rs ros ls x (post x)) {E : Env} (hE : E.ok) (hnp : ∀ s, ¬ C.x.pan s := by exact fun _ h => h) : SpecOk P E f (fnSpecT as9 tk rs ros ls pre post) := by
 refine spec_of_vcTG (C := C) hn (fun E x hE hlo hhi hdf hl hp => ?_) hE
 have hv := h x hl hp
 unfold vcWTR at hv
 split at hv
 ·rename_i svs ents hsv
  exact ⟨svs, ents, hsv, hv.1, fun ρc w xs hh hx => calls_of_vcRL (fun ds => hC (E.withDf ds) ⟨hE.keepX⟩ hlo hhi) hnp hr hfn hcalm svs hx w hh hv.2 (fun v s ρ a w' h1 h2 h3 => ⟨v, s, ρ, a, rfl, h1, h2, h3⟩) hdf⟩
 ·exact hv.elim
end rf
end
end Go.Proofs.YtkifmppmfkpfbaaGreat.V
