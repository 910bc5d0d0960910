import Derived.Test.YtkifmppmfkpfbaaGreatW08
import Derived.Test.YtkifmppmfkpfbaaGreatW09
set_option linter.unusedVariables false
set_option linter.unusedSimpArgs false
namespace Go.Proofs.YtkifmppmfkpfbaaGreat.V
open Go.RowKit
section
section hole
variable {E : Env} {ρ : Nm} {w : World} {H : List Ent} {G : List FE} {P : Program} {T : TT}
def storeH (T : TT) (G : List FE) (n : Nat) (t : TypeId) (x v : SV) : Option (List (Unit → Prop) × List FE) := none
theorem storeH_sound (hT : TT.ok P T) (hE : E.ok) (hh : Hp E ρ H G w) {n : Nat} (hfr : Fresh E n H G) {t : TypeId} {x v : SV} {obs : List (Unit → Prop)} {G' : List FE} (h : storeH T G n t x v = some (obs, G')) (ho : ∀ p ∈ obs, p ()) :
    ∃ w' ρ', (Instr.storeAt t (x.den ρ) (v.den ρ)).run P w = .ok () w' ∧ Hp E ρ' H G' w' ∧ ∀ ρ'', Agr ρ' ρ'' H G' → Agr ρ ρ'' H G := by
 unfold storeH at h
 cases h
def loadH (T : TT) (G : List FE) (t : TypeId) (x : SV) : Option ((Unit → Prop) × SV) := none
theorem loadH_sound (hT : TT.ok P T) (hh : Hp E ρ H G w) {t : TypeId} {x v : SV} {ob : Unit → Prop} (h : loadH T G t x = some (ob, v)) (ho : ob ()) : ∀ ρ', Agr ρ ρ' H G → x.den ρ' = x.den ρ → v.den ρ' = v.den ρ ∧ (Instr.loadAt t (x.den ρ)).run P w = .ok (v.den ρ) w := by
 unfold loadH at h
 cases h
def closeG (H : List Ent) (G : List FE) : Option (List (Unit → Prop) × List FE) := none
theorem closeG_sound (hh : Hp E ρ H G w) {obs : List (Unit → Prop)} {G' : List FE} (h : closeG H G = some (obs, G')) (ho : ∀ p ∈ obs, p ()) :
    ∃ ρ', Hp E ρ' H G' w ∧ ∀ ρ'', Agr ρ' ρ'' H G' → Agr ρ ρ'' H G := by
 unfold closeG at h
 cases h
def closeX (H : List Ent) (G : List FE) (x : SV) : Option (List (Unit → Prop) × List FE) := none
theorem closeX_sound (hh : Hp E ρ H G w) {x : SV} {obs : List (Unit → Prop)} {G' : List FE} (h : closeX H G x = some (obs, G')) (ho : ∀ p ∈ obs, p ()) :
    ∃ ρ', Hp E ρ' H G' w ∧ ∀ ρ'', Agr ρ' ρ'' H G' → Agr ρ ρ'' H G := by
 unfold closeX at h
 cases h
def addrH (T : TT) (G : List FE) (ev : Operand → SV) (_ : Op) : Option PR := none
theorem addrH_sound (hT : TT.ok P T) (hh : Hp E ρ H G w) {ev : Operand → SV} {o : Oper} {r : PR} (h : addrH T G ev o.op = some r) (ho : obP r.ob) : ∀ ρ'', Agr ρ ρ'' H G → ∀ A : Act, (∀ x, A.eval x = (ev x).den ρ'') → (execOp A.eval o).run P w = .ok (.value (r.v.den ρ'')) w := by
 unfold addrH at h
 cases h
end hole
end
section
def panV (pv : TypeId) : SV → Bool
 | .val (.iface t (.agg cs)) => nBeq t pv && nBeq cs.size 0
 | _ => false
def yieldOf (s : St) (c : Call) : Option Nat :=
 match c.callee with
 | .value (.tmp t) => match s.ev (.tmp t) with
   | .val (.func (.yield l) a b) => (match nBeq a.size 0 && nBeq b.size 0 with | true => some l | false => none)
   | _ => none
 | _ => none
def updK (C : Cx) (s : St) (t : TypeId) (H : List Ent) (G : List FE) (m k v : SV) (K : St → Prop) : Prop :=
 match updE C.T C.x.ky H G t m k v with
 | some (obs, _, G') => obsK obs (K (s.withHE H G'))
 | none => False
def mapK (C : Cx) (id : Nat) (o : Oper) (t : TypeId) (m k v : Operand) (s : St) (K : St → Prop) : Prop :=
 match s.ev v with
 | .osl b 0 n cap => match nBeq n cap, litE C.shp s.heap s.ents id b n with
   | true, some (obs0, G0) => fresh C.lo C.hi id s.heap s.ents = true ∧ obsK obs0 (updK C s t (lessE s.heap [b]) G0 (s.ev m) (s.ev k) (.fv id) fun s' => K (s'.put o.dst (.val undef)))
   | _, _ => False
 | u => updK C s t s.heap s.ents (s.ev m) (s.ev k) u fun s' => K (s'.put o.dst (.val undef))
def addrK (C : Cx) (id : Nat) (o : Oper) (s : St) (K : St → Prop) : Prop :=
 match C.x.hol with
 | false => step0 C id o s K
 | true => match addrH C.T s.ents s.ev o.op with
   | some r => obK r.ob (K (s.put o.dst r.v))
   | none => step0 C id o s K
def step (C : Cx) (id : Nat) (o : Oper) (s : St) (K : St → Prop) : Prop :=
 match o.op with
 | .panic x => (panV C.x.pv (s.ev x) && pinS C.lo s C.pin) = true ∧ C.x.pan s
 | .makeMap t none => match mkM C.T C.x.ky C.shp s.ents id t with
   | some G => fresh C.lo C.hi id s.heap s.ents = true ∧ K ((s.withE G).put o.dst (.mp id))
   | none => False
 | .lookup t m k c => match lookE C.T C.x.ky s.ents id t (s.ev m) (s.ev k) c with
   | some (obs, v, news) => freshL C.lo C.hi s.heap s.ents news = true ∧ obsK obs (K ((s.withE (catE news s.ents)).put o.dst v))
   | none => False
 | .mapUpdate t m k v => mapK C id o t m k v s K
 | .insert t m k v => mapK C id o t m k v s K
 | .call c => match yieldOf s c with
   | some l => C.x.yd l C.lo C.hi id (evs s.ev c.args.toList) s fun v s' => K ((s.take s').put o.dst v)
   | none => step0 C id o s K
 | .store t x y => match C.x.hol with
   | false => step0 C id o s K
   | true => match storeH C.T s.ents id t (s.ev x) (s.ev y) with
     | some (obs, G) => fresh C.lo C.hi id s.heap s.ents = true ∧ obsK obs (K ((s.withE G).put o.dst (.val undef)))
     | none => match closeX s.heap s.ents (s.ev x) with
       | some (obs, G) => obsK obs (step0 C id o (s.withE G) K)
       | none => step0 C id o s K
 | .load t x => match C.x.hol with
   | false => step0 C id o s K
   | true => match loadH C.T s.ents t (s.ev x) with
     | some (ob, v) => Ob ob (K (s.put o.dst v))
     | none => step0 C id o s K
 | .indexAddr _ _ _ => addrK C id o s K
 | .fieldAddr _ _ _ => addrK C id o s K
 | _ => step0 C id o s K
def chgM (s : St) (m v : Operand) : Chg :=
 match s.ev v with
 | .osl _ _ _ _ => .all
 | _ => match s.ev m with
   | .mp id => .one id
   | _ => .all
def chgOf (C : Cx) (op : Op) (s : St) : Chg :=
 match op with
 | .mapUpdate _ m _ v => chgM s m v
 | .insert _ m _ v => chgM s m v
 | .call c => match yieldOf s c with
   | some _ => .all
   | none => stId C op s
 | .store _ _ _ => (match C.x.hol with
   | true => .all
   | false => stId C op s)
 | _ => stId C op s
theorem updE_id {T : TT} {ky : TypeId → Option Shp} {H : List Ent} {G : List FE} {t : TypeId} {m k v : SV} {obs : List (Unit → Prop)} {id : Nat} {G' : List FE} (h : updE T ky H G t m k v = some (obs, id, G')) : m = .mp id := by
 unfold updE at h
 split at h
 ·split at h
  ·split at h
   ·split at h
    ·split at h
     ·split at h
      ·split at h
       ·split at h
        ·split at h
         ·split at h
          ·split at h
           ·cases h; rfl
           ·cases h
          ·cases h
         ·cases h
        ·cases h
       ·cases h
      ·cases h
     ·cases h
    ·cases h
   ·cases h
  ·cases h
 ·cases h
section step
variable {C : Cx} {P : Program} {E : Env} {ρ : Nm} {s : St} {a : Act} {w : World} {r : Option Nat}
theorem ext_all {H H' : List Ent} {G G' : List FE} {ρ ρ' : Nm} {w w' : World} : Ext ρ H G w ρ' H' G' w' .all := ⟨fun e he hn => (hn trivial).elim, fun id' f hn => (hn trivial).elim⟩
theorem step_sound (hC : C.ok P E) {id : Nat} {o : Oper} {K : St → Prop} (hnd : nodefB o.op = true) (h : step C id o s K) (hf : Fit E ρ s a w) {next : Act → World → Prop} {Q : Exit → Act → World → Prop}
    (hp : ∀ s' ρ' a' w', a'.defers = E.df → PinA E C.pin a' → Hp E ρ' s'.heap s'.ents w' → C.x.pan s' → Q (.panic C.x.ch) a' w')
    (hn : ∀ s' ρ' a' w', Fit E ρ' s' a' w' → K s' → Ext ρ s.heap s.ents w ρ' s'.heap s'.ents w' (chgOf C o.op s) → next a' w') : Owp r P o a w next Q := by
 have hA0 := fun (ρ' : Nm) (hr : Agr ρ ρ' s.heap s.ents) => hf.ev hr
 have hA := hA0 ρ (Agr.refl _ _ _)
 have old : step0 C id o s K → chgOf C o.op s = stId C o.op s → Owp r P o a w next Q := fun h e => owp_of hnd (step0_sound hC h hf hp fun s' ρ' a' w' h1 h2 h3 => hn s' ρ' a' w' h1 h2 (by rw [e]; exact h3))
 have upd : ∀ (t : TypeId) (m k v : Operand), (execOp a.eval o = do Instr.mapUpdate t (a.eval m) (a.eval k) (a.eval v); pure .skip) → chgOf C o.op s = chgM s m v → mapK C id o t m k v s K → Owp r P o a w next Q := by
  intro t m k v hex hch h
  refine owp_of hnd ?_
  have fin : ∀ {ρ1 : Nm} {H : List Ent} {G : List FE} {u : SV}, Hp E ρ1 H G w → (∀ ρ'', Agr ρ1 ρ'' H G → Agr ρ ρ'' s.heap s.ents) → u.den ρ1 = (s.ev v).den ρ1 → (∀ ρ' H' G' w' id, s.ev m = .mp id → Ext ρ1 H G w ρ' H' G' w' (.one id) → Ext ρ s.heap s.ents w ρ' H' G' w' (chgM s m v)) → updK C s t H G (s.ev m) (s.ev k) u (fun s' => K (s'.put o.dst (.val undef))) → o.wp P a w next Q := by
   intro ρ1 H G u h1 h2 hu hx h
   unfold updK at h
   split at h
   ·rename_i obs id' G' hv
    obtain ⟨ho, hk⟩ := obsK_spec h
    have hmid : s.ev m = .mp id' := updE_id hv
    obtain ⟨w', ρ', k1, k2, k3, k4⟩ := upd_sound hC.T hC.env hC.x.ky h1 hv ho
    rw [hu, ← hA0 ρ1 (h2 _ (Agr.refl _ _ _)) m, ← hA0 ρ1 (h2 _ (Agr.refl _ _ _)) k, ← hA0 ρ1 (h2 _ (Agr.refl _ _ _)) v] at k1
    unfold Oper.wp
    rw [hex]
    simp only [Sem.run_bind, k1, Result.andThen_ok, Sem.run_pure, Oper.upon_skip]
    refine hn _ ρ' _ _ ((hf.mem s.next k2 fun ρ'' hr => h2 ρ'' (k3 ρ'' hr)).put o.dst fun _ _ => rfl) hk ?_
    rw [hch, put_heap, put_ents]
    exact hx _ _ _ _ _ hmid k4
   ·exact h.elim
  unfold mapK at h
  split at h
  ·rename_i b n cap hv
   split at h
   ·rename_i obs0 G0 hnc hl
    obtain ⟨hfr, h⟩ := h
    obtain ⟨ho, hk⟩ := obsK_spec h
    have hnc := nBeq_eq hnc
    subst hnc
    obtain ⟨ρ1, k1, k2, _⟩ := lit_sound hf.hp hl ho (fresh_spec hfr hC.lo hC.hi)
    have h0 := k2 _ (Agr.refl _ _ _)
    refine fin k1 (fun ρ'' hr => (k2 ρ'' hr).1) ?_ (fun ρ' H' G' w' id _ _ => by rw [show chgM s m v = .all from by simp only [chgM, hv]]; exact ext_all) hk
    rw [h0.2, hv]
    have e1 := hA0 ρ1 h0.1 v
    have e2 := hA v
    rw [hv] at e1 e2
    rw [← e1, ← e2]
   ·exact h.elim
  ·rename_i u hno
   refine fin hf.hp (fun ρ'' hr => hr) rfl (fun ρ' H' G' w' id hm h => ?_) h
   unfold chgM
   split
   ·exact ext_all
   ·rw [hm]; exact h
 have adr : addrK C id o s K → chgOf C o.op s = stId C o.op s → chgOf C o.op s = .no → Owp r P o a w next Q := by
  intro h e e2
  unfold addrK at h
  split at h
  ·exact old h e
  ·split at h
   ·rename_i rr hv
    obtain ⟨ho, hk⟩ := obK_spec h
    have hl := addrH_sound (P := P) hC.T hf.hp hv ho
    have k0 := hl ρ (Agr.refl _ _ _) a (hA0 ρ (Agr.refl _ _ _))
    refine owp_of hnd ?_
    unfold Oper.wp
    rw [k0, Oper.upon_value]
    refine hn _ ρ _ _ (hf.put _ fun ρ' hg => ?_) hk ?_
    ·have := hl ρ' hg a (hA0 ρ' hg)
     rw [k0] at this
     simpa using this.symm
    ·rw [put_heap, put_ents]
     exact Ext.refl hf.hp (fun _ _ _ _ => rfl) (Agr.refl _ _ _) (fun id f h => ⟨h, rfl⟩) _
   ·exact old h e
 unfold step at h
 split at h
 ·rename_i x hop
  obtain ⟨hv, hpan⟩ := h
  rw [Bool.and_eq_true] at hv
  obtain ⟨hv, hpin⟩ := hv
  refine owp_of hnd ?_
  have he : a.eval x = .iface C.x.pv (.agg #[]) := by
   rw [hA x]
   unfold panV at hv
   split at hv
   ·rename_i t cs hx
    simp only [Bool.and_eq_true] at hv
    rw [hx, nBeq_eq hv.1, Array.eq_empty_of_size_eq_zero (nBeq_eq hv.2)]
    rfl
   ·cases hv
  unfold Oper.wp
  have hrun : (execOp a.eval o).run P w = .halt (.panic (.iface C.x.pv (.agg #[]))) w := by
   unfold execOp
   simp only [hop, he]
   rfl
  rw [hrun]
  exact hp s ρ a w hf.defers (pin_of hC.lo hf hpin) hf.hp hpan
 ·rename_i t hop
  split at h
  ·rename_i G hm
   obtain ⟨hfr, hk⟩ := h
   refine owp_of hnd ?_
   obtain ⟨k0, ρ', k1, k2, k3⟩ := mkM_sound (P := P) hC.env hf.hp hm (fresh_spec hfr hC.lo hC.hi)
   unfold Oper.wp execOp
   simp only [hop, Option.map_none, Sem.run_bind, k0, Result.andThen_ok, Sem.run_pure, Oper.upon_value]
   refine hn _ ρ' _ _ ((hf.mem s.next k1 fun ρ'' hr => (k2 ρ'' hr).1).put o.dst fun ρ'' hr => (k2 ρ'' hr).2) hk ?_
   rw [put_heap, put_ents]
   exact k3 _
  ·exact h.elim
 ·rename_i t m k c hop
  split at h
  ·rename_i obs v news hl
   obtain ⟨hfr, h⟩ := h
   obtain ⟨ho, hk⟩ := obsK_spec h
   rw [← hC.lo, ← hC.hi] at hfr
   refine owp_of hnd ?_
   obtain ⟨ρ', q1, q2, q3⟩ := look_sound hC.T hC.x.ky hf.hp hl ho hfr
   have q4 := q3 ρ' (Agr.refl _ _ _)
   rw [← catE_eq] at q1
   unfold Oper.wp execOp
   simp only [hop, hA, Sem.run_bind, q4.2, Result.andThen_ok, Sem.run_pure, Oper.upon_value]
   refine hn _ ρ' _ _ ((hf.mem s.next q1 fun ρ'' hr => (q3 ρ'' (by rw [← catE_eq]; exact hr)).1).put o.dst fun ρ'' hr => ?_) hk ?_
   ·have h2 := (q3 ρ'' (by rw [← catE_eq]; exact hr)).2
    rw [q4.2] at h2
    simpa using h2.symm
   ·rw [put_heap, put_ents]
    refine ⟨fun e he _ => ⟨he, q4.1.1 e he, hf.hp.cells_agree q4.1 he⟩, fun id' f _ hfi _ => ⟨f, ?_, rfl, (Fk.refl ρ f).names (FE.foot_names (q4.1.2 f (findE_mem hfi).1).1 (q4.1.2 f (findE_mem hfi).1).2 (q2 f (findE_mem hfi).1)), fun k hk => rfl⟩⟩
    simp only [St.withE, catE_eq]
    rw [find_append_ne fun g hg e0 => freshL_ne hfr g hg f (findE_mem hfi).1 (by rw [e0, (findE_mem hfi).2])]
    exact hfi
  ·exact h.elim
 ·rename_i t m k v hop
  exact upd t m k v (by unfold execOp; rw [hop]) (by rw [hop]; rfl) h
 ·rename_i t m k v hop
  exact upd t m k v (by unfold execOp; rw [hop]) (by rw [hop]; rfl) h
 ·rename_i c hop
  split at h
  ·rename_i l hy
   have hch : chgOf C o.op s = .all := by simp only [hop, chgOf, hy]
   have e0 : ∀ ρ', Agr ρ ρ' s.heap s.ents → c.args.toList.map a.eval = SV.dens ρ' (evs s.ev c.args.toList) := fun ρ' hg => evs_den (hA0 ρ' hg) _
   obtain ⟨f, tmps, assign, body, w', k1, k2⟩ := hC.x.yd l _ _ _ _ _ _ hC.lo hC.hi h ρ w hf.hp fun ρ' hg => by rw [← e0 ρ' hg, ← e0 ρ (Agr.refl _ _ _)]
   have e1 : c.args.map a.eval = (SV.dens ρ (evs s.ev c.args.toList)).toArray := by
    rw [← e0 ρ (Agr.refl _ _ _)]; apply Array.ext'; simp
   unfold yieldOf at hy
   split at hy
   ·rename_i t hc
    split at hy
    ·rename_i l' aa bb hv
     split at hy
     ·rename_i hz
      cases hy
      simp only [Bool.and_eq_true] at hz
      have hz1 := Array.eq_empty_of_size_eq_zero (nBeq_eq hz.1)
      have hz2 := Array.eq_empty_of_size_eq_zero (nBeq_eq hz.2)
      subst hz1 hz2
      have hev : a.eval (.tmp t) = .func (.yield l) #[] #[] := by rw [hA, hv]; rfl
      refine ⟨fun _ _ => trivial, ?_⟩
      rw [Oper.semAt_eq _ _ o (nodefB_ne hnd)]
      have hrun : (execOp a.eval o).run P w = .ok (.round l f tmps assign body) w' := by
       unfold execOp
       simp only [hop, resolve, hc, hev, Deferred.ofValue, Sem.run_bind, Sem.run_pure, Result.andThen_ok, invoke, callFunc]
       simp only [Array.empty_append, Array.append_empty, show (fun x => Act.eval a x) = a.eval from rfl, e1]
       exact k1
      rw [hrun]
      refine ⟨fun h => absurd h depthW, ?_⟩
      refine RoundIn.mono (F := FW r) (show RoundIn (FW r) (0 - 1) P l f tmps assign body w' _ from k2) ?_
      rintro e w'' ⟨v, s', ρ', rfl, hR, hh', hag⟩
      refine hn _ ρ' _ _ ((hf.mem s'.next hh' fun ρ'' hr => (hag ρ'' hr).1).put o.dst fun ρ'' hr => (hag ρ'' hr).2) hR ?_
      rw [hch]
      exact ext_all
     ·cases hy
    ·cases hy
   ·cases hy
  ·rename_i hy
   exact old h (by simp only [hop, chgOf, hy])
 ·rename_i t x y hop
  split at h
  ·rename_i hz
   exact old h (by simp only [hop, chgOf, hz])
  ·rename_i hz
   have hch : chgOf C o.op s = .all := by simp only [hop, chgOf, hz]
   split at h
   ·rename_i obs G hv
    obtain ⟨hfr, h⟩ := h
    obtain ⟨ho, hk⟩ := obsK_spec h
    obtain ⟨w', ρ', k1, k2, k3⟩ := storeH_sound hC.T hC.env hf.hp (fresh_spec hfr hC.lo hC.hi) hv ho
    refine owp_of hnd ?_
    unfold Oper.wp execOp
    simp only [hop, Sem.run_bind, hA, k1, Result.andThen_ok, Sem.run_pure, Oper.upon_skip]
    refine hn _ ρ' _ _ ((hf.mem s.next k2 k3).put o.dst fun _ _ => rfl) hk ?_
    rw [hch]
    exact ext_all
   ·split at h
    ·rename_i obs G hv
     obtain ⟨ho, hk⟩ := obsK_spec h
     obtain ⟨ρ', k1, k2⟩ := closeX_sound hf.hp hv ho
     exact owp_of hnd (step0_sound hC hk (hf.mem s.next k1 k2) hp fun s' ρ' a' w' h1 h2 h3 => hn s' ρ' a' w' h1 h2 (by rw [hch]; exact ext_all))
    ·exact owp_of hnd (step0_sound hC h hf hp fun s' ρ' a' w' h1 h2 h3 => hn s' ρ' a' w' h1 h2 (by rw [hch]; exact ext_all))
 ·rename_i t x hop
  split at h
  ·exact old h (by simp only [hop, chgOf])
  ·split at h
   ·rename_i ob v hv
    have hl := loadH_sound (P := P) hC.T hf.hp hv (h.1 ())
    have hl0 := fun ρ' (hg : Agr ρ ρ' s.heap s.ents) => hl ρ' hg (by rw [← hA0 ρ' hg, hA])
    have k1 := (hl0 ρ (Agr.refl _ _ _)).2
    refine owp_of hnd ?_
    unfold Oper.wp execOp
    simp only [hop, Sem.run_bind, hA, k1, Result.andThen_ok, Sem.run_pure, Oper.upon_value]
    refine hn _ ρ _ _ (hf.put _ fun ρ' hg => (hl0 ρ' hg).1) h.2 ?_
    rw [put_heap, put_ents]
    exact Ext.refl hf.hp (fun _ _ _ _ => rfl) (Agr.refl _ _ _) (fun id f h => ⟨h, rfl⟩) _
   ·exact old h (by simp only [hop, chgOf])
 ·rename_i hop
  exact adr h (by simp only [hop, chgOf]) (by simp only [hop, chgOf, stId])
 ·rename_i hop
  exact adr h (by simp only [hop, chgOf]) (by simp only [hop, chgOf, stId])
 ·rename_i h1 h2 h3 h4 h5 h6 h7 h8 h9 h10
  exact old h (by
   unfold chgOf
   split
   ·rename_i hop; exact absurd hop (by first | exact h4 _ _ _ _ | exact h5 _ _ _ _)
   ·rename_i hop; exact absurd hop (by first | exact h4 _ _ _ _ | exact h5 _ _ _ _)
   ·rename_i hop; exact absurd hop (by first | exact h6 _)
   ·rename_i hop; exact absurd hop (by first | exact h7 _ _ _)
   ·rfl)
end step
end
end Go.Proofs.YtkifmppmfkpfbaaGreat.V
