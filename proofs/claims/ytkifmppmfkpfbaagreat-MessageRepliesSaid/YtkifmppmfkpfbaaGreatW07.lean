import Derived.Test.YtkifmppmfkpfbaaGreatW06
set_option linter.unusedVariables false
set_option linter.unusedSimpArgs false
namespace Go.Proofs.YtkifmppmfkpfbaaGreat.V
open Go.RowKit
section
def aliveE (G : List FE) (id : Nat) : Bool :=
 match findE G id with
 | some f => (match f.c with | .rows _ _ => true | _ => false)
 | none => false
inductive Chg where
 | no | one (n : Nat) | all | two (a b : Nat)
def Chg.has (c : Chg) (i : Nat) : Prop := match c with
 | .no => False
 | .one n => n = i
 | .all => True
 | .two a b => a = i ∨ b = i
structure Ext (ρ : Nm) (H : List Ent) (G : List FE) (w : World) (ρ' : Nm) (H' : List Ent) (G' : List FE) (w' : World) (chg : Chg) : Prop where
 H : ∀ e ∈ H, ¬ chg.has e.id → e ∈ H' ∧ ρ'.b e.id = ρ.b e.id ∧ SV.dens ρ' e.cells = SV.dens ρ e.cells
 G : ∀ id f, ¬ chg.has id → findE G id = some f → aliveE G' id = true → ∃ f', findE G' id = some f' ∧ f'.c = f.c ∧ Fk ρ f ρ' f' ∧ ∀ k, f.foot ρ k → w'.heap[k]? = w.heap[k]?
structure Ext1 (ρ : Nm) (H : List Ent) (G : List FE) (ρ' : Nm) (H' : List Ent) (G' : List FE) (chg : Chg) : Prop where
 H : ∀ e ∈ H, ¬ chg.has e.id → e ∈ H' ∧ ρ'.b e.id = ρ.b e.id ∧ SV.dens ρ' e.cells = SV.dens ρ e.cells
 G : ∀ id f, ¬ chg.has id → findE G id = some f → ∃ f', findE G' id = some f' ∧ f'.c = f.c ∧ Fk ρ f ρ' f'
theorem Ext1.trans {ρ ρ1 ρ' : Nm} {H H1 H' : List Ent} {G G1 G' : List FE} {w w' : World} {chg : Chg} (h : Ext1 ρ H G ρ1 H1 G1 chg) (k : Ext ρ1 H1 G1 w ρ' H' G' w' .no) (hw : ∀ f ∈ G, ∀ k, f.foot ρ k → w'.heap[k]? = w.heap[k]?) : Ext ρ H G w ρ' H' G' w' chg := by
 refine ⟨fun e he hne => ?_, fun id f hne hf hal => ?_⟩
 ·obtain ⟨a1, a2, a3⟩ := h.H e he hne
  obtain ⟨b1, b2, b3⟩ := k.H e a1 (fun h => h)
  exact ⟨b1, b2.trans a2, b3.trans a3⟩
 ·obtain ⟨f1, a1, a2, a3⟩ := h.G id f hne hf
  obtain ⟨f2, b1, b2, b3, b4⟩ := k.G id f1 (fun h => h) a1 hal
  exact ⟨f2, b1, b2.trans a2, a3.trans b3, hw f (findE_mem hf).1⟩
section find
variable {E : Env} {ρ : Nm} {w : World} {H : List Ent} {G : List FE} {P : Program} {T : TT}
theorem find_frz : ∀ (ids : List Nat) (G : List FE) (id : Nat) (f0 : FE), findE G id = some f0 → ∃ f', findE (frzIds G ids) id = some f' ∧ (f' = f0 ∨ f' = freeze f0)
 | [], G, id, f0, h => ⟨f0, h, .inl rfl⟩
 | i :: l, G, id, f0, h => by
   unfold frzIds
   split
   ·rename_i f hf
    split
    ·rename_i e x hc
     obtain ⟨_, hid⟩ := findE_mem hf
     by_cases hi : i = id
     ·subst hi
      rw [h] at hf
      cases hf
      have h2 : findE (replE G (freeze f0)) i = some (freeze f0) := by
       have := find_repl (f := freeze f0) (f0 := f0) (l := G) (by rw [show (freeze f0).id = f0.id from rfl, hid]; exact h)
       rw [show (freeze f0).id = f0.id from rfl, hid] at this
       exact this
      obtain ⟨f', h3, h4⟩ := find_frz l _ i _ h2
      refine ⟨f', h3, .inr ?_⟩
      rcases h4 with h4 | h4 <;> rw [h4] <;> rfl
     ·have h2 : findE (replE G (freeze f)) id = some f0 := by
        rw [find_repl_ne (by rw [show (freeze f).id = f.id from rfl, hid]; exact hi)]; exact h
      exact find_frz l _ id f0 h2
    ·exact find_frz l G id f0 h
   ·exact find_frz l G id f0 h
theorem find_kept (e : Shp) (ids : List Nat) (G : List FE) (id : Nat) (f0 : FE) (h : findE G id = some f0) : ∃ f', findE (keptG e G ids) id = some f' ∧ (f' = f0 ∨ f' = freeze f0) := by
 unfold keptG
 split
 ·exact ⟨f0, h, .inl rfl⟩
 ·exact find_frz ids G id f0 h
theorem find_cons_ne {f : FE} {id : Nat} (h : f.id ≠ id) : findE (f :: G) id = findE G id := by
 simp only [findE, beq_false' h]
theorem Ext.refl (hh : Hp E ρ H G w) {w' : World} (hw : ∀ f ∈ G, ∀ k, f.foot ρ k → w'.heap[k]? = w.heap[k]?) {ρ' : Nm} {G' : List FE} (hr : Agr ρ ρ' H G) (hf : ∀ id f, findE G id = some f → findE G' id = some f ∧ ρ'.z f.id = ρ.z f.id) (chg : Chg) : Ext ρ H G w ρ' H G' w' chg :=
 ⟨fun e he _ => ⟨he, hr.1 e he, hh.cells_agree hr he⟩, fun id f _ h _ => ⟨f, (hf id f h).1, rfl, (Fk.refl ρ f).names (FE.foot_names (hr.2 f (findE_mem h).1).1 (hr.2 f (findE_mem h).1).2 (hf id f h).2), hw f (findE_mem h).1⟩⟩
structure BtOk (P : Program) (Y : TypeId → Option Nat) : Prop where
 ok : ∀ t b, Y t = some b → ∃ i, P.info? t = some i ∧ i.bytes = b
theorem TIOk.zeroRow {t : TypeId} {j : TI} (h : TIOk P t j) : ∃ i z, P.info? t = some i ∧ i.size = j.size ∧ i.zero = some z ∧ z.cells.size = j.zero.length := by
 obtain ⟨i, hi, hs⟩ := h.info
 have hz := h.zero ⟨fun _ => 0, fun _ => ⟨none, 0, 0⟩, fun _ _ => False⟩
 rw [hi] at hz
 cases hj : i.zero with
 | none => simp [hj] at hz
 | some z =>
   simp [hj] at hz
   refine ⟨i, z, hi, hs, rfl.trans hj, ?_⟩
   have := congrArg List.length hz
   rw [dens_length] at this
   simpa using this
theorem app_sound (hT : TT.ok P T) {Y : TypeId → Option Nat} (hY : BtOk P Y) {S : TypeId → Option Shp} (hE : E.ok) (hh : Hp E ρ H G w) {n : Nat} {t : TypeId} {s x : SV} {obs : List (Unit → Prop)} {G' : List FE} (h : appE T Y S H G n t s x = some (obs, G')) (ho : ∀ p ∈ obs, p ()) (hfr : Fresh E n H G) (ty : TypeId) :
    ∃ v' w' ρ', (Builtin.append_ #[t, t] ty #[s.den ρ, x.den ρ]).run P w = .ok v' w' ∧ Hp E ρ' H G' w' ∧ (∀ ρ'', Agr ρ' ρ'' H G' → Agr ρ ρ'' H G ∧ (SV.fv n).den ρ'' = v') ∧ Ext ρ H G w ρ' H G' w' .no ∧ ∀ k, k < w.heap.size → (s.den ρ).ownBlock ≠ some k → w'.heap[k]? = w.heap[k]? := by
 unfold appE at h
 split at h
 ·rename_i te sz z0 hl
  obtain ⟨d, hd, hsd⟩ := (TT.look_ok hT hl).under
  cases d <;> simp [Sh.of] at hsd
  subst hsd
  rename_i te
  split at h
  ·rename_i j b hj hb
   obtain ⟨i, z, hi, hsz, hz, hzc⟩ := (TT.look_ok hT hj).zeroRow
   obtain ⟨i', hi', hby⟩ := hY.ok _ _ hb
   rw [hi] at hi'
   cases hi'
   have fin : ∀ (e : Shp) (G1 G2 : List FE) (al : List Nat) (Z : Nat → Prop) (v : Value) (y : List e.D) (Z0 : Nat → Prop) (dd : Src e.D) (c : Unit → List e.D), (nBeq j.size e.size && nBlt 0 e.size && nBeq (lenL j.zero) j.size) = true →
       Hp E ρ H G1 w → srcE H G1 e x = some dd → (∀ p ∈ dd.ob, p ()) → ((y.length + (dd.x ()).length) * b ≤ 140737488355328 ∧ y.length + (dd.x ()).length ≤ 140737488355328) → v = s.den ρ →
       (∃ cs, w.ownsRow 0 te e.size v y.length cs ∧ ∀ i (h : i < y.length), Shp.rep w Z0 e y[i] (chunk cs i e.size)) →
       Hp E ρ H G2 w → (∀ ρ'', Agr ρ ρ'' H G2 → Agr ρ ρ'' H G) → (∀ f ∈ G2, f.id ≠ n ∧ noN n f.c = true) → (∀ k, v.ownBlock = some k → (E.may k ∨ E.B ≤ k) ∧ (∀ x ∈ H, ρ.b x.id ≠ k) ∧ (∀ g ∈ G2, ¬ g.foot ρ k)) → (∀ k, v.ownBlock = some k → E.B ≤ k ∨ ∃ j ∈ al, E.z0 j k) →
       Zok E ρ H G2 w al Z → (∀ k, v.ownBlock = some k → ¬ Z k) → (flat e = true ∨ ((∀ k, Z0 k → Z k) ∧ ∀ k, DFoot ρ G1 dd.ids [] k → Z k)) → c () = y ++ dd.x () →
       (∀ id f, findE G id = some f → aliveE G2 id = true → (∃ f', findE G2 id = some f' ∧ f'.c = f.c ∧ Fk ρ f ρ f') ∧ ∀ k, f.foot ρ k → v.ownBlock ≠ some k) →
       ∃ v' w' ρ', (Builtin.append_ #[t, t] ty #[s.den ρ, x.den ρ]).run P w = .ok v' w' ∧ Hp E ρ' H (⟨n, true, te, al, .rows e c⟩ :: G2) w' ∧ (∀ ρ'', Agr ρ' ρ'' H (⟨n, true, te, al, .rows e c⟩ :: G2) → Agr ρ ρ'' H G ∧ (SV.fv n).den ρ'' = v') ∧ Ext ρ H G w ρ' H (⟨n, true, te, al, .rows e c⟩ :: G2) w' .no ∧ ∀ k, k < w.heap.size → (s.den ρ).ownBlock ≠ some k → w'.heap[k]? = w.heap[k]? := by
    intro e G1 G2 al Z v y Z0 dd c hsz' hh1 hsrc hob hbd hv hown hh2 hag2 hne hblk hbal hzok hzb hsub hcc hext
    simp only [Bool.and_eq_true, nBlt_iff] at hsz'
    obtain ⟨⟨s1, s2⟩, s3⟩ := hsz'
    have s1 := nBeq_eq s1
    have s3 := nBeq_eq s3
    rw [lenL_eq] at s3
    obtain ⟨sl, news, e1, e2, e3, e4, e5⟩ := (src_sound hh1 hsrc hob).ex
    obtain ⟨v', w', s', k1, k2, k3, k4, k5⟩ := app_core (P := P) hE hh2 (n := n) (hfr.to hne) hd hi hz (hsz.trans s1) (hzc.trans (s3.trans s1)) s2 ty hown hblk e2 e3 e4 e5 hbd.2 (by rw [hby]; exact hbd.1) hbal hzok hzb hsub hcc
    refine ⟨v', w', _, by rw [e1, ← hv]; exact k1, k3, fun ρ'' hr => ?_, ?_⟩
    ·obtain ⟨q1, q2⟩ := k4 ρ'' hr
     exact ⟨hag2 _ q1, by simp only [SV.den, q2, k2]⟩
    ·have hr2 := k4 _ (Agr.refl _ _ _)
     refine ⟨?_, by rw [← hv]; exact k5⟩
     refine ⟨fun e' he' _ => ⟨he', (hag2 _ hr2.1).1 e' he', hh.cells_agree (hag2 _ hr2.1) he'⟩, fun id f _ hf hal => ?_⟩
     have hidn : n ≠ id := fun e0 => hfr.G f (findE_mem hf).1 (by rw [(findE_mem hf).2, e0])
     have hal2 : aliveE G2 id = true := by
      unfold aliveE at hal ⊢
      rw [find_cons_ne hidn] at hal
      exact hal
     obtain ⟨⟨f', q1, q2, q3⟩, q4⟩ := hext id f hf hal2
     have hfid : f'.id = id := (findE_mem q1).2
     have hne' : f'.id ≠ n := by rw [hfid]; exact Ne.symm hidn
     exact ⟨f', by rw [find_cons_ne hidn]; exact q1, q2, q3.names (FE.foot_names (by rfl) (by simp [Nm.setS, hne']) (by simp [Nm.setS, hne'])), fun k hk => k5 k (hh.foot_lt (findE_mem hf).1 hk) (q4 k hk)⟩
   have keptfind : ∀ (e : Shp) (ids : List Nat), ∀ id f, findE G id = some f → ∃ f', findE (keptG e G ids) id = some f' ∧ f'.c = f.c ∧ Fk ρ f ρ f' := by
    intro e ids id f hf
    obtain ⟨f', h1, h2⟩ := find_kept e ids G id f hf
    rcases h2 with rfl | rfl
    ·exact ⟨_, h1, rfl, Fk.refl _ _⟩
    ·exact ⟨_, h1, rfl, Fk.freeze _ _⟩
   have keptids : ∀ (e : Shp) (ids : List Nat), ∀ f ∈ keptG e G ids, f.id ≠ n ∧ noN n f.c = true := by
    intro e ids f hf
    unfold keptG at hf
    have frzids : ∀ (ids : List Nat) (G : List FE), (∀ f ∈ G, f.id ≠ n ∧ noN n f.c = true) → ∀ f ∈ frzIds G ids, f.id ≠ n ∧ noN n f.c = true := by
     intro ids
     induction ids with
     | nil => intro G h; exact h
     | cons i l ih =>
       intro G h
       unfold frzIds
       split
       ·rename_i f hf
        split
        ·refine ih _ fun q hq => ?_
         rcases mem_replE hq with rfl | hq
         ·exact h f (findE_mem hf).1
         ·exact h q hq
        ·exact ih G h
       ·exact ih G h
    split at hf
    ·exact hfr.g2 f hf
    ·exact frzids ids G hfr.g2 f hf
   split at h
   ·-- nil
    split at h
    ·rename_i e he
     split at h
     ·rename_i hsz'
      split at h
      ·rename_i d0 hd0
       split at h
       ·rename_i dd hdd
        obtain ⟨kh, ka⟩ := kept_sound hh e d0.ids
        have nils : ∀ (al : List Nat) (Z : Nat → Prop), obs = obApp b (fun _ => ([] : List e.D)) dd.x :: dd.ob → Zok E ρ H (keptG e G d0.ids) w al Z → (flat e = true ∨ ∀ k, DFoot ρ (keptG e G d0.ids) dd.ids [] k → Z k) →
            ∃ v' w' ρ', (Builtin.append_ #[t, t] ty #[(SV.val (.slice none 0 0)).den ρ, x.den ρ]).run P w = .ok v' w' ∧ Hp E ρ' H (⟨n, true, te, al, .rows e (fun u => [] ++ dd.x u)⟩ :: keptG e G d0.ids) w' ∧ (∀ ρ'', Agr ρ' ρ'' H (⟨n, true, te, al, .rows e (fun u => [] ++ dd.x u)⟩ :: keptG e G d0.ids) → Agr ρ ρ'' H G ∧ (SV.fv n).den ρ'' = v') ∧ Ext ρ H G w ρ' H (⟨n, true, te, al, .rows e (fun u => [] ++ dd.x u)⟩ :: keptG e G d0.ids) w' .no ∧ ∀ k, k < w.heap.size → ((SV.val (.slice none 0 0)).den ρ).ownBlock ≠ some k → w'.heap[k]? = w.heap[k]? := by
         intro al Z hobs hz hsub
         rw [hobs] at ho
         refine fin e _ _ al Z (.slice none 0 0) [] (fun _ => False) dd _ hsz' kh hdd (fun p hp => ho p (List.mem_cons_of_mem _ hp)) (ho _ List.mem_cons_self) (by simp only [SV.den]) ⟨[], World.ownsRow_nil w 0 te e.size, fun i hi => by simp at hi⟩ kh ka (keptids e d0.ids) (fun k hk => by simp [Value.ownBlock] at hk) (fun k hk => by simp [Value.ownBlock] at hk) hz (fun k hk => by simp [Value.ownBlock] at hk) (hsub.imp (fun h => h) fun h => ⟨fun k hk => hk.elim, h⟩) rfl ?_
         intro id f hf hal
         exact ⟨keptfind e d0.ids id f hf, fun k hk => by simp [Value.ownBlock]⟩
        split at h
        ·rename_i hflat
         cases h
         exact nils [] (fun _ => False) rfl ⟨fun k hk => hk.elim, fun e he hk => hk.elim, fun g hg k hk hk2 => hk2.elim, fun k hk => hk.elim⟩ (.inl hflat)
        ·split at h
         ·rename_i hsh
          cases h
          exact nils _ _ rfl (zok_ids kh hsh) (.inr fun k hk => hk)
         ·cases h
       ·cases h
      ·cases h
     ·cases h
    ·cases h
   ·-- one's own
    rename_i id
    split at h
    ·rename_i f0 hf0
     split at h
     ·rename_i e y0 hc0
      split at h
      ·rename_i hsz'
       split at h
       ·rename_i d0 hd0
        split at h
        ·rename_i f dd hf hdd
         split at h
         ·rename_i e2 y hown' hc
          simp only [Bool.and_eq_true] at hown'
          obtain ⟨hown, hte⟩ := hown'
          have hte := nBeq_eq hte
          split at h
          ·rename_i heq
           have := shEq_eq heq
           subst this
           obtain ⟨kh, ka⟩ := kept_sound hh e2 d0.ids
           obtain ⟨hm, hid⟩ := findE_mem hf
           have hfa := kh.facts f hm
           unfold FE.holds at hfa
           rw [hc, hown] at hfa
           obtain ⟨hzl, hbd, ⟨cs, hcs, hrep⟩, htop⟩ := hfa
           rw [hid, hte] at hcs
           obtain ⟨k1, k2⟩ := kh.repl (f0 := f) (f := deadE f) (by rw [show (deadE f).id = f.id from rfl, hid]; exact hf) (by unfold FE.holds deadE; trivial) (fun e' x' he => by simp [deadE] at he) (fun k hk => by unfold FE.foot deadE at hk; exact hk.elim) (fun k hk => by unfold FE.excl deadE at hk; exact hk.elim) rfl
           have hexk : ∀ k, (ρ.s id).val.ownBlock = some k → f.excl ρ k := by
            intro k hk
            unfold FE.excl FE.top
            rw [hc, hid]
            cases ha : (ρ.s id).a with
            | none => simp [Sl.val, Value.ownBlock, ha] at hk
            | some a =>
              simp [Sl.val, Value.ownBlock, ha] at hk
              exact ⟨hown, a, rfl, hk.symm⟩
           have owns : ∀ (al : List Nat) (Z : Nat → Prop), (∀ j ∈ f.al, j ∈ al) → obs = obApp b (fun u => convL e2 e2 (y u)) dd.x :: dd.ob → Zok E ρ H (replE (keptG e2 G d0.ids) (deadE f)) w al Z → (∀ k, f.excl ρ k → ¬ Z k) → (flat e2 = true ∨ ((∀ k, ρ.z f.id k → Z k) ∧ ∀ k, DFoot ρ (keptG e2 G d0.ids) dd.ids [] k → Z k)) →
               ∃ v' w' ρ', (Builtin.append_ #[t, t] ty #[(SV.fv id).den ρ, x.den ρ]).run P w = .ok v' w' ∧ Hp E ρ' H (⟨n, true, te, al, .rows e2 (fun u => convL e2 e2 (y u) ++ dd.x u)⟩ :: replE (keptG e2 G d0.ids) (deadE f)) w' ∧ (∀ ρ'', Agr ρ' ρ'' H (⟨n, true, te, al, .rows e2 (fun u => convL e2 e2 (y u) ++ dd.x u)⟩ :: replE (keptG e2 G d0.ids) (deadE f)) → Agr ρ ρ'' H G ∧ (SV.fv n).den ρ'' = v') ∧ Ext ρ H G w ρ' H (⟨n, true, te, al, .rows e2 (fun u => convL e2 e2 (y u) ++ dd.x u)⟩ :: replE (keptG e2 G d0.ids) (deadE f)) w' .no ∧ ∀ k, k < w.heap.size → ((SV.fv id).den ρ).ownBlock ≠ some k → w'.heap[k]? = w.heap[k]? := by
            intro al Z hsubal hobs hz hzx hsub
            rw [hobs] at ho
            have hbds := ho _ List.mem_cons_self
            simp only [obApp, convL_self] at hbds
            refine fin e2 (keptG e2 G d0.ids) _ al Z (ρ.s id).val (y ()) (ρ.z f.id) dd _ hsz' kh hdd (fun p hp => ho p (List.mem_cons_of_mem _ hp)) hbds (by simp only [SV.den]) ⟨cs, hcs, hrep⟩ k1 (fun ρ'' hr => ka ρ'' (k2 ρ'' hr)) ?_ ?_ (fun k hk => (kh.al f hm k (FE.excl_foot (hexk k hk))).imp (fun h => h) fun ⟨j, hj, h⟩ => ⟨j, hsubal j hj, h⟩) hz (fun k hk => hzx k (hexk k hk)) hsub (by simp only [convL_self]) ?_
            ·intro g hg
             rcases mem_replE hg with rfl | hg
             ·exact ⟨(keptids e2 d0.ids f hm).1, rfl⟩
             ·exact keptids e2 d0.ids g hg
            ·intro k hk
             have hx := hexk k hk
             refine ⟨?_, fun x' hx' e0 => kh.apart x' hx' f hm (by rw [e0]; exact FE.excl_foot hx), fun g hg => ?_⟩
             ·exact kh.exB f hm k hx
             ·rcases mem_replE_ne hx kh.alone (by rw [show (deadE f).id = f.id from rfl, hid]; exact hf) hg with rfl | ⟨hg, hne⟩
              ·unfold FE.foot deadE; exact fun h => h
              ·rcases kh.sep hg f hm k hx with h | h
               ·exact h
               ·exact absurd h.symm hne
            ·intro id' f' hf' hal
             obtain ⟨f'', q1, q2, q3⟩ := keptfind e2 d0.ids id' f' hf'
             have hne : id' ≠ id := by
              rintro rfl
              unfold aliveE at hal
              have := find_repl (f := deadE f) (f0 := f) (l := keptG e2 G d0.ids) (by rw [show (deadE f).id = f.id from rfl, hid]; exact hf)
              rw [show (deadE f).id = f.id from rfl, hid] at this
              rw [this] at hal
              simp [deadE] at hal
             refine ⟨⟨f'', by rw [find_repl_ne (by rw [show (deadE f).id = f.id from rfl, hid]; exact Ne.symm hne)]; exact q1, q2, q3⟩, fun k hk hk2 => ?_⟩
             -- the block of the base is not the other's
             have hx := hexk k hk2
             have hx0 : f0.excl ρ k := by
              obtain ⟨f3, q4, q5⟩ := find_kept e2 d0.ids G id f0 hf0
              rw [hf] at q4
              cases q4
              rcases q5 with rfl | rfl
              ·exact hx
              ·simp [freeze] at hown
             rcases hh.sep (findE_mem hf').1 f0 (findE_mem hf0).1 k hx0 with h | h
             ·exact h hk
             ·rw [← h] at hf'
              exact hne ((findE_mem hf').2.symm.trans (findE_mem hf0).2)
           split at h
           ·rename_i hflat
            cases h
            exact owns f.al (fun _ => False) (fun j hj => hj) rfl ⟨fun k hk => hk.elim, fun e he hk => hk.elim, fun g hg k hk hk2 => hk2.elim, fun k hk => hk.elim⟩ (fun k _ hk => hk) (.inl hflat)
           ·split at h
            ·rename_i hsh
             cases h
             have hzi := zok_ids kh hsh
             have hzf := kh.zok hm hc (kh.sep hm)
             rw [hown] at hzf
             have memr : ∀ g ∈ replE (keptG e2 G d0.ids) (deadE f), ∀ k, g.excl ρ k → g ∈ keptG e2 G d0.ids := by
              intro g hg k hk
              rcases mem_replE hg with rfl | hg
              ·unfold FE.excl deadE at hk; exact hk.elim
              ·exact hg
             refine owns _ (fun k => ρ.z f.id k ∨ DFoot ρ (keptG e2 G d0.ids) dd.ids [] k) (fun j hj => by rw [catN_eq]; exact List.mem_append_left _ hj) rfl ⟨fun k hk => hk.elim (hzf.lt k) (hzi.lt k), fun e he hk => hk.elim (hzf.H e he) (hzi.H e he), fun g hg k hk hk2 => ?_, fun k hk => ?_⟩ (fun k hk hk2 => ?_) (.inr ⟨fun k hk => .inl hk, fun k hk => .inr hk⟩)
             ·have hg' := memr g hg k hk
              exact hk2.elim (hzf.G g hg' k hk) (hzi.G g hg' k hk)
             ·rw [catN_eq]
              rcases hk with hk | hk
              ·rcases hzf.al k hk with h | ⟨q, hq, h⟩
               ·exact .inl h
               ·exact .inr ⟨q, List.mem_append_left _ hq, h⟩
              ·rcases hzi.al k hk with h | ⟨q, hq, h⟩
               ·exact .inl h
               ·exact .inr ⟨q, List.mem_append_right _ hq, h⟩
             ·exact hk2.elim (hzf.G f hm k hk) (hzi.G f hm k hk)
            ·cases h
          ·cases h
         ·cases h
        ·cases h
       ·cases h
      ·cases h
     ·cases h
    ·cases h
   ·cases h
  ·cases h
 ·cases h
def zeroB : List SV → Bool
 | [.int .u8 (.c (.ofNat 0))] => true
 | _ => false
theorem zeroB_eq {l : List SV} (h : zeroB l = true) : l = [.int .u8 (.c 0)] := by
 unfold zeroB at h
 split at h
 ·rfl
 ·cases h
def isByteS : Option Shp → Bool
 | some .byte => true
 | _ => false
def zerosB (m : IE) : Unit → List UInt8 := fun _ => List.replicate m.den.toNat 0
def appZ (T : TT) (Y : TypeId → Option Nat) (S : TypeId → Option Shp) (G : List FE) (n : Nat) (t t' : TypeId) (s x : SV) : Option (List (Unit → Prop) × List FE) :=
 match TT.look T t, TT.look T t', x with
 | some ⟨.slice te, _, _⟩, some ⟨.int _, _, _⟩, .int .i64 m => match TT.look T te, Y te with
   | some j, some b => match nBeq j.size 1 && zeroB j.zero && isByteS (S te) with
     | true => match s with
       | .val (.slice none 0 0) => some ([fun _ => 0 ≤ m.den, obApp b (fun _ => ([] : List UInt8)) (zerosB m)], ⟨n, true, te, [], .rows .byte (fun u => [] ++ zerosB m u)⟩ :: G)
       | .fv id => match findE G id with
         | some f => match f.own && nBeq f.t te, f.c with
           | true, .rows .byte y => some ([fun _ => 0 ≤ m.den, obApp b y (zerosB m)], ⟨n, true, te, f.al, .rows .byte (fun u => y u ++ zerosB m u)⟩ :: replE G (deadE f))
           | _, _ => none
         | none => none
       | _ => none
     | false => none
   | _, _ => none
 | _, _, _ => none
theorem zeroCells_byte (m : Nat) : (Builtin.zeroCells #[.int .u8 0] m).toList = List.replicate m (.int .u8 0) := by
 apply List.ext_getElem
 ·simp [size_zeroCells]
 ·intro i h1 h2
  simp [Builtin.zeroCells, Nat.mod_one]
theorem appZ_sound (hT : TT.ok P T) {Y : TypeId → Option Nat} (hY : BtOk P Y) {S : TypeId → Option Shp} (hE : E.ok) (hh : Hp E ρ H G w) {n : Nat} {t t' : TypeId} {s x : SV} {obs : List (Unit → Prop)} {G' : List FE} (h : appZ T Y S G n t t' s x = some (obs, G')) (ho : ∀ p ∈ obs, p ()) (hfr : Fresh E n H G) (ty : TypeId) :
    ∃ v' w' ρ', (Builtin.append_ #[t, t'] ty #[s.den ρ, x.den ρ]).run P w = .ok v' w' ∧ Hp E ρ' H G' w' ∧ (∀ ρ'', Agr ρ' ρ'' H G' → Agr ρ ρ'' H G ∧ (SV.fv n).den ρ'' = v') ∧ Ext ρ H G w ρ' H G' w' .no ∧ ∀ k, k < w.heap.size → (s.den ρ).ownBlock ≠ some k → w'.heap[k]? = w.heap[k]? := by
 unfold appZ at h
 split at h
 ·rename_i te sz z0 kk sz' z0' m hl hl'
  obtain ⟨d, hd, hsd⟩ := (TT.look_ok hT hl).under
  cases d <;> simp [Sh.of] at hsd
  subst hsd
  rename_i te
  obtain ⟨d, hd', hsd⟩ := (TT.look_ok hT hl').under
  cases d <;> simp [Sh.of] at hsd
  subst hsd
  rename_i kk
  split at h
  ·rename_i j b hj hb
   cases hq : nBeq j.size 1 && zeroB j.zero && isByteS (S te) with
   | false => rw [hq] at h; cases h
   | true =>
   rw [hq] at h
   simp only [] at h
   simp only [Bool.and_eq_true] at hq
   obtain ⟨⟨hs1, hzb⟩, _⟩ := hq
   have hs1 := nBeq_eq hs1
   have hzb := zeroB_eq hzb
   obtain ⟨i, hi, hsz⟩ := (TT.look_ok hT hj).info
   have hzz := (TT.look_ok hT hj).zero ρ
   rw [hi, hzb] at hzz
   obtain ⟨z, hz, hzc⟩ : ∃ z, i.zero = some z ∧ z.cells.toList = [.int .u8 0] := by
    cases hz : i.zero with
    | none => simp [hz] at hzz
    | some z => simp [hz, SV.dens, SV.den, IE.den] at hzz; exact ⟨z, rfl, hzz⟩
   have hzc : z.cells = #[.int .u8 0] := by apply Array.ext'; simpa using hzc
   obtain ⟨i', hi', hby⟩ := hY.ok _ _ hb
   rw [hi] at hi'
   cases hi'
   have fin : ∀ (G2 : List FE) (al : List Nat) (v : Value) (y : List UInt8) (c : Unit → List UInt8), 0 ≤ m.den → ((y.length + (zerosB m ()).length) * b ≤ 140737488355328 ∧ y.length + (zerosB m ()).length ≤ 140737488355328) → v = s.den ρ →
       (∃ Z0, ∃ cs, w.ownsRow 0 te 1 v y.length cs ∧ ∀ i (h : i < y.length), Shp.rep w Z0 .byte y[i] (chunk cs i 1)) →
       Hp E ρ H G2 w → (∀ ρ'', Agr ρ ρ'' H G2 → Agr ρ ρ'' H G) → (∀ f ∈ G2, f.id ≠ n ∧ noN n f.c = true) → (∀ k, v.ownBlock = some k → (E.may k ∨ E.B ≤ k) ∧ (∀ x ∈ H, ρ.b x.id ≠ k) ∧ (∀ g ∈ G2, ¬ g.foot ρ k)) → (∀ k, v.ownBlock = some k → E.B ≤ k ∨ ∃ j ∈ al, E.z0 j k) →
       c () = y ++ zerosB m () →
       (∀ id f, findE G id = some f → aliveE G2 id = true → (∃ f', findE G2 id = some f' ∧ f'.c = f.c ∧ Fk ρ f ρ f') ∧ ∀ k, f.foot ρ k → v.ownBlock ≠ some k) →
       ∃ v' w' ρ', (Builtin.append_ #[t, t'] ty #[s.den ρ, (SV.int .i64 m).den ρ]).run P w = .ok v' w' ∧ Hp E ρ' H (⟨n, true, te, al, .rows .byte c⟩ :: G2) w' ∧ (∀ ρ'', Agr ρ' ρ'' H (⟨n, true, te, al, .rows .byte c⟩ :: G2) → Agr ρ ρ'' H G ∧ (SV.fv n).den ρ'' = v') ∧ Ext ρ H G w ρ' H (⟨n, true, te, al, .rows .byte c⟩ :: G2) w' .no ∧ ∀ k, k < w.heap.size → (s.den ρ).ownBlock ≠ some k → w'.heap[k]? = w.heap[k]? := by
    intro G2 al v y c hm0 hbd hv hown hh2 hag2 hne hblk hbal hcc hext
    obtain ⟨Z0, hown⟩ := hown
    obtain ⟨k, hk⟩ := Int.eq_ofNat_of_zero_le hm0
    have hzl : zerosB m () = List.replicate k 0 := by unfold zerosB; rw [hk]; rfl
    rw [hzl] at hbd hcc
    simp only [List.length_replicate] at hbd
    obtain ⟨v', w', s', k1, k2, k3, k4, k5⟩ := app_put (P := P) hE hh2 (n := n) (e := .byte) (hfr.to hne) (by decide) (y := y) hown hblk (x := List.replicate k 0) (news := (Builtin.zeroCells z.cells k).toList) (by rw [hzc, zeroCells_byte]; simp [Shp.size]) (Z1 := fun _ => False) (fun i hi => by
        simp only [List.getElem_replicate]
        rw [hzc, zeroCells_byte]
        simp only [List.length_replicate] at hi
        unfold chunk
        show _ = _
        simp [Shp.size, List.drop_replicate, List.take_replicate]
        rw [show min 1 (k - i) = 1 by omega]; rfl) (by rw [List.length_replicate]; exact hbd.2) (X := Builtin.append_ #[t, t'] ty #[v, .int .i64 k]) (fun cs hcs => by
        rw [List.length_replicate]
        exact run_append_genz w t t' ty te i z kk 1 b hd hd' hi hz (hsz.trans hs1) hby (by rw [hzc]; rfl) (by omega) v y.length cs hcs k (fun u hu => by
         rw [hzc, zeroCells_byte] at hu
         rw [(List.mem_replicate.1 hu).2]; rfl) hbd.2 hbd.1) hbal (Z := fun _ => False) ⟨fun k hk => hk.elim, fun e he hk => hk.elim, fun g hg k hk hk2 => hk2.elim, fun k hk => hk.elim⟩ (fun k hk h => h) (.inl rfl) hcc
    refine ⟨v', w', _, by rw [← hv]; simp only [SV.den, hk]; exact k1, k3, fun ρ'' hr => ?_, ?_⟩
    ·obtain ⟨q1, q2⟩ := k4 ρ'' hr
     exact ⟨hag2 _ q1, by simp only [SV.den, q2, k2]⟩
    ·have hr2 := k4 _ (Agr.refl _ _ _)
     refine ⟨?_, by rw [← hv]; exact k5⟩
     refine ⟨fun e' he' _ => ⟨he', (hag2 _ hr2.1).1 e' he', hh.cells_agree (hag2 _ hr2.1) he'⟩, fun id f _ hf hal => ?_⟩
     have hidn : n ≠ id := fun e0 => hfr.G f (findE_mem hf).1 (by rw [(findE_mem hf).2, e0])
     have hal2 : aliveE G2 id = true := by
      unfold aliveE at hal ⊢
      rw [find_cons_ne hidn] at hal
      exact hal
     obtain ⟨⟨f', q1, q2, q3⟩, q4⟩ := hext id f hf hal2
     have hfid : f'.id = id := (findE_mem q1).2
     have hne' : f'.id ≠ n := by rw [hfid]; exact Ne.symm hidn
     exact ⟨f', by rw [find_cons_ne hidn]; exact q1, q2, q3.names (FE.foot_names (by rfl) (by simp [Nm.setS, hne']) (by simp [Nm.setS, hne'])), fun k hk => k5 k (hh.foot_lt (findE_mem hf).1 hk) (q4 k hk)⟩
   split at h
   ·cases h
    refine fin G [] (.slice none 0 0) [] _ (ho _ List.mem_cons_self) (ho _ (List.mem_cons_of_mem _ List.mem_cons_self)) (by simp only [SV.den]) ⟨fun _ => False, [], World.ownsRow_nil w 0 te 1, fun i hi => by simp at hi⟩ hh (fun _ h => h) hfr.g2 (fun k hk => by simp [Value.ownBlock] at hk) (fun k hk => by simp [Value.ownBlock] at hk) rfl fun id f hf hal => ⟨⟨f, hf, rfl, Fk.refl _ _⟩, fun k hk => by simp [Value.ownBlock]⟩
   ·rename_i id
    split at h
    ·rename_i f hf
     split at h
     ·rename_i y hown' hc
      simp only [Bool.and_eq_true] at hown'
      obtain ⟨hown, hte⟩ := hown'
      have hte := nBeq_eq hte
      cases h
      obtain ⟨hm, hid⟩ := findE_mem hf
      have hfa := hh.facts f hm
      unfold FE.holds at hfa
      rw [hc, hown] at hfa
      obtain ⟨hzl, hbd, ⟨cs, hcs, hrep⟩, htop⟩ := hfa
      rw [hid, hte] at hcs
      obtain ⟨k1, k2⟩ := hh.repl (f0 := f) (f := deadE f) (by rw [show (deadE f).id = f.id from rfl, hid]; exact hf) (by unfold FE.holds deadE; trivial) (fun e' x' he => by simp [deadE] at he) (fun k hk => by unfold FE.foot deadE at hk; exact hk.elim) (fun k hk => by unfold FE.excl deadE at hk; exact hk.elim) rfl
      have hexk : ∀ k, (ρ.s id).val.ownBlock = some k → f.excl ρ k := by
       intro k hk
       unfold FE.excl FE.top
       rw [hc, hid]
       cases ha : (ρ.s id).a with
       | none => simp [Sl.val, Value.ownBlock, ha] at hk
       | some a =>
         simp [Sl.val, Value.ownBlock, ha] at hk
         exact ⟨hown, a, rfl, hk.symm⟩
      refine fin _ f.al (ρ.s id).val (y ()) _ (ho _ List.mem_cons_self) (ho _ (List.mem_cons_of_mem _ List.mem_cons_self)) (by simp only [SV.den]) ⟨ρ.z f.id, cs, hcs, hrep⟩ k1 k2 ?_ ?_ (fun k hk => hh.al f hm k (FE.excl_foot (hexk k hk))) rfl ?_
      ·intro g hg
       rcases mem_replE hg with rfl | hg
       ·exact ⟨hfr.G f hm, rfl⟩
       ·exact hfr.g2 g hg
      ·intro k hk
       have hx := hexk k hk
       refine ⟨hh.exB f hm k hx, fun x' hx' e0 => hh.apart x' hx' f hm (by rw [e0]; exact FE.excl_foot hx), fun g hg => ?_⟩
       rcases mem_replE_ne hx hh.alone (by rw [show (deadE f).id = f.id from rfl, hid]; exact hf) hg with rfl | ⟨hg, hne⟩
       ·unfold FE.foot deadE; exact fun h => h
       ·rcases hh.sep hg f hm k hx with h | h
        ·exact h
        ·exact absurd h.symm hne
      ·intro id' f' hf' hal
       have hne : id' ≠ id := by
        rintro rfl
        unfold aliveE at hal
        have := find_repl (f := deadE f) (f0 := f) (l := G) (by rw [show (deadE f).id = f.id from rfl, hid]; exact hf)
        rw [show (deadE f).id = f.id from rfl, hid] at this
        rw [this] at hal
        simp [deadE] at hal
       refine ⟨⟨f', by rw [find_repl_ne (by rw [show (deadE f).id = f.id from rfl, hid]; exact Ne.symm hne)]; exact hf', rfl, Fk.refl _ _⟩, fun k hk hk2 => ?_⟩
       rcases hh.sep (findE_mem hf').1 f hm k (hexk k hk2) with h | h
       ·exact h hk
       ·rw [← h] at hf'
        exact hne ((findE_mem hf').2.symm.trans hid)
     ·cases h
    ·cases h
   ·cases h
  ·cases h
 ·cases h
def freshI (n : Nat) : List FE → Bool
 | [] => true
 | f :: l => !nBeq f.id n && freshI n l
theorem freshI_mem {n : Nat} : ∀ {l : List FE}, freshI n l = true → ∀ e ∈ l, e.id ≠ n
 | [], _, _, he => by cases he
 | x :: l, h, e, he => by
   simp only [freshI, Bool.and_eq_true] at h
   rcases List.mem_cons.1 he with rfl | he
   ·exact ne_of_beq h.1
   ·exact freshI_mem h.2 e he
def soleE (n : Nat) : List FE → Bool
 | [] => true
 | f :: l => match nBeq f.id n with
   | true => freshI n l
   | false => soleE n l
theorem mem_repl_sole {f : FE} : ∀ {l : List FE} {q : FE}, soleE f.id l = true → q ∈ replE l f → q = f ∨ (q ∈ l ∧ q.id ≠ f.id)
 | [], _, _, h => by cases h
 | g :: l, q, hs, h => by
   simp only [soleE] at hs
   simp only [replE] at h
   cases hb : nBeq g.id f.id <;> rw [hb] at hs h
   ·rcases List.mem_cons.1 h with rfl | h
    ·exact .inr ⟨List.mem_cons_self, fun e => by rw [e] at hb; simp at hb⟩
    ·rcases mem_repl_sole hs h with h | ⟨h1, h2⟩
     ·exact .inl h
     ·exact .inr ⟨List.mem_cons_of_mem _ h1, h2⟩
   ·rcases List.mem_cons.1 h with rfl | h
    ·exact .inl rfl
    ·exact .inr ⟨List.mem_cons_of_mem _ h, freshI_mem hs q h⟩
theorem repl_pair2 {R R' : FE → FE → Prop} {f f0 : FE} : ∀ {l : List FE}, soleE f.id l = true → findE l f.id = some f0 → l.Pairwise R → (∀ a b, a.id ≠ f.id → b.id ≠ f.id → R a b → R' a b) → (∀ b, b.id ≠ f.id → R f0 b → R' f b) → (∀ a, a.id ≠ f.id → R a f0 → R' a f) → (replE l f).Pairwise R'
 | [], _, h, _, _, _, _ => by cases h
 | g :: l, hs, h, hp, h1, h2, h3 => by
   simp only [soleE] at hs
   simp only [findE] at h
   simp only [replE]
   obtain ⟨p1, p2⟩ := List.pairwise_cons.1 hp
   cases hb : nBeq g.id f.id <;> rw [hb] at hs h
   ·have hg : g.id ≠ f.id := fun e => by rw [e] at hb; simp at hb
    refine List.pairwise_cons.2 ⟨fun x hx => ?_, repl_pair2 hs h p2 h1 h2 h3⟩
    rcases mem_repl_sole hs hx with rfl | ⟨hx, hne⟩
    ·exact h3 g hg (p1 f0 (findE_mem h).1)
    ·exact h1 g x hg hne (p1 x hx)
   ·cases h
    refine List.pairwise_cons.2 ⟨fun x hx => h2 x (freshI_mem hs x hx) (p1 x hx), p2.imp_of_mem ?_⟩
    intro a b ha hb' hab
    exact h1 a b (freshI_mem hs a ha) (freshI_mem hs b hb') hab
def Nm.setZ (ρ : Nm) (n : Nat) (Z : Nat → Prop) : Nm := ⟨ρ.b, ρ.s, fun i => if i = n then Z else ρ.z i⟩
theorem storeZ_sound (hT : TT.ok P T) (hE : E.ok) (hh : Hp E ρ H G w) {t : TypeId} {j : TI} (hj : TT.look T t = some j) {id o : Nat} {i : IE} {f : FE} {e : Shp} {y : Unit → List e.D} (hf : findE G id = some f) (hsole : soleE id G = true) (hown : f.own = true) (hc : f.c = .rows e y)
    {v : SV} (hvf : v.flat = true) (hvl : v.cells.length = j.size) {d : Dc (e.D → e.D)} (hd : put H G e o v.cells = some d) (hr : d.rest = []) (h0 : 0 ≤ i.den) (h1 : i.den < ((y ()).length : Int)) (hob : ∀ p ∈ d.ob, p ())
    {Z' : Nat → Prop} {al' : List Nat} (hzs : ∀ k, ρ.z f.id k → Z' k) (hzd : ∀ k, DFoot ρ G d.ids d.bs k → Z' k) (hzk : Zok E ρ H G w al' Z') (hal : ∀ j ∈ f.al, j ∈ al') :
    ∃ w', (Instr.storeAt t ((SV.fp id i e.size o).den ρ) (v.den ρ)).run P w = .ok () w' ∧ Hp E (ρ.setZ f.id Z') H (replE G ⟨f.id, true, f.t, al', .rows e (fun u => setAt (y u) i.den e.dflt (d.x u))⟩) w' ∧ ∀ k, ¬ f.excl ρ k → w'.heap[k]? = w.heap[k]? := by
 obtain ⟨hm, hid⟩ := findE_mem hf
 have hfa := hh.facts f hm
 have hp := hh.pos f hm e y hc
 unfold FE.holds at hfa
 rw [hc, hown] at hfa
 obtain ⟨hzl, hbd, ⟨cs, hcs, hrep⟩, htop⟩ := hfa
 have hcl := hcs.1
 have hlt : i.den.toNat < (y ()).length := by omega
 have hj := TT.look_ok hT hj
 have hvc := SV.flat_cells hvf ρ
 obtain ⟨q1, q2⟩ := put_sound hh (Z := ρ.z f.id) (Z' := Z') hzs e o v.cells d hd hr hob hzd _ _ (hrep _ hlt)
 have hdl : (SV.dens ρ v.cells).length = j.size := by rw [dens_length]; exact hvl
 rcases hcs.2 with ⟨e0, h00⟩ | ⟨g, cap, cur, e0, _, hg, hnc, hcm, hcs', htake⟩
 ·omega
 ·simp only [Sl.val, Value.slice.injEq] at e0
  have hat : (ρ.s f.id).at (i.den.toNat * e.size + o) = some ⟨g, i.den.toNat * e.size + o, none⟩ := by simp [Sl.at, e0.1]
  have hmul : i.den.toNat * e.size + e.size ≤ (y ()).length * e.size := by rw [← Nat.succ_mul]; exact Nat.mul_le_mul_right _ hlt
  have hmul2 : (y ()).length * e.size ≤ cap * e.size := Nat.mul_le_mul_right _ hnc
  have hfit : i.den.toNat * e.size + o + j.size ≤ cur.size := by rw [hcs']; omega
  have hrun := run_storeVar_part (P := P) hj w g (i.den.toNat * e.size + o) f.t cur hg (v.den ρ) (by rw [hvc]; simp [hdl]) hfit (by rw [hvc]; exact oneAll_dens hvf ρ)
  rw [hvc] at hrun
  have hcur : cur.toList.take (i.den.toNat * e.size + o) ++ (SV.dens ρ v.cells).toArray.toList ++ cur.toList.drop (i.den.toNat * e.size + o + (SV.dens ρ v.cells).toArray.toList.length) = over cur.toList (i.den.toNat * e.size + o) (SV.dens ρ v.cells) := rfl
  rw [hcur] at hrun
  have hexk : ∀ k, f.excl ρ k ↔ k = g := by
   intro k
   unfold FE.excl FE.top
   rw [hc]
   simp only [hown, true_and, e0.1, Option.some.injEq]
   constructor
   ·rintro ⟨x, rfl, rfl⟩; rfl
   ·rintro rfl; exact ⟨_, rfl, rfl⟩
  have hBg : E.may g ∨ E.B ≤ g := hh.exB f hm g ((hexk g).2 rfl)
  have hother : ∀ k, k ≠ g → (w.setRow g (over cur.toList (i.den.toNat * e.size + o) (SV.dens ρ v.cells)).toArray).heap[k]? = w.heap[k]? := fun k hk => heap_setRow_other w g _ k hk
  have hbw : BelowX E.B E.may w (w.setRow g (over cur.toList (i.den.toNat * e.size + o) (SV.dens ρ v.cells)).toArray) := ⟨rfl, rfl, rfl, by simp [World.setRow], fun k hk hm => hother k fun e1 => by rw [e1] at hk hm; rcases hBg with h | h; exact hm h; omega⟩
  have hz2 : (ρ.setZ f.id Z').z f.id = Z' := by simp [Nm.setZ]
  have hznt : ¬ Z' g := fun h => hzk.G f hm g ((hexk g).2 rfl) h
  refine ⟨_, ?_, ?_, fun k hk => hother k fun e1 => hk ((hexk k).2 e1)⟩
  ·rw [hid] at hat
   simp only [SV.den, hat, Instr.storeAt, Instr.sureAddr, Sem.run_bind, Sem.run_pure, Result.andThen_ok]
   exact hrun
  ·have sepf : ∀ f' ∈ G, f'.id ≠ f.id → ∀ k, f'.foot ρ k → k ≠ g := by
     rintro f' hf' hne k hk rfl
     rcases hh.sep hf' f hm k ((hexk k).2 rfl) with h | h
     ·exact h hk
     ·exact hne (by rw [h])
   have new : (⟨f.id, true, f.t, al', .rows e (fun u => setAt (y u) i.den e.dflt (d.x u))⟩ : FE).holds (ρ.setZ f.id Z') (w.setRow g (over cur.toList (i.den.toNat * e.size + o) (SV.dens ρ v.cells)).toArray) := by
    unfold FE.holds
    simp only
    rw [hz2, show (ρ.setZ f.id Z').s f.id = ρ.s f.id from rfl]
    have hlen : (setAt (y ()) i.den e.dflt (d.x ())).length = (y ()).length := by simp [setAt]
    refine ⟨fun k hk => Nat.lt_of_lt_of_le (hzk.lt k hk) hbw.size, by rw [hlen]; exact hbd, ⟨over cs (i.den.toNat * e.size + o) (SV.dens ρ v.cells), ?_, fun q hq => ?_⟩, fun x hx hz => by rw [e0.1] at hx; cases hx; exact hznt hz⟩
    ·refine ⟨by rw [hlen, over_length (by rw [hcl, hdl]; rw [dens_length] at hdl; omega), hcl], .inr ⟨g, cap, _, by simp only [Sl.val, hlen]; simp [e0], Nat.zero_le _, heap_setRow_same w g _ _ _ _ hg, by rw [hlen]; exact hnc, hcm, ?_, ?_⟩⟩
     ·simp only [List.size_toArray]
      rw [over_length (by rw [hdl, Array.length_toList]; exact hfit), Array.length_toList]
      exact hcs'
     ·rw [hlen]
      simp only [List.toList_toArray]
      have : (over cur.toList (i.den.toNat * e.size + o) (SV.dens ρ v.cells)).take ((y ()).length * e.size) = over (cur.toList.take ((y ()).length * e.size)) (i.den.toNat * e.size + o) (SV.dens ρ v.cells) := by
       apply List.ext_getElem?
       intro k
       have hq1 : (List.take ((y ()).length * e.size) cur.toList).length = (y ()).length * e.size := by rw [htake, hcl]
       rw [List.getElem?_take, over_get _ _ _ _ (by rw [hdl, Array.length_toList]; exact hfit), over_get _ _ _ _ (by rw [hdl, hq1]; rw [dens_length] at hdl; omega), hdl]
       rw [dens_length] at hdl
       simp only [List.getElem?_take]
       by_cases hk : k < (y ()).length * e.size
       ·simp only [if_pos hk]
       ·simp only [if_neg hk]
        rw [if_neg (by omega), if_neg (by omega)]
      rw [this, htake]
    ·have hq' : q < (y ()).length := by rw [hlen] at hq; exact hq
     have mono := fun (a : e.D) (vs : List Value) (h : Shp.rep w (ρ.z f.id) e a vs) => Shp.rep_mono (w' := (w.setRow g (over cur.toList (i.den.toNat * e.size + o) (SV.dens ρ v.cells)).toArray)) (Z' := Z') (fun k h => hzs k h) (fun k hk => hother k fun e1 => hznt (by rw [e1] at hk; exact hzs _ hk)) e a vs h
     have mono2 := fun (a : e.D) (vs : List Value) (h : Shp.rep w (Z') e a vs) => Shp.rep_mono (w' := (w.setRow g (over cur.toList (i.den.toNat * e.size + o) (SV.dens ρ v.cells)).toArray)) (Z' := Z') (fun k h => h) (fun k hk => hother k fun e1 => hznt (by rw [e1] at hk; exact hk)) e a vs h
     by_cases hqi : q = i.den.toNat
     ·subst hqi
      rw [chunk_over_same hcl hlt (by rw [dens_length]; exact q1)]
      have hget : (setAt (y ()) i.den e.dflt (d.x ()))[i.den.toNat]'hq = d.x () (y ())[i.den.toNat] := by
       simp [setAt, List.getD_eq_getElem?_getD, List.getElem?_eq_getElem hlt]
      rw [hget]
      exact mono2 _ _ q2
     ·rw [chunk_over_other hcl hlt (by rw [dens_length]; exact q1) hqi]
      have hget : (setAt (y ()) i.den e.dflt (d.x ()))[q]'hq = (y ())[q] := by
       simp only [setAt]
       rw [List.getElem_set_ne (Ne.symm hqi)]
      rw [hget]
      exact mono _ _ (hrep q hq')
   have hs2 : soleE (⟨f.id, true, f.t, al', .rows e (fun u => setAt (y u) i.den e.dflt (d.x u))⟩ : FE).id G = true := by rw [show (⟨f.id, true, f.t, al', .rows e (fun u => setAt (y u) i.den e.dflt (d.x u))⟩ : FE).id = f.id from rfl, hid]; exact hsole
   have hf2 : findE G (⟨f.id, true, f.t, al', .rows e (fun u => setAt (y u) i.den e.dflt (d.x u))⟩ : FE).id = some f := by rw [show (⟨f.id, true, f.t, al', .rows e (fun u => setAt (y u) i.den e.dflt (d.x u))⟩ : FE).id = f.id from rfl, hid]; exact hf
   have foots : ∀ k, (⟨f.id, true, f.t, al', .rows e (fun u => setAt (y u) i.den e.dflt (d.x u))⟩ : FE).foot (ρ.setZ f.id Z') k → Z' k ∨ f.foot ρ k := by
    intro k hk
    unfold FE.foot FE.top at hk
    rw [hz2] at hk
    rcases hk with hk | hk
    ·exact .inl hk
    ·refine .inr ?_
     unfold FE.foot FE.top
     rw [hc, hown]
     exact .inr hk
   have excls : ∀ k, (⟨f.id, true, f.t, al', .rows e (fun u => setAt (y u) i.den e.dflt (d.x u))⟩ : FE).excl (ρ.setZ f.id Z') k ↔ f.excl ρ k := by
    intro k
    unfold FE.excl FE.top
    rw [hc, hown]
    exact Iff.rfl
   have fo : ∀ q : FE, q.id ≠ f.id → q.foot (ρ.setZ f.id Z') = q.foot ρ := fun q hq => FE.foot_names rfl rfl (by simp [Nm.setZ, hq])
   have ex : ∀ q : FE, q.excl (ρ.setZ f.id Z') = q.excl ρ := fun q => FE.excl_names rfl rfl
   have memr : ∀ q ∈ replE G (⟨f.id, true, f.t, al', .rows e (fun u => setAt (y u) i.den e.dflt (d.x u))⟩ : FE), q = (⟨f.id, true, f.t, al', .rows e (fun u => setAt (y u) i.den e.dflt (d.x u))⟩ : FE) ∨ (q ∈ G ∧ q.id ≠ f.id) := fun q hq => mem_repl_sole hs2 hq
   have down : ∀ {ρ''}, Agr (ρ.setZ f.id Z') ρ'' H (replE G (⟨f.id, true, f.t, al', .rows e (fun u => setAt (y u) i.den e.dflt (d.x u))⟩ : FE)) → Agr ρ ρ'' H G := fun hr => ⟨hr.1, fun q hq => by
    obtain ⟨y', hy', e1⟩ := replE_ids (f := (⟨f.id, true, f.t, al', .rows e (fun u => setAt (y u) i.den e.dflt (d.x u))⟩ : FE)) hq
    rw [← e1]
    exact hr.2 y' hy'⟩
   refine ⟨hE.keepX _ _ hh.keep hbw, Nat.le_trans hh.size hbw.size, hh.base, ?_, hh.inj, ?_, ?_, ?_, ?_, ?_, ?_, hh.anc⟩
   ·intro ρ' hr e' he'
    show (w.setRow g _).heap[ρ.b e'.id]? = _
    rw [hother _ fun e1 => hh.apart e' he' f hm (FE.excl_foot ((hexk _).2 e1))]
    exact hh.block ρ' (down hr) e' he'
   ·intro q hq
    rcases memr q hq with rfl | ⟨hq, hne⟩
    ·exact new
    ·rw [FE.holds_names (ρ := ρ) (ρ' := ρ.setZ f.id Z') rfl rfl (by simp [Nm.setZ, hne]) fun _ _ => rfl]
     exact FE.stable (hh.facts q hq) hbw.size fun k hk => hother k (sepf q hq hne k hk)
   ·intro q hq e' x' he'
    rcases memr q hq with rfl | ⟨hq, _⟩
    ·cases he'; exact hp
    ·exact hh.pos q hq e' x' he'
   ·intro e' he' q hq
    rcases memr q hq with rfl | ⟨hq, hne⟩
    ·intro hk
     rcases foots _ hk with hk | hk
     ·exact hzk.H e' he' hk
     ·exact hh.apart e' he' f hm hk
    ·rw [fo q hne]
     exact hh.apart e' he' q hq
   ·have hall : ∀ b ∈ G, b.id ≠ f.id → ∀ k, b.excl ρ k → ¬ Z' k := fun b hb _ k hk => hzk.G b hb k hk
    refine repl_pair2 (R := fun a b => a ∈ G ∧ b ∈ G ∧ Sep ρ a b) hs2 hf2 (hh.alone.imp_of_mem fun ha hb h => ⟨ha, hb, h⟩) ?_ ?_ ?_
    ·rintro a b ha hb ⟨_, _, h⟩ k
     rw [ex a, ex b, fo a ha, fo b hb]
     exact h k
    ·rintro b hb ⟨_, hbG, h⟩ k
     rw [fo b hb, ex b]
     refine ⟨fun hk => (h k).1 ((excls k).1 hk), fun hk hk2 => ?_⟩
     rcases foots k hk2 with h2 | h2
     ·exact hall b hbG hb k hk h2
     ·exact (h k).2 hk h2
    ·rintro a ha ⟨haG, _, h⟩ k
     rw [fo a ha, ex a]
     refine ⟨fun hk hk2 => ?_, fun hk => (h k).2 ((excls k).1 hk)⟩
     rcases foots k hk2 with h2 | h2
     ·exact hall a haG ha k hk h2
     ·exact (h k).1 hk h2
   ·intro q hq k hk
    rcases memr q hq with rfl | ⟨hq, hne⟩
    ·have hk' := (hexk k).1 ((excls k).1 hk)
     rw [hk']
     exact hBg
    ·rw [ex q] at hk
     exact hh.exB q hq k hk
   ·intro q hq k hk
    rcases memr q hq with rfl | ⟨hq, hne⟩
    ·rcases foots k hk with hk | hk
     ·exact hzk.al k hk
     ·exact (hh.al f hm k hk).imp (fun h => h) fun ⟨j, hj, h⟩ => ⟨j, hal j hj, h⟩
    ·rw [fo q hne] at hk
     exact hh.al q hq k hk
def storeN (T : TT) (H : List Ent) (G : List FE) (t : TypeId) (x v : SV) : Option (List (Unit → Prop) × Nat × List FE) :=
 match x with
 | .fp id i s o => match findE G id, TT.look T t with
   | some f0, some j => match f0.c with
     | .rows e0 _ => match put H G e0 o v.cells with
       | some d0 => match findE (frzIds G d0.ids) id with
         | some f => match f.own, f.c with
           | true, .rows e y => match nBeq s e.size && v.flat && nBeq (lenL v.cells) j.size && soleE id (frzIds G d0.ids) with
             | true => match put H (frzIds G d0.ids) e o v.cells with
               | some d => match d.rest, d.bs with
                 | [], [] => match allSh (frzIds G d0.ids) d.ids with
                   | true => some (obLt e y i :: d.ob, id, replE (frzIds G d0.ids) ⟨f.id, true, f.t, catN f.al (alsOf (frzIds G d0.ids) d.ids), .rows e (fun u => setAt (y u) i.den e.dflt (d.x u))⟩)
                   | false => none
                 | _, _ => none
               | none => none
             | false => none
           | _, _ => none
         | none => none
       | none => none
     | _ => none
   | _, _ => none
 | _ => none
theorem storeN_sound (hT : TT.ok P T) (hE : E.ok) (hh : Hp E ρ H G w) {t : TypeId} {x v : SV} {obs : List (Unit → Prop)} {id : Nat} {G' : List FE} (h : storeN T H G t x v = some (obs, id, G')) (ho : ∀ p ∈ obs, p ()) :
    (∃ i s o, x = .fp id i s o) ∧ ∃ w' ρ', (Instr.storeAt t (x.den ρ) (v.den ρ)).run P w = .ok () w' ∧ Hp E ρ' H G' w' ∧ (∀ ρ'', Agr ρ' ρ'' H G' → Agr ρ ρ'' H G) ∧ Ext ρ H G w ρ' H G' w' (.one id) := by
 unfold storeN at h
 split at h
 ·rename_i id' i s o
  split at h
  ·rename_i f0 j hf0 hj
   split at h
   ·rename_i e0 y0 hc0
    split at h
    ·rename_i d0 hd0
     split at h
     ·rename_i f hf
      split at h
      ·rename_i e y hown hc
       split at h
       ·rename_i hq
        simp only [Bool.and_eq_true] at hq
        obtain ⟨⟨⟨hs, hvf⟩, hvl⟩, hsole⟩ := hq
        have hs := nBeq_eq hs
        subst hs
        have hvl := nBeq_eq hvl
        rw [lenL_eq] at hvl
        split at h
        ·rename_i d hd
         split at h
         ·rename_i hr hbs
          split at h
          ·rename_i hsh
           cases h
           obtain ⟨kh, ka⟩ := frz_sound d0.ids G hh
           obtain ⟨hm, hid⟩ := findE_mem hf
           have hin := ho _ List.mem_cons_self
           have hob := fun p hp => ho p (List.mem_cons_of_mem _ hp)
           obtain ⟨h0, h1⟩ := hin
           have h1 : i.den < ((y ()).length : Int) := h1
           have hzi := zok_ids kh hsh
           have hzf := kh.zok hm hc (kh.sep hm)
           rw [hown] at hzf
           obtain ⟨w', k1, k2, k3⟩ := storeZ_sound hT hE kh hj hf hsole hown hc hvf hvl hd hr h0 h1 hob (Z' := fun k => ρ.z f.id k ∨ DFoot ρ (frzIds G d0.ids) d.ids [] k) (al' := catN f.al (alsOf (frzIds G d0.ids) d.ids)) (fun k hk => .inl hk) (fun k hk => .inr (by rw [hbs] at hk; exact hk)) ⟨fun k hk => hk.elim (hzf.lt k) (hzi.lt k), fun e he hk => hk.elim (hzf.H e he) (hzi.H e he), fun g hg k hk hk2 => hk2.elim (hzf.G g hg k hk) (hzi.G g hg k hk), fun k hk => by
            rw [catN_eq]
            rcases hk with hk | hk
            ·rcases hzf.al k hk with h | ⟨q, hq, h⟩
             ·exact .inl h
             ·exact .inr ⟨q, List.mem_append_left _ hq, h⟩
            ·rcases hzi.al k hk with h | ⟨q, hq, h⟩
             ·exact .inl h
             ·exact .inr ⟨q, List.mem_append_right _ hq, h⟩⟩ (fun j hj => by rw [catN_eq]; exact List.mem_append_left _ hj)
           refine ⟨⟨_, _, _, rfl⟩, w', _, k1, k2, fun ρ'' hr2 => ka ρ'' ⟨hr2.1, fun q hq => ?_⟩, ⟨fun e' he' _ => ⟨he', rfl, hh.cells_agree (show Agr ρ (ρ.setZ f.id fun k => ρ.z f.id k ∨ DFoot ρ (frzIds G d0.ids) d.ids [] k) H G from ⟨fun _ _ => rfl, fun _ _ => ⟨rfl, rfl⟩⟩) he'⟩, fun id2 f1 hne hf1 _ => ?_⟩⟩
           ·obtain ⟨y', hy', e1⟩ := replE_ids (f := ⟨f.id, true, f.t, catN f.al (alsOf (frzIds G d0.ids) d.ids), .rows e (fun u => setAt (y u) i.den e.dflt (d.x u))⟩) hq
            rw [← e1]
            exact hr2.2 y' hy'
           ·have hne : f.id ≠ id2 := fun e1 => hne (by rw [hid] at e1; exact e1)
            obtain ⟨f2, q1, q2⟩ := find_frz d0.ids G id2 f1 hf1
            have hid2 : f2.id ≠ f.id := by rw [(findE_mem q1).2]; exact Ne.symm hne
            obtain ⟨f3, q3, q4⟩ := find_frz d0.ids G _ f0 hf0
            rw [hf] at q3
            cases q3
            have hff : f = f0 := by
             rcases q4 with rfl | rfl
             ·rfl
             ·simp [freeze] at hown
            subst hff
            have hnm : f2.foot (ρ.setZ f.id fun k => ρ.z f.id k ∨ DFoot ρ (frzIds G d0.ids) d.ids [] k) = f2.foot ρ := FE.foot_names rfl rfl (by simp [Nm.setZ, hid2])
            refine ⟨f2, by rw [find_repl_ne (by exact hne)]; exact q1, ?_, ?_, fun k hk => k3 k fun hx => ?_⟩
            ·rcases q2 with rfl | rfl <;> rfl
            ·rcases q2 with rfl | rfl
             ·exact (Fk.refl _ _).names hnm
             ·exact (Fk.freeze _ _).names hnm
            ·rcases hh.sep (findE_mem hf1).1 f (findE_mem hf0).1 k hx with h | h
             ·exact h hk
             ·rw [← h] at hf1
              exact hne (findE_mem hf1).2
          ·cases h
         ·cases h
        ·cases h
       ·cases h
      ·cases h
     ·cases h
    ·cases h
   ·cases h
  ·cases h
 ·cases h
def sameO : Operand → Operand → Bool
 | .tmp i, .tmp j => nBeq i j
 | .const (.int .i64 (.ofNat a)), .const (.int .i64 (.ofNat b)) => nBeq a b
 | _, _ => false
theorem sameO_eq {x y : Operand} (h : sameO x y = true) : x = y := by
 unfold sameO at h
 split at h
 ·rw [nBeq_eq h]
 ·rw [nBeq_eq h]
 ·cases h
def mkZ (T : TT) (Y : TypeId → Option Nat) (S : TypeId → Option Shp) (G : List FE) (n : Nat) (t : TypeId) (s : SV) : Option (List (Unit → Prop) × List FE) :=
 match TT.look T t, s with
 | some ⟨.slice te, _, _⟩, .int .i64 m => match TT.look T te, Y te with
   | some j, some b => match nBeq j.size 1 && zeroB j.zero && isByteS (S te) with
     | true => some ([fun _ => 0 ≤ m.den, obApp b (fun _ => ([] : List UInt8)) (zerosB m)], ⟨n, true, te, [], .rows .byte (zerosB m)⟩ :: G)
     | false => none
   | _, _ => none
 | _, _ => none
theorem madeCells_byte (m : Nat) : (madeCells #[.int .u8 0] m).toList = List.replicate m (.int .u8 0) := by
 apply List.ext_getElem
 ·simp [size_madeCells]
 ·intro i h1 h2
  simp [madeCells, Nat.mod_one]
theorem mk_sound (hT : TT.ok P T) {Y : TypeId → Option Nat} (hY : BtOk P Y) {S : TypeId → Option Shp} (hE : E.ok) (hh : Hp E ρ H G w) {n : Nat} {t : TypeId} {s : SV} {obs : List (Unit → Prop)} {G' : List FE} (h : mkZ T Y S G n t s = some (obs, G')) (ho : ∀ p ∈ obs, p ()) (hfr : Fresh E n H G) :
    ∃ v' w' ρ', (Instr.makeSlice t (s.den ρ) (s.den ρ)).run P w = .ok v' w' ∧ Hp E ρ' H G' w' ∧ (∀ ρ'', Agr ρ' ρ'' H G' → Agr ρ ρ'' H G ∧ (SV.fv n).den ρ'' = v') ∧ Ext ρ H G w ρ' H G' w' .no := by
 unfold mkZ at h
 split at h
 ·rename_i te sz z0 m hl
  obtain ⟨d, hd, hsd⟩ := (TT.look_ok hT hl).under
  cases d <;> simp [Sh.of] at hsd
  subst hsd
  rename_i te
  split at h
  ·rename_i j b hj hb
   cases hq : nBeq j.size 1 && zeroB j.zero && isByteS (S te) with
   | false => rw [hq] at h; cases h
   | true =>
   rw [hq] at h
   simp only [] at h
   cases h
   simp only [Bool.and_eq_true] at hq
   obtain ⟨⟨hs1, hzb⟩, _⟩ := hq
   have hs1 := nBeq_eq hs1
   have hzb := zeroB_eq hzb
   obtain ⟨i, hi, hsz⟩ := (TT.look_ok hT hj).info
   have hzz := (TT.look_ok hT hj).zero ρ
   rw [hi, hzb] at hzz
   obtain ⟨z, hz, hzc⟩ : ∃ z, i.zero = some z ∧ z.cells.toList = [.int .u8 0] := by
    cases hz : i.zero with
    | none => simp [hz] at hzz
    | some z => simp [hz, SV.dens, SV.den, IE.den] at hzz; exact ⟨z, rfl, hzz⟩
   have hzc : z.cells = #[.int .u8 0] := by apply Array.ext'; simpa using hzc
   obtain ⟨i', hi', hby⟩ := hY.ok _ _ hb
   rw [hi] at hi'
   cases hi'
   have hm0 : 0 ≤ m.den := ho _ List.mem_cons_self
   have hbd := ho _ (List.mem_cons_of_mem _ List.mem_cons_self)
   obtain ⟨k, hk⟩ := Int.eq_ofNat_of_zero_le hm0
   have hzl : zerosB m () = List.replicate k 0 := by unfold zerosB; rw [hk]; rfl
   simp only [obApp, hzl, List.length_replicate, List.length_nil, Nat.zero_add] at hbd
   have hsz1 : i.size = 1 := hsz.trans hs1
   have hkb : i.bytes * k ≤ 140737488355328 := by rw [hby, Nat.mul_comm]; exact hbd.1
   obtain ⟨v', w', s', k1, k2, k3, k4, k5⟩ := app_put (P := P) hE hh (n := n) (e := .byte) hfr (by decide) (v := .slice none 0 0) (y := []) (Z0 := fun _ => False) ⟨[], World.ownsRow_nil w 0 te 1, fun i hi => by simp at hi⟩ (fun k hk => by simp [Value.ownBlock] at hk) (x := List.replicate k 0) (news := List.replicate k (.int .u8 0)) (by simp [Shp.size]) (Z1 := fun _ => False) (fun i hi => by
       simp only [List.getElem_replicate]
       simp only [List.length_replicate] at hi
       unfold chunk
       show _ = _
       simp [Shp.size, List.drop_replicate, List.take_replicate]
       rw [show min 1 (k - i) = 1 by omega]; rfl) (by simp only [List.length_nil, List.length_replicate]; omega) (X := Instr.makeSlice t (.int .i64 k) (.int .i64 k)) (fun cs hcs => by
       obtain rfl : cs = [] := List.eq_nil_of_length_eq_zero (by simpa using hcs.1)
       have hb2 : (i.bytes : Int) * (k : Int) ≤ 281474976710656 := by
        have h : ((i.bytes * k : Nat) : Int) ≤ 281474976710656 := by omega
        rwa [Int.natCast_mul] at h
       have hr := run_make (P := P) w t te i z hd hi hz .i64 .i64 k k (by omega) (by omega) hb2 (by omega)
       simp only [Int.toNat_natCast, hsz1, Nat.mul_one, hzc] at hr
       refine ⟨_, _, hr, ⟨by simp [Shp.size], .inr ⟨w.heap.size, k, _, by simp, Nat.zero_le _, heap_alloc_new w _, by simp, by simp only [maxLen]; omega, by simp [size_madeCells, Shp.size], by simp [madeCells_byte, Shp.size]⟩⟩, World.grownBy_alloc w _ _, fun k' hk' => .inr ?_⟩
       simp [Value.ownBlock] at hk'
       exact hk'.symm) (al := []) (fun k hk => by simp [Value.ownBlock] at hk) (Z := fun _ => False) ⟨fun k hk => hk.elim, fun e he hk => hk.elim, fun g hg k hk hk2 => hk2.elim, fun k hk => hk.elim⟩ (fun k hk h => h) (.inl rfl) (c := zerosB m) (by rw [hzl]; rfl)
   refine ⟨v', w', _, by simp only [SV.den, hk]; exact k1, k3, fun ρ'' hr => ?_, ?_⟩
   ·obtain ⟨q1, q2⟩ := k4 ρ'' hr
    exact ⟨q1, by simp only [SV.den, q2, k2]⟩
   ·have hr2 := k4 _ (Agr.refl _ _ _)
    refine ⟨fun e' he' _ => ⟨he', hr2.1.1 e' he', hh.cells_agree hr2.1 he'⟩, fun id f _ hf hal => ?_⟩
    have hidn : n ≠ id := fun e0 => hfr.G f (findE_mem hf).1 (by rw [(findE_mem hf).2, e0])
    have hfid : f.id = id := (findE_mem hf).2
    have hne' : f.id ≠ n := by rw [hfid]; exact Ne.symm hidn
    exact ⟨f, by rw [find_cons_ne hidn]; exact hf, rfl, (Fk.refl _ _).names (FE.foot_names (by rfl) (by simp [Nm.setS, hne']) (by simp [Nm.setS, hne'])), fun k hk => k5 k (hh.foot_lt (findE_mem hf).1 hk) (by simp [Value.ownBlock])⟩
  ·cases h
 ·cases h
end find
def memN (n : Nat) : List Nat → Bool
 | [] => false
 | x :: l => nBeq x n || memN n l
theorem memN_mem {n : Nat} : ∀ {l : List Nat}, memN n l = true ↔ n ∈ l
 | [] => by simp [memN]
 | x :: l => by
   simp only [memN, Bool.or_eq_true, memN_mem (l := l), List.mem_cons]
   constructor
   ·rintro (h | h)
    ·exact .inl (nBeq_eq h).symm
    ·exact .inr h
   ·rintro (rfl | h)
    ·exact .inl (by simp)
    ·exact .inr h
def lessE : List Ent → List Nat → List Ent
 | [], _ => []
 | e :: l, r => (match memN e.id r with | true => lessE l r | false => e :: lessE l r)
theorem lessE_mem {r : List Nat} : ∀ {l : List Ent} {e : Ent}, e ∈ lessE l r → e ∈ l
 | [], _, h => by cases h
 | x :: l, e, h => by
   simp only [lessE] at h
   cases hm : memN x.id r <;> rw [hm] at h
   ·rcases List.mem_cons.1 h with rfl | h
    ·exact List.mem_cons_self
    ·exact List.mem_cons_of_mem _ (lessE_mem h)
   ·exact List.mem_cons_of_mem _ (lessE_mem h)
theorem lessE_other {r : List Nat} {e : Ent} : ∀ {l : List Ent}, e ∈ l → memN e.id r = false → e ∈ lessE l r
 | x :: l, h, hm => by
   simp only [lessE]
   rcases List.mem_cons.1 h with rfl | h
   ·rw [hm]; exact List.mem_cons_self
   ·cases hx : memN x.id r
    ·exact List.mem_cons_of_mem _ (lessE_other h hm)
    ·exact lessE_other h hm
theorem dead_foot {f : FE} (h : f.c = .dead) (ρ : Nm) (k : Nat) : ¬ f.foot ρ k := by
 unfold FE.foot; rw [h]; exact fun h => h
theorem repl_dead {E : Env} {ρ : Nm} {H : List Ent} {G : List FE} {w : World} (hh : Hp E ρ H G w) {f : FE} {i : Nat} (hf : findE G i = some f) : Hp E ρ H (replE G (deadE f)) w ∧ ∀ ρ'', Agr ρ ρ'' H (replE G (deadE f)) → Agr ρ ρ'' H G :=
 hh.repl (f0 := f) (f := deadE f) (by rw [show (deadE f).id = f.id from rfl, (findE_mem hf).2]; exact hf) (by unfold FE.holds deadE; trivial) (fun e' x' he => by simp [deadE] at he) (fun k hk => by unfold FE.foot deadE at hk; exact hk.elim) (fun k hk => by unfold FE.excl deadE at hk; exact hk.elim) rfl
def deadB (b : Nat) : FE := ⟨b, false, 0, [], .dead⟩
theorem memN_one {x b : Nat} (h : x ≠ b) : memN x [b] = false := by
 simp only [memN]
 cases hb : nBeq b x
 ·rfl
 ·exact absurd (nBeq_eq hb).symm h
section lit
variable {E : Env} {ρ : Nm} {w : World} {H : List Ent} {G : List FE} {P : Program} {T : TT}
theorem Hp.drop (h : Hp E ρ H G w) (b : Nat) : Hp E ρ (lessE H [b]) (deadB b :: G) w ∧ ∀ ρ'', Agr ρ ρ'' (lessE H [b]) (deadB b :: G) → Agr ρ ρ'' H G := by
 have ag : ∀ ρ'', Agr ρ ρ'' (lessE H [b]) (deadB b :: G) → Agr ρ ρ'' H G := by
  intro ρ'' hr
  refine ⟨fun e he => ?_, fun g hg => hr.2 g (List.mem_cons_of_mem _ hg)⟩
  by_cases hb : e.id = b
  ·rw [hb]; exact (hr.2 (deadB b) List.mem_cons_self).1
  ·exact hr.1 e (lessE_other he (memN_one hb))
 have df : ∀ k, ¬ (deadB b).foot ρ k := fun k hk => by unfold FE.foot deadB at hk; exact hk
 have dx : ∀ k, ¬ (deadB b).excl ρ k := fun k hk => df k (FE.excl_foot hk)
 refine ⟨⟨h.keep, h.size, fun e he => h.base e (lessE_mem he), fun ρ' hr e he => h.block ρ' (ag ρ' hr) e (lessE_mem he), fun e he e' he' => h.inj e (lessE_mem he) e' (lessE_mem he'), ?_, ?_, ?_, ?_, ?_, ?_, h.anc⟩, ag⟩
 ·intro g hg
  rcases List.mem_cons.1 hg with rfl | hg
  ·unfold FE.holds deadB; trivial
  ·exact h.facts g hg
 ·intro g hg e x hc
  rcases List.mem_cons.1 hg with rfl | hg
  ·simp [deadB] at hc
  ·exact h.pos g hg e x hc
 ·intro e he g hg
  rcases List.mem_cons.1 hg with rfl | hg
  ·exact df _
  ·exact h.apart e (lessE_mem he) g hg
 ·exact List.pairwise_cons.2 ⟨fun g hg k => ⟨fun hk => absurd hk (dx k), fun _ => df k⟩, h.alone⟩
 ·intro g hg k hk
  rcases List.mem_cons.1 hg with rfl | hg
  ·exact absurd hk (dx k)
  ·exact h.exB g hg k hk
 ·intro g hg k hk
  rcases List.mem_cons.1 hg with rfl | hg
  ·exact absurd hk (df k)
  ·exact h.al g hg k hk
def tyE : List Ent → Nat → Option TypeId
 | [], _ => none
 | x :: l, b => match nBeq x.id b with
   | true => some x.ty
   | false => tyE l b
def litE (S : TypeId → Option Shp) (H : List Ent) (G : List FE) (n b m : Nat) : Option (List (Unit → Prop) × List FE) :=
 match cellsE H b, tyE H b with
 | some cs, some te => match S te with
   | some e => match nBlt 0 e.size && nBle m 1000000 && nBeq (lenL cs) (m * e.size) && onceE H with
     | true => match decN (fun l => dec H G e l) m cs with
       | some d0 => match decN (fun l => dec (lessE H [b]) (keptG e (deadB b :: G) d0.ids) e l) m cs with
         | some d => match d.bs, flat e || allSh (keptG e (deadB b :: G) d0.ids) d.ids with
           | [], true => some (d.ob, ⟨n, true, te, (match flat e with | true => [] | false => alsOf (keptG e (deadB b :: G) d0.ids) d.ids), .rows e d.x⟩ :: keptG e (deadB b :: G) d0.ids)
           | _, _ => none
         | none => none
       | none => none
     | false => none
   | none => none
 | _, _ => none
theorem tyE_cells : ∀ {l : List Ent} {b : Nat} {cs : List SV} {t : TypeId}, cellsE l b = some cs → tyE l b = some t → ∃ e ∈ l, e.id = b ∧ e.cells = cs ∧ e.ty = t
 | [], _, _, _, h, _ => by cases h
 | x :: l, b, cs, t, h, h2 => by
   simp only [cellsE] at h
   simp only [tyE] at h2
   cases hb : nBeq x.id b <;> rw [hb] at h h2
   ·obtain ⟨e, he, h3⟩ := tyE_cells h h2
    exact ⟨e, List.mem_cons_of_mem _ he, h3⟩
   ·cases h; cases h2
    exact ⟨x, List.mem_cons_self, nBeq_eq hb, rfl, rfl⟩
theorem lessE_ne {b : Nat} : ∀ {l : List Ent} {e : Ent}, e ∈ lessE l [b] → e.id ≠ b
 | [], _, h => by cases h
 | x :: l, e, h => by
   simp only [lessE] at h
   cases hm : memN x.id [b] <;> rw [hm] at h
   ·rcases List.mem_cons.1 h with rfl | h
    ·rintro rfl
     simp [memN] at hm
    ·exact lessE_ne h
   ·exact lessE_ne h
theorem kept_foot {e : Shp} {f : FE} {k : Nat} : ∀ {ids : List Nat} {G : List FE}, f ∈ keptG e G ids → f.foot ρ k → ∃ g ∈ G, g.id = f.id ∧ g.foot ρ k := by
 intro ids G hf hk
 unfold keptG at hf
 split at hf
 ·exact ⟨f, hf, rfl, hk⟩
 ·induction ids generalizing G with
  | nil => exact ⟨f, hf, rfl, hk⟩
  | cons i l ih =>
    unfold frzIds at hf
    split at hf
    ·rename_i f0 hf0
     split at hf
     ·obtain ⟨g, hg, hi, hgk⟩ := ih hf
      rcases mem_replE hg with rfl | hg
      ·exact ⟨f0, (findE_mem hf0).1, hi, freeze_foot hgk⟩
      ·exact ⟨g, hg, hi, hgk⟩
     ·exact ih hf
    ·exact ih hf
theorem kept_ids {e : Shp} {f : FE} : ∀ {ids : List Nat} {G : List FE}, f ∈ keptG e G ids → ∃ g ∈ G, g.id = f.id := by
 intro ids G hf
 unfold keptG at hf
 split at hf
 ·exact ⟨f, hf, rfl⟩
 ·induction ids generalizing G with
  | nil => exact ⟨f, hf, rfl⟩
  | cons i l ih =>
    unfold frzIds at hf
    split at hf
    ·rename_i f0 hf0
     split at hf
     ·obtain ⟨g, hg, hi⟩ := ih hf
      rcases mem_replE hg with rfl | hg
      ·exact ⟨f0, (findE_mem hf0).1, hi⟩
      ·exact ⟨g, hg, hi⟩
     ·exact ih hf
    ·exact ih hf
theorem kept_noN {e : Shp} {f : FE} : ∀ {ids : List Nat} {G : List FE}, f ∈ keptG e G ids → ∃ g ∈ G, g.id = f.id ∧ f.c = g.c := by
 intro ids G hf
 unfold keptG at hf
 split at hf
 ·exact ⟨f, hf, rfl, rfl⟩
 ·induction ids generalizing G with
  | nil => exact ⟨f, hf, rfl, rfl⟩
  | cons i l ih =>
    unfold frzIds at hf
    split at hf
    ·rename_i f0 hf0
     split at hf
     ·obtain ⟨g, hg, hi⟩ := ih hf
      rcases mem_replE hg with rfl | hg
      ·exact ⟨f0, (findE_mem hf0).1, hi.1, hi.2⟩
      ·exact ⟨g, hg, hi⟩
     ·exact ih hf
    ·exact ih hf
theorem lit_core (hh : Hp E ρ H G w) {n b m : Nat} {e : Shp} {cs : List SV} {te : TypeId} {d0 d : Dc (List e.D)} (hcs : cellsE H b = some cs) (hte : tyE H b = some te) (hpos : 0 < e.size) (hm6 : m ≤ 1000000) (hlen : cs.length = m * e.size)
    (hd0 : decN (fun l => dec H G e l) m cs = some d0) (hd : decN (fun l => dec (lessE H [b]) (keptG e (deadB b :: G) d0.ids) e l) m cs = some d) (hbs : d.bs = []) (hsh : (flat e || allSh (keptG e (deadB b :: G) d0.ids) d.ids) = true) (ho : ∀ p ∈ d.ob, p ()) (hfr : Fresh E n H G) :
    ∃ ρ', Hp E ρ' (lessE H [b]) (⟨n, true, te, (match flat e with | true => [] | false => alsOf (keptG e (deadB b :: G) d0.ids) d.ids), .rows e d.x⟩ :: keptG e (deadB b :: G) d0.ids) w ∧ (∀ ρ'', Agr ρ' ρ'' (lessE H [b]) (⟨n, true, te, (match flat e with | true => [] | false => alsOf (keptG e (deadB b :: G) d0.ids) d.ids), .rows e d.x⟩ :: keptG e (deadB b :: G) d0.ids) → Agr ρ ρ'' H G ∧ (SV.fv n).den ρ'' = (SV.osl b 0 m m).den ρ) ∧ Ext1 ρ H G ρ' (lessE H [b]) (⟨n, true, te, (match flat e with | true => [] | false => alsOf (keptG e (deadB b :: G) d0.ids) d.ids), .rows e d.x⟩ :: keptG e (deadB b :: G) d0.ids) (.one b) ∧ (∀ f ∈ G, ¬ f.foot ρ (ρ.b b)) := by
 obtain ⟨e0, he0, hid0, hce0, hty0⟩ := tyE_cells hcs hte
 obtain ⟨k1, k2⟩ := hh.drop b
 obtain ⟨kh, ka⟩ := kept_sound k1 e d0.ids
 obtain ⟨used, h4, h5, h6, h7⟩ := decN_sound (sz := e.size) (fun Z a vs h => Shp.rep_length e a vs h) (fun l d h ho => dec_sound kh e l d h ho) m _ _ hd ho
 have hrest : d.rest = [] := by
  have := congrArg List.length h4
  rw [List.length_append, hlen, h6] at this
  exact List.eq_nil_of_length_eq_zero (by omega)
 rw [hrest, List.append_nil] at h4
 rw [← h4] at h7
 have hblk := hh.block ρ (Agr.refl _ _ _) e0 he0
 rw [hid0, hce0, hty0] at hblk
 have hbase := hh.base e0 he0
 rw [hid0] at hbase
 have hnb : n ≠ b := fun h => hfr.H e0 he0 (by rw [hid0, h])
 have hapG : ∀ g ∈ keptG e (deadB b :: G) d0.ids, ¬ g.foot ρ (ρ.b b) := by
  intro g hg hk
  obtain ⟨g', hg', _, hk'⟩ := kept_foot hg hk
  rcases List.mem_cons.1 hg' with rfl | hg'
  ·unfold FE.foot deadB at hk'; exact hk'
  ·rw [← hid0] at hk'; exact hh.apart e0 he0 g' hg' hk'
 have hfr2 : Fresh E n (lessE H [b]) (keptG e (deadB b :: G) d0.ids) := ⟨hfr.lo, hfr.hi, fun e he => hfr.H e (lessE_mem he), fun g hg => by
  obtain ⟨g', hg', hi⟩ := kept_ids hg
  rw [← hi]
  rcases List.mem_cons.1 hg' with rfl | hg'
  ·exact Ne.symm hnb
  ·exact hfr.G g' hg', fun g hg => by
  obtain ⟨g', hg', _, hi⟩ := kept_noN hg
  rw [hi]
  rcases List.mem_cons.1 hg' with rfl | hg'
  ·rfl
  ·exact hfr.N g' hg'⟩
 obtain ⟨al, hal⟩ : ∃ al, al = (match flat e with | true => [] | false => alsOf (keptG e (deadB b :: G) d0.ids) d.ids) := ⟨_, rfl⟩
 rw [← hal]
 obtain ⟨Z, hzok, hzb, hzr⟩ : ∃ Z : Nat → Prop, Zok E ρ (lessE H [b]) (keptG e (deadB b :: G) d0.ids) w al Z ∧ ¬ Z (ρ.b b) ∧ ∀ i (h : i < (d.x ()).length), Shp.rep w Z e (d.x ())[i] (chunk (SV.dens ρ cs) i e.size) := by
  cases hfl : flat e with
  | true =>
    refine ⟨fun _ => False, ⟨fun k hk => hk.elim, fun e he hk => hk.elim, fun g hg k hk hk2 => hk2.elim, fun k hk => hk.elim⟩, fun h => h, fun i hi => ?_⟩
    exact flat_rep e _ _ hfl (h7 (DFoot ρ (keptG e (deadB b :: G) d0.ids) d.ids d.bs) (fun _ h => h) i hi)
  | false =>
    rw [hfl] at hsh hal
    simp only [Bool.false_or] at hsh
    subst hal
    refine ⟨_, zok_ids kh hsh, ?_, fun i hi => h7 _ (by rw [hbs]; exact fun _ h => h) i hi⟩
    rintro (⟨id, _, f, hf, hk⟩ | ⟨b', hb', _⟩)
    ·exact hapG f (findE_mem hf).1 hk
    ·cases hb'
 have hsn : (ρ.setS n ⟨some ⟨ρ.b b, 0, none⟩, m, m⟩ Z).s n = ⟨some ⟨ρ.b b, 0, none⟩, m, m⟩ := by simp [Nm.setS]
 have hzn : (ρ.setS n ⟨some ⟨ρ.b b, 0, none⟩, m, m⟩ Z).z n = Z := by simp [Nm.setS]
 have htop : ∀ k, (⟨n, true, te, al, .rows e d.x⟩ : FE).top (ρ.setS n ⟨some ⟨ρ.b b, 0, none⟩, m, m⟩ Z) k → k = ρ.b b := by
  rintro k ⟨x, hx, rfl⟩
  rw [show (⟨n, true, te, al, .rows e d.x⟩ : FE).id = n from rfl, hsn] at hx
  cases hx; rfl
 have hfo : ∀ k, (⟨n, true, te, al, .rows e d.x⟩ : FE).foot (ρ.setS n ⟨some ⟨ρ.b b, 0, none⟩, m, m⟩ Z) k → Z k ∨ k = ρ.b b := by
  intro k hk
  unfold FE.foot at hk
  simp only [hzn] at hk
  exact hk.imp id fun h => htop k h.2
 have hex : ∀ k, (⟨n, true, te, al, .rows e d.x⟩ : FE).excl (ρ.setS n ⟨some ⟨ρ.b b, 0, none⟩, m, m⟩ Z) k → k = ρ.b b := fun k hk => htop k hk.2
 obtain ⟨q1, q2⟩ := kh.add ⟨n, true, te, al, .rows e d.x⟩ hfr2 ⟨some ⟨ρ.b b, 0, none⟩, m, m⟩ Z (fun T => by simp) (by
  unfold FE.holds
  simp only [hzn, hsn]
  refine ⟨hzok.lt, ⟨h5.symm, by simp only [h5]; omega, by simp only; omega, by rw [h5]; omega⟩, ⟨SV.dens ρ cs, ⟨by rw [dens_length, hlen, h5], .inr ⟨ρ.b b, m, _, by rw [h5]; rfl, Nat.zero_le _, hblk, by rw [h5]; omega, by simp [maxLen]; omega, by simp [dens_length, hlen], ?_⟩⟩, hzr⟩, ?_⟩
  ·simp only [List.toList_toArray]
   exact List.take_of_length_le (by rw [dens_length, hlen, h5]; omega)
  ·intro x hx; cases hx; exact hzb)
  (fun e' x' he => by cases he; exact hpos)
  (fun e' he' hk => by
   rcases hfo _ hk with h | h
   ·exact hzok.H e' he' h
   ·rw [← hid0] at h
    exact lessE_ne he' ((hh.inj e' (lessE_mem he') e0 he0 h).trans hid0))
  (fun g hg k => ⟨fun hk hk2 => hapG g hg (by rw [← hex k hk]; exact hk2), fun hk hk2 => by
   rcases hfo k hk2 with h | h
   ·exact hzok.G g hg k hk h
   ·exact hapG g hg (by rw [← h]; exact FE.excl_foot hk)⟩)
  (fun k hk => .inr (by rw [hex k hk]; exact hbase))
  (fun k hk => by
   rcases hfo k hk with h | h
   ·exact hzok.al k h
   ·exact .inl (by rw [h]; exact hbase))
 refine ⟨_, q1, fun ρ'' hr => ?_, ?_⟩
 ·obtain ⟨a1, a2⟩ := q2 ρ'' hr
  exact ⟨k2 _ (ka _ a1), by simp only [SV.den]; rw [show ρ''.s n = _ from a2]; rfl⟩
 ·obtain ⟨a1, _⟩ := q2 _ (Agr.refl _ _ _)
  have a2 := k2 _ (ka _ a1)
  refine ⟨⟨fun e' he' hne => ⟨lessE_other he' (memN_one fun h => hne (by first | exact h | exact h.symm)), rfl, hh.cells_agree a2 he'⟩, fun id f hne hf => ?_⟩, fun g hg hk => by rw [← hid0] at hk; exact hh.apart e0 he0 g hg hk⟩
  have hidn : n ≠ id := fun h => hfr.G f (findE_mem hf).1 (by rw [(findE_mem hf).2, h])
  have hf2 : findE (deadB b :: G) id = some f := by
   rw [find_cons_ne (fun h : b = id => hne h)]; exact hf
  obtain ⟨f', r1, r2⟩ := find_kept e d0.ids _ id f hf2
  have hfid : f'.id ≠ n := by rw [(findE_mem r1).2]; exact Ne.symm hidn
  have hF : Fk ρ f ρ f' ∧ f'.c = f.c := by
   rcases r2 with rfl | rfl
   ·exact ⟨Fk.refl _ _, rfl⟩
   ·exact ⟨Fk.freeze _ _, rfl⟩
  exact ⟨f', by rw [find_cons_ne hidn]; exact r1, hF.2, hF.1.names (FE.foot_names rfl (by simp [Nm.setS, hfid]) (by simp [Nm.setS, hfid]))⟩
theorem lit_sound {S : TypeId → Option Shp} (hh : Hp E ρ H G w) {n b m : Nat} {obs : List (Unit → Prop)} {G' : List FE} (h : litE S H G n b m = some (obs, G')) (ho : ∀ p ∈ obs, p ()) (hfr : Fresh E n H G) :
    ∃ ρ', Hp E ρ' (lessE H [b]) G' w ∧ (∀ ρ'', Agr ρ' ρ'' (lessE H [b]) G' → Agr ρ ρ'' H G ∧ (SV.fv n).den ρ'' = (SV.osl b 0 m m).den ρ) ∧ Ext1 ρ H G ρ' (lessE H [b]) G' (.one b) ∧ (∀ f ∈ G, ¬ f.foot ρ (ρ.b b)) := by
 unfold litE at h
 split at h
 ·rename_i cs te hcs hte
  split at h
  ·rename_i e hS
   cases hq : (nBlt 0 e.size && nBle m 1000000 && nBeq (lenL cs) (m * e.size) && onceE H) with
   | false => rw [hq] at h; cases h
   | true =>
     rw [hq] at h
     simp only [] at h
     simp only [Bool.and_eq_true, nBlt_iff] at hq
     obtain ⟨⟨⟨hpos, hm6⟩, hlen⟩, honce⟩ := hq
     have hm6 := nBle_le hm6
     have hlen := nBeq_eq hlen
     rw [lenL_eq] at hlen
     split at h
     ·rename_i d0 hd0
      split at h
      ·rename_i d hd
       split at h
       ·rename_i hbs hsh
        cases h
        exact lit_core hh hcs hte hpos hm6 hlen hd0 hd hbs hsh ho hfr
       ·cases h
      ·cases h
     ·cases h
  ·cases h
 ·cases h
end lit
end
end Go.Proofs.YtkifmppmfkpfbaaGreat.V
