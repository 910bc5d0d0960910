/- The walker: choices that are drawn. -/
import Derived.Test.YtkeefgiajogkkaaVj
import Derived.Test.YtkeefgiajogkkaaCodes
set_option linter.unusedVariables false
set_option linter.unusedSimpArgs false
namespace Go.Proofs.Ytkeefgiajogkkaa.V
open Go.RowKit
def codesAt (T : TypeId) (G : List FE) : SV → Option Nat
 | .ptr i 0 => match findE G i with
   | some f => match f.c with
     | .codes (.cd T') => (match nBeq T' T with
       | true => some i
       | false => none)
     | _ => none
   | none => none
 | _ => none
def nones : List Shp → List (Option TypeId)
 | [] => []
 | _ :: az => none :: nones az
def aliveAll (G : List FE) : List Nat → Bool
 | [] => true
 | i :: l => aliveE G i && aliveAll G l
def drSpec (T : TypeId) (az rs : List Shp) (ros : List RO) (pre : Shp.Ds az → Prop) (post : Shp.Ds az → Shp.Ds rs → Prop) : Spec := fun lo hi id args s K =>
 match args with
 | [] => False
 | v :: rest => match codesAt T s.ents v with
   | none => False
   | some i => match decArgs s.heap s.ents az rest with
     | none => False
     | some d => match argIds s.heap s.ents az rest with
       | none => False
       | some per => aliveAll s.ents (allIds per) = true ∧ obsK d.ob (Ob (fun u => pre (d.x u)) (AllT (fun y => post (d.x ()) y ∧ Shp.lims rs y) fun y => match lfRsT [] [] (leavess rs fun _ => y) ros id with
         | some (vs, news) => match packR rs vs with
           | some us => freshL lo hi s.heap s.ents news = true ∧ K (tupR us) ⟨s.fr, s.n, s.heap, catE news s.ents, s.next⟩
           | none => False
         | none => False))
def isCodes (T : TypeId) (G : List FE) (i : Nat) : Bool := match findE G i with
 | some f => (match f.c with
   | .codes (.cd T') => nBeq T' T
   | _ => false)
 | none => false
def retPostD (T : TypeId) (j : Nat) (rs : List Shp) (ros : List RO) (post : Shp.Ds rs → Prop) (v : SV) (s : St) : Prop := isCodes T s.ents j = true ∧ retPostT rs ros [] [] post v (s.withE (killE s.ents [j]))
def vcWD (T : TypeId) (C : Cx) (fn : Func) (az rs : List Shp) (ros : List RO) (x : Shp.Ds az) (post : Shp.Ds rs → Prop) : Prop :=
 match svArgsT az (nones az) (fun _ => x) 1 with
 | some (svs, ents) => freshL C.lo C.hi [] [] ents = true ∧ vcFL C fn (.ptr C.hi 0 :: svs) [] (⟨C.hi, false, 0, [0], .codes (.cd T)⟩ :: ents) 1000 (holK C (retPostD T C.hi rs ros post))
 | none => False
theorem codesAt_spec {T : TypeId} {G : List FE} {v : SV} {i : Nat} (h : codesAt T G v = some i) : v = .ptr i 0 ∧ ∃ f, findE G i = some f ∧ f.c = .codes (.cd T) := by
 unfold codesAt at h
 split at h
 ·split at h
  ·rename_i f hf
   split at h
   ·rename_i T' hc
    cases hq : nBeq T' T with
    | false => rw [hq] at h; cases h
    | true =>
      rw [hq] at h
      cases h
      exact ⟨rfl, f, hf, by rw [hc, nBeq_eq hq]⟩
   ·cases h
  ·cases h
 ·cases h
theorem isCodes_spec {T : TypeId} {G : List FE} {i : Nat} (h : isCodes T G i = true) : ∃ f, findE G i = some f ∧ f.c = .codes (.cd T) := by
 unfold isCodes at h
 split at h
 ·rename_i f hf
  split at h
  ·rename_i T' hc
   exact ⟨f, hf, by rw [hc, nBeq_eq h]⟩
  ·cases h
 ·cases h
theorem mem_aliveAll {G : List FE} : ∀ {l : List Nat}, aliveAll G l = true → ∀ i ∈ l, aliveE G i = true
 | [], _, i, h => by cases h
 | x :: l, h, i, hi => by
   simp only [aliveAll, Bool.and_eq_true] at h
   rcases List.mem_cons.1 hi with rfl | hi
   ·exact h.1
   ·exact mem_aliveAll h.2 i hi
theorem tkIds_nones : ∀ (az : List Shp) (per : List (List Nat × List Nat)), tkIds (nones az) per = []
 | [], _ => by unfold tkIds; split <;> first | rfl | (simp [nones] at *)
 | _ :: az, [] => rfl
 | _ :: az, _ :: per => by simp only [nones, tkIds]; exact tkIds_nones az per
theorem tkOk_nones {G : List FE} : ∀ (az : List Shp) (per : List (List Nat × List Nat)), per.length = az.length → tkOk G (nones az) per = true
 | [], [], _ => rfl
 | [], _ :: _, h => by simp at h
 | _ :: az, [], h => by simp at h
 | _ :: az, p :: per, h => by
   simp only [nones, tkOk, Bool.and_eq_true]
   refine ⟨?_, tkOk_nones az per (by simpa using h)⟩
   rw [tkIds_nones]
   generalize p.1 = l
   induction l with
   | nil => rfl
   | cons x l ih => simp only [apartN, memN, ih]; rfl
section draw
variable {E : Env} {ρ : Nm} {w : World} {H : List Ent} {G : List FE}
theorem argIds_bs : ∀ (az : List Shp) (l : List SV) (per : List (List Nat × List Nat)), argIds H G az l = some per → ∀ p ∈ per, ∀ b ∈ p.2, ∃ x ∈ H, x.id = b
 | [], l, per, hp, p, hm, b, hb => by
   simp only [argIds] at hp
   split at hp
   ·cases hp; cases hm
   ·cases hp
 | e :: az, l, per, hp, p, hm, b, hb => by
   simp only [argIds] at hp
   split at hp
   ·cases hp
   ·split at hp
    ·rename_i cs hcs
     split at hp
     ·rename_i d1 r2 hd1 h2
      cases hp
      rcases List.mem_cons.1 hm with rfl | hm
      ·exact dec_bs e cs d1 hd1 b hb
      ·exact argIds_bs az _ r2 h2 p hm b hb
     ·cases hp
    ·cases hp
theorem draw_hp (hE : E.ok) (hh : Hp E ρ H G w) {f : FE} (hf : f ∈ G) {T : TypeId} (hc : f.c = .codes (.cd T)) {w' : World} (hb : BelowX w.heap.size (fun k => k = ρ.b f.id) w w') (hcd : ∃ l, Cds T (ρ.b f.id) (ρ.s f.id).a (ρ.s f.id).n (ρ.s f.id).cap l w') :
    Hp E ρ H G w' ∧ ∀ g ∈ G, g ≠ f → ∀ k, g.foot ρ k → w'.heap[k]? = w.heap[k]? := by
 have hx : f.excl ρ (ρ.b f.id) := by unfold FE.excl; rw [hc]
 have oth : ∀ g ∈ G, g ≠ f → ∀ k, g.foot ρ k → w'.heap[k]? = w.heap[k]? := fun g hg hne k hk => hb.block k (hh.foot_lt hg hk) fun e0 => by
  rcases hh.sep hg f hf _ hx with h | h
  ·exact h (e0 ▸ hk)
  ·exact hne h.symm
 have hkeep : E.keep w' := hE.keepX w w' hh.keep ⟨hb.os, hb.tape, hb.output, hb.size, fun k hk hm => hb.block k (by have := hh.size; omega) fun e0 => by
  rcases hh.exB f hf _ hx with h | h
  ·exact hm (e0 ▸ h)
  ·omega⟩
 refine ⟨⟨hkeep, Nat.le_trans hh.size hb.size, hh.base, fun ρ' hr e he => (hb.block _ (hh.lt he) fun e0 => ?_).trans (hh.block ρ' hr e he), hh.inj, fun g hg => ?_, hh.pos, hh.apart, hh.alone, hh.exB, hh.al, hh.anc⟩, oth⟩
 ·exact hh.apart e he f hf (e0 ▸ FE.excl_foot hx)
 ·by_cases hgf : g = f
  ·subst hgf
   obtain ⟨l, hl⟩ := hcd
   have := hh.facts g hg
   unfold FE.holds at this ⊢
   rw [hc] at this ⊢
   obtain ⟨l0, _, hz⟩ := this
   exact ⟨l, hl, hz⟩
  ·exact FE.stable (hh.facts g hg) hb.size (oth g hg hgf)
def drawEnv (w : World) (p : Nat) (z0 : Nat → Nat → Prop) (lo hi : Nat) (ρ : Nm) : Env := ⟨BelowX w.heap.size (fun k => k = p) w, w.heap.size, fun k => k = p, z0, lo, hi, ρ, []⟩
theorem drawEnv_ok (w : World) (p : Nat) (z0 : Nat → Nat → Prop) (lo hi : Nat) (ρ : Nm) : (drawEnv w p z0 lo hi ρ).ok := ⟨fun w1 w2 h1 h2 => BelowX.trans h1 h2⟩
def Nm.asN (ρ : Nm) (j : Nat) (ρ0 : Nm) (i : Nat) : Nm := ⟨fun n => if n = j then ρ0.b i else ρ.b n, fun n => if n = j then ρ0.s i else ρ.s n, fun n => if n = j then ρ0.z i else ρ.z n⟩
theorem freshL_lt {lo hi : Nat} : ∀ {ents : List FE} {H : List Ent} {G : List FE}, freshL lo hi H G ents = true → ∀ f ∈ ents, f.id < hi
 | [], _, _, _, f, hf => by cases hf
 | g :: l, H, G, h, f, hf => by
   simp only [freshL, Bool.and_eq_true, nBlt_iff] at h
   rcases List.mem_cons.1 hf with rfl | hf
   ·exact h.1.1.1.1.2
   ·exact freshL_lt h.2 f hf
theorem hp_codes {z0 : Nat → Nat → Prop} {lo hi : Nat} {ρc : Nm} {ents : List FE} {ids bs : List Nat} (hh : Hp E ρ H G w) {f : FE} (hf : f ∈ G) {T : TypeId} (hc : f.c = .codes (.cd T)) (h : Hp (callEnvT w (fun k => k = ρ.b f.id) z0 lo hi ρ) ρc [] ents w)
    (hz0 : ∀ k, k < w.heap.size → z0 0 k) (hfr : freshL lo hi [] [] ents = true) (hids : aliveAll G ids = true) (hbs : ∀ b ∈ bs, ∃ x ∈ H, x.id = b) (he : ∀ g ∈ ents, (∀ k, g.foot ρc k → DFoot ρ G ids bs k) ∧ ∀ k, ¬ g.excl ρc k) (hno : ∀ g ∈ ents, ∀ T, g.c ≠ .codes T) :
    Hp (drawEnv w (ρ.b f.id) z0 lo hi (ρ.asN hi ρ f.id)) (ρc.asN hi ρ f.id) [] (⟨hi, false, 0, [0], .codes (.cd T)⟩ :: ents) w := by
 have hx : f.excl ρ (ρ.b f.id) := by unfold FE.excl; rw [hc]
 have ff := hh.facts f hf
 unfold FE.holds at ff
 rw [hc] at ff
 have nb : ∀ g ∈ ents, g.id ≠ hi := fun g hg => by have := freshL_lt hfr g hg; omega
 have fn : ∀ g ∈ ents, g.foot (ρc.asN hi ρ f.id) = g.foot ρc := fun g hg => FE.foot_names (by simp [Nm.asN, nb g hg]) (by simp [Nm.asN, nb g hg]) (by simp [Nm.asN, nb g hg])
 have xn : ∀ g ∈ ents, g.excl (ρc.asN hi ρ f.id) = g.excl ρc := fun g hg => FE.excl_names (by simp [Nm.asN, nb g hg]) (by simp [Nm.asN, nb g hg])
 have foot0 : ∀ k, (⟨hi, false, 0, [0], .codes (.cd T)⟩ : FE).foot (ρc.asN hi ρ f.id) k → f.foot ρ k := by
  intro k hk
  unfold FE.foot at hk ⊢
  simp only [Nm.asN, if_true] at hk
  rw [hc]
  exact hk
 refine ⟨BelowX.of (Below.refl _ _) _, Nat.le_refl _, fun e he => (by cases he), fun _ _ e he => (by cases he), fun e he => (by cases he), fun g hg => ?_, fun g hg => ?_, fun e he => (by cases he), List.pairwise_cons.2 ⟨fun g hg k => ⟨fun hxk hk => ?_, fun hxk => ?_⟩, ?_⟩, fun g hg k hk => ?_, fun g hg k hk => ?_, fun i hi' => ?_⟩
 ·rcases List.mem_cons.1 hg with rfl | hg
  ·unfold FE.holds
   simp only [Nm.asN, if_true]
   exact ff
  ·rw [FE.holds_names (ρ := ρc) (by simp [Nm.asN, nb g hg]) (by simp [Nm.asN, nb g hg]) (by simp [Nm.asN, nb g hg]) fun k hk => by
     rw [noN_of (hno g hg)] at hk
     cases hk]
   exact h.facts g hg
 ·rcases List.mem_cons.1 hg with rfl | hg
  ·intro e x he; cases he
  ·exact h.pos g hg
 ·unfold FE.excl at hxk
  simp only [Nm.asN, if_true] at hxk
  subst hxk
  rw [fn g hg] at hk
  rcases (he g hg).1 _ hk with ⟨i, hi, g', hg', hk'⟩ | ⟨b, hb, hk'⟩
  ·have ha := mem_aliveAll hids i hi
   unfold aliveE at ha
   rw [hg'] at ha
   rcases hh.sep (findE_mem hg').1 f hf _ hx with h | h
   ·exact h hk'
   ·subst h
    simp only [hc] at ha
    cases ha
  ·obtain ⟨x, hx', rfl⟩ := hbs b hb
   exact hh.apart x hx' f hf (hk' ▸ FE.excl_foot hx)
 ·rw [xn g hg] at hxk
  exact ((he g hg).2 k hxk).elim
 ·exact h.alone.imp_of_mem fun {g g'} hg hg' hs k => by rw [fn g hg, fn g' hg', xn g hg, xn g' hg']; exact hs k
 ·rcases List.mem_cons.1 hg with rfl | hg
  ·unfold FE.excl at hk
   simp only [Nm.asN, if_true] at hk
   exact .inl hk
  ·rw [xn g hg] at hk; exact h.exB g hg k hk
 ·rcases List.mem_cons.1 hg with rfl | hg
  ·exact .inr ⟨0, List.mem_singleton_self _, hz0 k (hh.foot_lt hf (foot0 k hk))⟩
  ·rw [fn g hg] at hk; exact h.al g hg k hk
 ·have := h.anc i hi'
  have e1 : ρc.b i = ρ.b i := this.1
  have e2 : ρc.s i = ρ.s i := this.2
  simp only [drawEnv, Nm.asN]
  split <;> simp [e1, e2]
theorem spec_of_vcD {P : Program} {C : Cx} {f : FuncId} {fn : Func} (hn : hasFn P f) (hfn : P.funcs[f]? = some fn) (hcalm : calmF fn = true) {T : TypeId} {az rs : List Shp} {ros : List RO} {pre : Shp.Ds az → Prop} {post : Shp.Ds az → Shp.Ds rs → Prop}
    (hC : ∀ E : Env, E.ok → E.lo = C.lo → E.hi = C.hi → C.ok P E) (h : ∀ x, Shp.lims az x → pre x → vcWD T C fn az rs ros x (post x)) {E : Env} (hE : E.ok) (hnp : ∀ s, ¬ C.x.pan s := by exact fun _ h => h) : SpecOk P E f (drSpec T az rs ros pre post) := by
 refine ⟨hn, ?_⟩
 intro lo hi id args s K hlo hhi hs ρ w hh hargs
 unfold drSpec at hs
 split at hs
 ·exact hs.elim
 rename_i v0 rest
 split at hs
 ·exact hs.elim
 rename_i i hi0
 obtain ⟨rfl, fc, hfc, hfcc⟩ := codesAt_spec hi0
 split at hs
 ·exact hs.elim
 rename_i d hd
 split at hs
 ·exact hs.elim
 rename_i per hper
 obtain ⟨hal, hs⟩ := hs
 obtain ⟨hob, hs⟩ := obsK_spec hs
 have hpre := hs.ob ()
 have hall := hs.k.all
 have hfcm := (findE_mem hfc).1
 have hfci := (findE_mem hfc).2
 have hv := h _ (decArgs_lims hh az rest d hd hob) hpre
 unfold vcWD at hv
 split at hv
 rotate_left
 ·exact hv.elim
 rename_i svs ents hsv
 obtain ⟨hfr, hv⟩ := hv
 obtain ⟨hperids, hperlen⟩ := argIds_dec az rest d per hd hper
 have hmay0 : ∀ k, ¬ mayOf ρ s.ents (tkIds (nones az) per) k := by
  rw [tkIds_nones]
  rintro k ⟨j, hj, _⟩
  cases hj
 obtain ⟨⟨ρc, c1, c2, c3⟩, hbsall⟩ := svArgsT_sound hh (fun k => k = ρ.b fc.id) (fun j k => k < w.heap.size) C.lo C.hi az (nones az) rest d 1 per svs ents hd hob hper (tkOk_nones az per hperlen) hsv hfr
  (fun j p hj k hk => DFoot.lt hh (argIds_bs az rest per hper p (List.mem_of_getElem? hj)) hk) (fun k hk => (hmay0 k hk).elim)
 have c1' := hp_codes (ids := allIds per) (bs := allBs per) hh hfcm hfcc c1 (fun k hk => hk) hfr hal hbsall (fun g hg => ⟨(c3 g hg).1, fun k hk => hmay0 k ((c3 g hg).2.1 k hk)⟩) (fun g hg => (c3 g hg).2.2)
 have hE1 := drawEnv_ok w (ρ.b fc.id) (fun j k => k < w.heap.size) C.lo C.hi (ρ.asN C.hi ρ fc.id)
 refine (calls_of_vcH (hC _ hE1 rfl rfl) hfn hcalm (.ptr C.hi 0 :: svs) (ρ := ρc.asN C.hi ρ fc.id) (H := []) (G := ⟨C.hi, false, 0, [0], .codes (.cd T)⟩ :: ents) (nx := 1000) (xs := (SV.dens ρ (.ptr i 0 :: rest)).toArray) (fun ρ' hr => ?_) w c1' hv ?_ rfl fun s ρ w' _ h => (hnp s h).elim)
 ·have h1 := (hr.2 _ List.mem_cons_self).1
  simp only [Nm.asN, if_true] at h1
  have h2 : Agr ρc ρ' [] ents := ⟨fun e he => (by cases he), fun g hg => by
   have hne : g.id ≠ C.hi := by have := freshL_lt hfr g hg; omega
   have := hr.2 g (List.mem_cons_of_mem _ hg)
   simpa [Nm.asN, hne] using this⟩
  simp only [SV.dens, SV.den, c2 ρ' h2, h1, hfci]
 intro v s1 ρ1 a1 w1 hf1 hinv hpost
 obtain ⟨hic, hpost⟩ := hpost
 obtain ⟨fd, hfd, hfdc⟩ := isCodes_spec hic
 have hcd : ∃ l, Cds T (ρ.b fc.id) (ρ.s fc.id).a (ρ.s fc.id).n (ρ.s fc.id).cap l w1 := by
  have h1 := hf1.hp.facts fd (findE_mem hfd).1
  have h2 := hf1.hp.anc C.hi (.inr (Nat.le_refl _))
  unfold FE.holds at h1
  rw [hfdc, (findE_mem hfd).2] at h1
  simp only [drawEnv, Nm.asN, if_true] at h2
  rw [h2.1, h2.2] at h1
  exact ⟨_, h1.choose_spec.1⟩
 have hbel : BelowX w.heap.size (fun k => k = ρ.b fc.id) w w1 := hf1.hp.keep
 obtain ⟨hh1, hoth⟩ := draw_hp hE hh hfcm hfcc hbel hcd
 have hk1 := (kill_sound [C.hi] s1.ents hf1.hp).1
 have hgone : ∀ g ∈ killE s1.ents [C.hi], ¬ g.foot ρ1 (ρ.b fc.id) := kill_may [C.hi] s1.ents hf1.hp ⟨C.hi, List.mem_singleton_self _, fd, hfd, by
  have h2 := hf1.hp.anc C.hi (.inr (Nat.le_refl _))
  simp only [drawEnv, Nm.asN, if_true] at h2
  unfold FE.excl
  rw [hfdc, (findE_mem hfd).2, h2.1]⟩
 have hp0 : Hp ⟨fun _ => True, w.heap.size, fun _ => False, fun j k => k < w.heap.size, C.lo, C.hi, ρ.asN C.hi ρ fc.id, []⟩ ρ1 s1.heap (killE s1.ents [C.hi]) w1 :=
  ⟨trivial, hk1.size, hk1.base, hk1.block, hk1.inj, hk1.facts, hk1.pos, hk1.apart, hk1.alone, fun g hg k hx => (hk1.exB g hg k hx).imp (fun e0 => hgone g hg (by rw [← show k = ρ.b fc.id from e0]; exact FE.excl_foot hx)) (fun h => h), hk1.al, hk1.anc⟩
 revert hpost
 simp only [St.withE]
 revert hp0
 generalize killE s1.ents [C.hi] = Gd
 intro hp0 hpost
 unfold retPostT at hpost
 split at hpost
 rotate_left
 ·exact hpost.elim
 rename_i l hl
 split at hpost
 rotate_left
 ·exact hpost.elim
 rename_i d1 cs hd1 hcs
 obtain ⟨hok, hpost⟩ := hpost
 simp only [Bool.and_eq_true] at hok
 obtain ⟨hok, hbs⟩ := hok
 obtain ⟨hob1, hfin⟩ := obsK_spec hpost
 have hbs : d1.bs = [] := by
  cases hb : d1.bs with
  | nil => rfl
  | cons _ _ => rw [hb] at hbs; cases hbs
 have hs2 := hall _ ⟨hfin.ok, decArgs_lims hp0 rs l d1 hd1 hob1⟩
 split at hs2
 rotate_left
 ·exact hs2.elim
 rename_i vs news hlf
 split at hs2
 rotate_left
 ·exact hs2.elim
 rename_i us hus
 obtain ⟨hfr2, hk⟩ := hs2
 have hlv := decArgs_leaves hp0 rs l cs d1 hd1 hcs hob1 hbs
 rw [← kindss_leaves rs (fun _ => d1.x ())] at hok
 have places : Places E ρ s.heap s.ents ⟨fun _ => True, w.heap.size, fun _ => False, fun j k => k < w.heap.size, C.lo, C.hi, ρ.asN C.hi ρ fc.id, []⟩ w1 [] [] [] [] (fun _ => False) (fun _ => False) (fun _ => False) :=
  ⟨hh.size, fun e he => ⟨hh.lt he, fun h => h, fun h => h⟩, fun g hg k hk => hh.foot_lt hg hk, fun g hg k => ⟨fun h => h.elim, fun _ h => h, fun _ h => h⟩, fun j hj => (by cases hj), fun j hj => (by cases hj), fun k h => h, fun k h => h.elim, fun k h => h.elim, fun k h => h.elim, fun k h => h.elim (fun h => h.elim) (fun h => h.elim)⟩
 obtain ⟨ρ', r1, r2, r3, r4⟩ := lfRsT_sound hlo hhi hp0 places hh1 _ cs ros [] id vs news hlf hlv hok hfr2
 have val : ∀ ρ'', Agr ρ' ρ'' s.heap (news ++ s.ents) → (tupR us).den ρ'' = v.den ρ1 := fun ρ'' hr => tupR_den hl (decArgs_length rs l d1 hd1) (packR_den hp0 rs l cs vs us d1 hd1 hob1 hcs (r2 ρ'' hr).2 hus)
 have r0 := (r2 ρ' (Agr.refl _ _ _)).1
 refine ⟨tupR us, _, ρ', by rw [val ρ' (Agr.refl _ _ _)], hk, by simp only [catE_eq]; exact r1, fun ρ'' hr => ?_, ?_⟩
 ·simp only [catE_eq] at hr
  exact ⟨(r2 ρ'' hr).1, by rw [val ρ'' hr, val ρ' (Agr.refl _ _ _)]⟩
 ·refine ⟨fun e he _ => ⟨he, r0.1 e he, hh.cells_agree r0 he⟩, fun id' f _ hf hali => ⟨f, ?_, rfl, (Fk.refl ρ f).names (FE.foot_names (r0.2 f (findE_mem hf).1).1 (r0.2 f (findE_mem hf).1).2 (r3 f (findE_mem hf).1)), fun k hk => hoth f (findE_mem hf).1 (fun e0 => ?_) k hk⟩⟩
  ·simp only [catE_eq]
   rw [find_append_ne fun g hg e0 => freshL_ne hfr2 g hg f (findE_mem hf).1 (by rw [e0, (findE_mem hf).2])]
   exact hf
  ·subst e0
   simp only [catE_eq] at hali
   unfold aliveE at hali
   rw [find_append_ne fun g hg e0 => freshL_ne hfr2 g hg f (findE_mem hf).1 (by rw [e0, (findE_mem hf).2]), hf] at hali
   simp only [hfcc] at hali
   cases hali
end draw
end Go.Proofs.Ytkeefgiajogkkaa.V
