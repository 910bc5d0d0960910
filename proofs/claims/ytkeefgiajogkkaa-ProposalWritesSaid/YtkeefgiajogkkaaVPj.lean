/- The walker: draws whose results may be parts of arguments. Contracts: proposals are spoilt. -/
import Derived.Test.YtkeefgiajogkkaaVPd
set_option linter.unusedVariables false
set_option linter.unusedSimpArgs false
namespace Go.Proofs.Ytkeefgiajogkkaa.V
open Go.RowKit
def drSpecI (T : TypeId) (az rs : List Shp) (ros : List RO) (ls : List Nat) (pre : Shp.Ds az → Prop) (post : Shp.Ds az → Shp.Ds rs → Prop) (lo hi id : Nat) (v : SV) (rest : List SV) (s : St) (K : SV → St → Prop) : Prop :=
 match codesAt T s.ents v with
 | none => False
 | some i => match decArgs s.heap s.ents az rest with
   | none => False
   | some d => match argIds s.heap s.ents az rest with
     | none => False
     | some per => (aliveAll s.ents (allIds per) && bsAt ls per 1 && allSh s.ents (idsAt ls per 1) && !memN 0 ls) = true ∧ obsK d.ob (Ob (fun u => pre (d.x u)) (AllT (fun y => post (d.x ()) y ∧ Shp.lims rs y) fun y => match lfRsT [] (alsOf s.ents (idsAt ls per 1)) (leavess rs fun _ => y) ros id with
       | some (vs, news) => match packR rs vs with
         | some us => freshL lo hi s.heap s.ents news = true ∧ K (tupR us) ⟨s.fr, s.n, s.heap, catE news s.ents, s.next⟩
         | none => False
       | none => False))
def drSpecL (T : TypeId) (az rs : List Shp) (ros : List RO) (ls : List Nat) (pre : Shp.Ds az → Prop) (post : Shp.Ds az → Shp.Ds rs → Prop) : Spec := fun lo hi id args s K =>
 match args with
 | [] => False
 | v :: rest => match argIds s.heap s.ents az rest with
   | some p => drSpecI T az rs ros ls pre post lo hi id v rest (s.withE (frzIds s.ents (idsAt ls p 1))) K
   | none => False
def retPostDL (T : TypeId) (j : Nat) (rs : List Shp) (ros : List RO) (ls : List Nat) (post : Shp.Ds rs → Prop) (v : SV) (s : St) : Prop := isCodes T s.ents j = true ∧ retPostT rs ros [] ls post v (s.withE (killE s.ents [j]))
def vcWDL (T : TypeId) (C : Cx) (fn : Func) (az rs : List Shp) (ros : List RO) (ls : List Nat) (x : Shp.Ds az) (post : Shp.Ds rs → Prop) : Prop :=
 match svArgsT az (nones az) (fun _ => x) 1 with
 | some (svs, ents) => freshL C.lo C.hi [] [] ents = true ∧ vcFL C fn (.ptr C.hi 0 :: svs) [] (⟨C.hi, false, 0, [0], .codes (.cd T)⟩ :: ents) 1000 (holK C (retPostDL T C.hi rs ros ls post))
 | none => False
section draw
variable {E : Env} {ρ : Nm} {w : World} {H : List Ent} {G : List FE}
theorem spec_of_vcDL {P : Program} {C : Cx} {f : FuncId} {fn : Func} (hn : hasFn P f) (hfn : P.funcs[f]? = some fn) (hcalm : calmF fn = true) {T : TypeId} {az rs : List Shp} {ros : List RO} {ls : List Nat} {pre : Shp.Ds az → Prop} {post : Shp.Ds az → Shp.Ds rs → Prop}
    (hC : ∀ E : Env, E.ok → E.lo = C.lo → E.hi = C.hi → C.ok P E) (h : ∀ x, Shp.lims az x → pre x → vcWDL T C fn az rs ros ls x (post x)) {E : Env} (hE : E.ok) (hnp : ∀ s, ¬ C.x.pan s := by exact fun _ h => h) : SpecOk P E f (drSpecL T az rs ros ls pre post) := by
 refine ⟨hn, ?_⟩
 intro lo hi id args s K hlo hhi hs ρ w hhG hargs
 unfold drSpecL at hs
 split at hs
 ·exact hs.elim
 rename_i v0 rest
 split at hs
 rotate_left
 ·exact hs.elim
 rename_i p0 hp0
 obtain ⟨hh, hagr0⟩ := frz_sound (idsAt ls p0 1) s.ents hhG
 have hfrm : ∀ g k, g ∈ frzIds s.ents (idsAt ls p0 1) → g.excl ρ k → g ∈ s.ents := fun g k hg hx => frz_mem _ _ hg hx
 have hfrf := fun i f hf => find_frz (idsAt ls p0 1) s.ents i f hf
 unfold drSpecI at hs
 simp only [St.withE] at hs
 revert hs hh hagr0 hfrm hfrf
 generalize frzIds s.ents (idsAt ls p0 1) = G0
 intro hs hh hagr0 hfrm hfrf
 split at hs
 ·exact hs.elim
 rename_i i hi0
 obtain ⟨rfl, fc, hfc, hfcc⟩ := codesAt_spec hi0
 split at hs
 ·exact hs.elim
 rename_i d hd
 split at hs
 ·exact hs.elim
 rename_i per hper
 obtain ⟨hchk, hs⟩ := hs
 simp only [Bool.and_eq_true, Bool.not_eq_true'] at hchk
 obtain ⟨⟨⟨hal, hbsA⟩, hsh⟩, hno0⟩ := hchk
 have hno0 : 0 ∉ ls := fun h => by rw [memN_mem.2 h] at hno0; cases hno0
 obtain ⟨hob, hs⟩ := obsK_spec hs
 have hpre := hs.ob ()
 have hall := hs.k.all
 have hfcm := (findE_mem hfc).1
 have hfci := (findE_mem hfc).2
 have hv := h _ (decArgs_lims hh az rest d hd hob) hpre
 unfold vcWDL at hv
 split at hv
 rotate_left
 ·exact hv.elim
 rename_i svs ents hsv
 obtain ⟨hfr, hv⟩ := hv
 obtain ⟨hperids, hperlen⟩ := argIds_dec az rest d per hd hper
 have hmay0 : ∀ k, ¬ mayOf ρ G0 (tkIds (nones az) per) k := by
  rw [tkIds_nones]
  rintro k ⟨j, hj, _⟩
  cases hj
 obtain ⟨z0, hz0⟩ : ∃ z0 : Nat → Nat → Prop, z0 = fun j k => (j = 0 ∧ k < w.heap.size) ∨ ∃ m p, j = 1 + m ∧ per[m]? = some p ∧ DFoot ρ G0 p.1 p.2 k := ⟨_, rfl⟩
 obtain ⟨⟨ρc, c1, c2, c3⟩, hbsall⟩ := svArgsT_sound hh (fun k => k = ρ.b fc.id) z0 C.lo C.hi az (nones az) rest d 1 per svs ents hd hob hper (tkOk_nones az per hperlen) hsv hfr
  (fun j p hj k hk => by rw [hz0]; exact .inr ⟨j, p, rfl, hj, hk⟩) (fun k hk => (hmay0 k hk).elim)
 have c1' := hp_codes (ids := allIds per) (bs := allBs per) hh hfcm hfcc c1 (fun k hk => by rw [hz0]; exact .inl ⟨rfl, hk⟩) hfr hal hbsall (fun g hg => ⟨(c3 g hg).1, fun k hk => hmay0 k ((c3 g hg).2.1 k hk)⟩) (fun g hg => (c3 g hg).2.2)
 have hE1 := drawEnv_ok w (ρ.b fc.id) z0 C.lo C.hi (ρ.asN C.hi ρ fc.id)
 refine (calls_of_vcH (hC _ hE1 rfl rfl) hfn hcalm (.ptr C.hi 0 :: svs) (ρ := ρc.asN C.hi ρ fc.id) (H := []) (G := ⟨C.hi, false, 0, [0], .codes (.cd T)⟩ :: ents) (nx := 1000) (xs := (SV.dens ρ (.ptr i 0 :: rest)).toArray) (fun ρ' hr => ?_) w c1' hv ?_ rfl fun s ρ w' _ h => (hnp s h).elim)
 ·have h1 := (hr.2 _ List.mem_cons_self).1
  simp only [Nm.asN, if_true] at h1
  have h2 : Agr ρc ρ' [] ents := ⟨fun e he => (by cases he), fun g hg => by
   have hne : g.id ≠ C.hi := by have := freshL_lt hfr g hg; omega
   have := hr.2 g (List.mem_cons_of_mem _ hg)
   simpa [Nm.asN, hne] using this⟩
  simp only [SV.dens, SV.den, c2 ρ' h2, h1, hfci]
 intro v s1 ρ1 a1 w1 hf1 hinv hpost
 obtain ⟨hic, hpost⟩ := hpost
 obtain ⟨fd, hfd, hfdc⟩ := isCodes_spec hic
 have hcd : ∃ l, Cds T (ρ.b fc.id) (ρ.s fc.id).a (ρ.s fc.id).n (ρ.s fc.id).cap l w1 := by
  have h1 := hf1.hp.facts fd (findE_mem hfd).1
  have h2 := hf1.hp.anc C.hi (.inr (Nat.le_refl _))
  unfold FE.holds at h1
  rw [hfdc, (findE_mem hfd).2] at h1
  simp only [drawEnv, Nm.asN, if_true] at h2
  rw [h2.1, h2.2] at h1
  exact ⟨_, h1.choose_spec.1⟩
 have hbel : BelowX w.heap.size (fun k => k = ρ.b fc.id) w w1 := hf1.hp.keep
 obtain ⟨hh1, hoth⟩ := draw_hp hE hh hfcm hfcc hbel hcd
 have hk1 := (kill_sound [C.hi] s1.ents hf1.hp).1
 have hgone : ∀ g ∈ killE s1.ents [C.hi], ¬ g.foot ρ1 (ρ.b fc.id) := kill_may [C.hi] s1.ents hf1.hp ⟨C.hi, List.mem_singleton_self _, fd, hfd, by
  have h2 := hf1.hp.anc C.hi (.inr (Nat.le_refl _))
  simp only [drawEnv, Nm.asN, if_true] at h2
  unfold FE.excl
  rw [hfdc, (findE_mem hfd).2, h2.1]⟩
 have hp0 : Hp ⟨fun _ => True, w.heap.size, fun _ => False, z0, C.lo, C.hi, ρ.asN C.hi ρ fc.id, []⟩ ρ1 s1.heap (killE s1.ents [C.hi]) w1 :=
  ⟨trivial, hk1.size, hk1.base, hk1.block, hk1.inj, hk1.facts, hk1.pos, hk1.apart, hk1.alone, fun g hg k hx => (hk1.exB g hg k hx).imp (fun e0 => hgone g hg (by rw [← show k = ρ.b fc.id from e0]; exact FE.excl_foot hx)) (fun h => h), hk1.al, hk1.anc⟩
 revert hpost
 simp only [St.withE]
 revert hp0
 generalize killE s1.ents [C.hi] = Gd
 intro hp0 hpost
 unfold retPostT at hpost
 split at hpost
 rotate_left
 ·exact hpost.elim
 rename_i l hl
 split at hpost
 rotate_left
 ·exact hpost.elim
 rename_i d1 cs hd1 hcs
 obtain ⟨hok, hpost⟩ := hpost
 simp only [Bool.and_eq_true] at hok
 obtain ⟨hok, hbs⟩ := hok
 obtain ⟨hob1, hfin⟩ := obsK_spec hpost
 have hbs : d1.bs = [] := by
  cases hb : d1.bs with
  | nil => rfl
  | cons _ _ => rw [hb] at hbs; cases hbs
 have hs2 := hall _ ⟨hfin.ok, decArgs_lims hp0 rs l d1 hd1 hob1⟩
 split at hs2
 rotate_left
 ·exact hs2.elim
 rename_i vs news hlf
 split at hs2
 rotate_left
 ·exact hs2.elim
 rename_i us hus
 obtain ⟨hfr2, hk⟩ := hs2
 have hlv := decArgs_leaves hp0 rs l cs d1 hd1 hcs hob1 hbs
 rw [← kindss_leaves rs (fun _ => d1.x ())] at hok
 have lfoot : ∀ k, (∃ j ∈ ls, z0 j k) → DFoot ρ G0 (idsAt ls per 1) [] k := by
  rintro k ⟨j, hj, hk⟩
  rw [hz0] at hk
  rcases hk with ⟨rfl, _⟩ | ⟨m, p, rfl, hp, hk⟩
  ·exact absurd hj hno0
  ·obtain ⟨h2, h3⟩ := ls_at (i := 1) (j := m) hj hp hbsA
   rcases hk with ⟨i, hi, f, hf, hk⟩ | ⟨b, hb, _⟩
   ·exact .inl ⟨i, h3 i hi, f, hf, hk⟩
   ·rw [h2] at hb; cases hb
 have hz := zok_ids hh hsh
 have places : Places E ρ s.heap G0 ⟨fun _ => True, w.heap.size, fun _ => False, z0, C.lo, C.hi, ρ.asN C.hi ρ fc.id, []⟩ w1 [] ls [] (alsOf G0 (idsAt ls per 1)) (fun _ => False) (fun _ => False) (fun k => ∃ j ∈ ls, z0 j k) :=
  ⟨hh.size, fun e he => ⟨hh.lt he, fun h => h, fun ht => hz.H e he (lfoot _ ht)⟩, fun g hg k hk => hh.foot_lt hg hk, fun g hg k => ⟨fun h => h.elim, fun _ h => h, fun hx ht => hz.G g hg k hx (lfoot k ht)⟩, fun j hj => (by cases hj), fun j hj k hk => ⟨j, hj, hk⟩, fun k h => h, fun k h => h.elim, fun k h => h.elim, fun k hk => hz.al k (lfoot k hk), fun k h => h.elim (fun h => h.elim) (fun hk => Nat.lt_of_lt_of_le (hz.lt k (lfoot k hk)) hbel.size)⟩
 obtain ⟨ρ', r1, r2, r3, r4⟩ := lfRsT_sound hlo hhi hp0 places hh1 _ cs ros [] id vs news hlf hlv hok hfr2
 have val : ∀ ρ'', Agr ρ' ρ'' s.heap (news ++ G0) → (tupR us).den ρ'' = v.den ρ1 := fun ρ'' hr => tupR_den hl (decArgs_length rs l d1 hd1) (packR_den hp0 rs l cs vs us d1 hd1 hob1 hcs (r2 ρ'' hr).2 hus)
 have r0 := (r2 ρ' (Agr.refl _ _ _)).1
 refine ⟨tupR us, _, ρ', by rw [val ρ' (Agr.refl _ _ _)], hk, by simp only [catE_eq]; exact r1, fun ρ'' hr => ?_, ?_⟩
 ·simp only [catE_eq] at hr
  exact ⟨hagr0 _ (r2 ρ'' hr).1, by rw [val ρ'' hr, val ρ' (Agr.refl _ _ _)]⟩
 ·have rG := hagr0 _ r0
  refine ⟨fun e he _ => ⟨he, r0.1 e he, hhG.cells_agree rG he⟩, fun id' f _ hf hali => ?_⟩
  simp only [catE_eq] at hali ⊢
  obtain ⟨f0, hf0, hf01⟩ := hfrf id' f hf
  have hfid : f0.id = id' := (findE_mem hf0).2
  have hfind : findE (news ++ G0) id' = some f0 := by
   rw [find_append_ne fun g hg e0 => freshL_ne hfr2 g hg f0 (findE_mem hf0).1 (by rw [e0, hfid])]
   exact hf0
  have hx : fc.excl ρ (ρ.b fc.id) := by unfold FE.excl; rw [hfcc]
  refine ⟨f0, hfind, ?_, ?_, fun k hk => ?_⟩
  ·rcases hf01 with rfl | rfl <;> rfl
  ·have hfk : Fk ρ f ρ f0 := by
     rcases hf01 with rfl | rfl
     ·exact Fk.refl _ _
     ·exact Fk.freeze _ _
   exact hfk.names (FE.foot_names (r0.2 f0 (findE_mem hf0).1).1 (r0.2 f0 (findE_mem hf0).1).2 (r3 f0 (findE_mem hf0).1))
  ·refine hbel.block k (hhG.foot_lt (findE_mem hf).1 hk) fun e0 => ?_
   rcases hhG.sep (findE_mem hf).1 fc (hfrm fc _ hfcm hx) _ hx with h | h
   ·exact h (e0 ▸ hk)
   ·subst h
    unfold aliveE at hali
    rw [hfind] at hali
    have : f0.c = fc.c := by rcases hf01 with rfl | rfl <;> rfl
    simp only [this, hfcc] at hali
    cases hali
end draw
set_option maxHeartbeats 8000000
set_option maxRecDepth 100000
structure SpG (n : Nat) (l : List PrT) : Prop where
 len : l.length ≤ 100
 tr : ∀ k, (l.getD k (0, 0, [], [], ())).2.2.2.1.length ≤ n
structure SpI (x y : List PrT) : Prop where
 ok : ∀ n, SpG n x → SpG (n + 1) y
theorem sp_up {n : Nat} {l : List PrT} (h : SpG n l) : SpG (n + 1) l := ⟨h.len, fun k => Nat.le_succ_of_le (h.tr k)⟩
theorem sp_nil (n : Nat) : SpG n [] := ⟨by simp, fun k => by simp⟩
theorem setAt_l {α : Type} (l : List α) (i : Int) (d : α) (f : α → α) : (setAt l i d f).length = l.length := by simp [setAt]
theorem sp_len {l : List PrT} {i : Int} {f : PrT → PrT} : (setAt l i (0, 0, [], [], ()) f).length = l.length := setAt_l _ _ _ _
theorem sp_at {n : Nat} {l : List PrT} {i : Int} {f : PrT → PrT} (h : SpG n l) (hf : ∀ q : PrT, q.2.2.2.1.length ≤ n → (f q).2.2.2.1.length ≤ n) : SpG n (setAt l i (0, 0, [], [], ()) f) := by
 refine ⟨by rw [setAt_l]; exact h.len, fun k => ?_⟩
 unfold setAt
 rw [List.getD_eq_getElem?_getD, List.getElem?_set]
 by_cases hk : i.toNat = k
 ·rw [if_pos hk]
  by_cases hl : i.toNat < l.length
  ·rw [if_pos hl]
   exact hf _ (h.tr _)
  ·rw [if_neg hl]
   exact Nat.zero_le _
 ·rw [if_neg hk, ← List.getD_eq_getElem?_getD]
  exact h.tr k
theorem sp_o1 {l : List PrT} (h : ∀ k, (l.getD k (0, 0, [], [], ())).2.2.2.1.length ≤ 1000) (k : Nat) : (0 + (l.getD k (0, 0, [], [], ())).2.2.2.1.length) * 24 ≤ 140737488355328 ∧ 0 + (l.getD k (0, 0, [], [], ())).2.2.2.1.length ≤ 140737488355328 := by
 have := h k
 omega
theorem sp_o2 {l : List PrT} (h : ∀ k, (l.getD k (0, 0, [], [], ())).2.2.2.1.length ≤ 1000) (k : Nat) : (0 + (l.getD k (0, 0, [], [], ())).2.2.2.1.length + (0 + 1)) * 24 ≤ 140737488355328 ∧ 0 + (l.getD k (0, 0, [], [], ())).2.2.2.1.length + (0 + 1) ≤ 140737488355328 := by
 have := h k
 omega
theorem sp_ts {n : Nat} {ts : List TrT} {i : Int} {f : TrT → TrT} (h : ts.length ≤ n) : (setAt ts i (0, 0, 0, ()) f).length ≤ n := by rw [setAt_l]; exact h
theorem sp_push {n : Nat} {ts : List TrT} {t : TrT} (h : ts.length ≤ n) : (ts ++ [t]).length ≤ n + 1 := by
 rw [List.length_append, List.length_cons, List.length_nil]
 omega
abbrev intS : Spec := drSpec 49 [] [.int .i64] [] (fun _ => True) (fun _ => i64Post)
abbrev spoS : Spec := drSpecL 49 [.sl prE] [.sl prE] [.sh] [1] (fun x => SpG 1000 x.1) (fun x y => SpI x.1 y.1)
def spoC_t : SpecT := nd0 22 (lf0 11 (nextS)) (nd0 28 (lf0 22 (bytesS)) (lf0 28 (intS)))
def spoC : Cx := ⟨tt, qt, bt, st, spoC_t, 0, 1000000000000000, fun _ => none, false, CxE.ho, []⟩
theorem spoC_si {E : Env} (h : E.ok) : SpecsOk Try.prog E (CxE.ho) spoC_t (fun _ => none) := ⟨(nd0_ok (lf0_ok (.inl (next_sp h))) (nd0_ok (lf0_ok (.inl (bytes_sp h))) (lf0_ok (.inl (int_sp h))))), noI_ok _ _ _⟩
theorem spoC_x {E : Env} (h : E.ok) : CxEOk Try.prog E (CxE.ho) := (fun {E} _ => CxE.ho_ok _ E) h
theorem spoC_cx (E : Env) (h : E.ok) (h1 : E.lo = 0) (h2 : E.hi = 1000000000000000) : Cx.ok spoC Try.prog E := ⟨tt_ok, qt_ok, bt_ok, spoC_si h, h, h1, h2, mixed_ok, spoC_x h⟩
theorem spoC_from (lo hi : Nat) (E : Env) (h : E.ok) (h1 : E.lo = lo) (h2 : E.hi = hi) : Cx.ok (Cx.from spoC lo hi) Try.prog E := ⟨tt_ok, qt_ok, bt_ok, spoC_si h, h, h1, h2, mixed_ok, spoC_x h⟩
theorem spo_fn : hasFn Try.prog 16 := ⟨_, Try.func16, by rfl, by rfl⟩
theorem spo_sp {E : Env} (hE : E.ok) : SpecOk Try.prog E 16 spoS := by
 refine spec_of_vcDL (C := spoC) spo_fn Try.func16 (by kernel_rfl) spoC_cx (fun x hl hx => ?_) hE
 obtain ⟨l, u⟩ := x
 have h0 := hx.len
 have h1 := hx.tr
 clear hx
 cbv
 (repeat' (first | ((with_reducible apply And.intro <;> intro h) <;> (first | with_reducible exact (tf h (by assumption)).elim | with_reducible exact (tf (by assumption) h).elim | cbv)) | ((with_reducible show JoinT (fun s K => vc _ (Code.region _ _ true) s K) _ _ _ _ _ _); (with_reducible apply JoinT.mg2); (focus (cbv; (repeat' (first | ((with_reducible apply And.intro <;> intro h) <;> (first | with_reducible exact (tf h (by assumption)).elim | with_reducible exact (tf (by assumption) h).elim | cbv)) | ((with_reducible first | refine Cb.mk ?_ | refine Lz.mk ?_ | refine JoinT.left ?_ | (apply AllT.mk; intro x hx)); cbv) | ((with_reducible refine Ob.mk (fun _ => ?_) ?_); rotate_left 1) | (with_reducible first | refine Mg.mk (Exists.intro ?_ (And.intro ?_ ?_)) | rfl | refine Fin.mk ?_ | exact True.intro | refine And.intro ?_ ?_))); (all_goals (try (have du : Unit := (); have dv : Unit := (); first | exact Goes.self (Ex2.mk ⟨dv, du, trivial, trivial, rfl⟩) | exact Goes.self (Ex2.mk ⟨x, du, hx, trivial, rfl⟩) | (rename_i xa hxa; exact Goes.self (Ex2.mk ⟨xa, x, hxa, hx, rfl⟩))))); (all_goals (fail_if_success (with_reducible first | show Goes _ _ _ _ | show (∃ _, unr _ _ _ _ _ _))))))) | ((with_reducible first | refine Cb.mk ?_ | refine Lz.mk ?_ | refine JoinT.left ?_ | (apply AllT.mk; intro x hx)); cbv) | ((with_reducible refine Ob.mk (fun _ => ?_) ?_); rotate_left 1) | (with_reducible first | refine Mg.mk (Exists.intro ?_ (And.intro ?_ ?_)) | rfl | refine Fin.mk ?_ | exact True.intro | refine And.intro ?_ ?_)))
 all_goals first | (with_reducible show (∃ _, unr _ _ _ _ _ _); skip) | (with_reducible show UnrI _ _ _ _ _; skip) | (with_reducible show Goes _ _ _ _; skip) | (with_reducible show JoinT _ _ _ _ _ _ _; skip) | (first | ((try dsimp only [Shp.D, Shp.Ds, Shp.dflt] at *); simp only [vem, veq, ne_eq, cmpI, arI, dvI, shI, SV.den, obLt, elemAt, obApp, partL, obPart, lowD, highD, mxOk, convL_self, zerosB, List.length_replicate, vln] at *; (try dsimp only [Shp.D, Shp.Ds, Shp.dflt, Shp.dflts] at *); done) | ((try dsimp only [Shp.D, Shp.Ds, Shp.dflt] at *); simp only [vem, veq, ne_eq, cmpI, arI, dvI, shI, SV.den, obLt, elemAt, obApp, partL, obPart, lowD, highD, mxOk, convL_self, zerosB, List.length_replicate, vln] at *; (try dsimp only [Shp.D, Shp.Ds, Shp.dflt, Shp.dflts] at *); omega) | (try ((try dsimp only [Shp.D, Shp.Ds, Shp.dflt] at *); simp only [vem, veq, ne_eq, cmpI, arI, dvI, shI, SV.den, obLt, elemAt, obApp, partL, obPart, lowD, highD, mxOk, convL_self, zerosB, List.length_replicate, vln] at *; (try dsimp only [Shp.D, Shp.Ds, Shp.dflt, Shp.dflts] at *))))
 all_goals (try simp only [List.nil_append])
 all_goals first
  | exact sp_o1 h1 _
  | exact sp_o2 h1 _
  | (rw [sp_len]; omega)
  | exact ⟨fun n hn => sp_up hn⟩
  | exact ⟨fun n hn => sp_nil _⟩
  | exact ⟨fun n hn => (sp_up (sp_at (sp_at hn (fun q hq => hn.tr _)) (fun q hq => hq)))⟩
  | exact ⟨fun n hn => (sp_up (sp_at (sp_at hn (fun q hq => hn.tr _)) (fun q hq => Nat.zero_le _)))⟩
  | exact ⟨fun n hn => (sp_up (sp_at hn (fun q hq => hn.tr _)))⟩
  | (refine ⟨fun n hn => sp_up (sp_at hn (fun q hq => ?_))⟩; dsimp only; rw [setAt_l]; exact hn.tr _)
  | exact ⟨fun n hn => sp_at (sp_up hn) (fun q hq => sp_push (hn.tr _))⟩
end Go.Proofs.Ytkeefgiajogkkaa.V
