import Derived.Test.YtkifmppmfkpfbaaGreatW07
import Derived.RangeFuncRecord
import Derived.WalkKit
import Derived.OrdersHeld
import Derived.OrdersIn
import Derived.Scope
import Derived.RangeFuncIn
set_option linter.unusedVariables false
set_option linter.unusedSimpArgs false
namespace Go.Proofs.YtkifmppmfkpfbaaGreat.V
open Go.RowKit
section
mutual
def Shp.eqD : (e : Shp) → e.D → e.D → Bool
 | .int _, a, b => intEq a b
 | .byte, a, b => byteEq a b
 | .bool, a, b => boolEq a b
 | .str, a, b => strEq a b
 | .sl _, _, _ => false
 | .st fs, a, b => Shp.eqDs fs a b
def Shp.eqDs : (fs : List Shp) → Shp.Ds fs → Shp.Ds fs → Bool
 | [], _, _ => true
 | f :: fs, a, b => Shp.eqD f a.1 b.1 && Shp.eqDs fs a.2 b.2
def intEq (a b : Int) : Bool := a == b
def byteEq (a b : UInt8) : Bool := a == b
def boolEq (a b : Bool) : Bool := a == b
def strEq (a b : ByteArray) : Bool := a.data.toList == b.data.toList
end
def lookO (ke ve : Shp) : List (Shp.D (.st [ke, ve])) → ke.D → Option ve.D
 | [], _ => none
 | p :: l, k => match Shp.eqD ke p.1 k with
   | true => some p.2.1
   | false => lookO ke ve l k
def lookD (ke ve : Shp) (l : List (Shp.D (.st [ke, ve]))) (k : ke.D) (z : ve.D) : ve.D := (lookO ke ve l k).getD z
def hasD (ke ve : Shp) (l : List (Shp.D (.st [ke, ve]))) (k : ke.D) : Bool := (lookO ke ve l k).isSome
structure KyOk (P : Program) (k : TypeId) (ke : Shp) : Prop where
 flat : flat ke = true
 chk : ∀ (w : World) (Z : Nat → Prop) (b : Bool) (x : ke.D) (cs : List Value), Shp.rep w Z ke x cs → (Instr.checkKey b 10000 k (ke.pk cs)).run P w = .ok () w
 find : ∀ (w : World) (Z : Nat → Prop) (x : ke.D) (cs : List Value) (ks : List ke.D) (es : List MapEntry), Shp.rep w Z ke x cs → All2 (fun e y => ∃ kc, Shp.rep w Z ke y kc ∧ e.key = ke.pk kc) es ks →
  ∃ r, (Instr.findKey k (ke.pk cs) es).run P w = .ok r w ∧ (match r with
    | none => ∀ y ∈ ks, Shp.eqD ke y x = false
    | some (i, v) => (∃ e, es[i]? = some e ∧ v = e.val) ∧ (∃ y, ks[i]? = some y ∧ Shp.eqD ke y x = true) ∧ ∀ j y, j < i → ks[j]? = some y → Shp.eqD ke y x = false)
theorem lookO_none {ke ve : Shp} {k : ke.D} : ∀ {l : List (Shp.D (.st [ke, ve]))}, (∀ p ∈ l, Shp.eqD ke p.1 k = false) → lookO ke ve l k = none
 | [], _ => rfl
 | p :: l, h => by
   simp only [lookO, h p List.mem_cons_self]
   exact lookO_none fun q hq => h q (List.mem_cons_of_mem _ hq)
theorem lookO_some {ke ve : Shp} {k : ke.D} : ∀ {l : List (Shp.D (.st [ke, ve]))} {i : Nat} {p : Shp.D (.st [ke, ve])}, l[i]? = some p → Shp.eqD ke p.1 k = true → (∀ j q, j < i → l[j]? = some q → Shp.eqD ke q.1 k = false) → lookO ke ve l k = some p.2.1
 | [], _, _, h, _, _ => by simp at h
 | q :: l, 0, p, h, hp, _ => by
   simp only [List.getElem?_cons_zero, Option.some.injEq] at h
   subst h
   simp only [lookO, hp]
 | q :: l, i + 1, p, h, hp, hj => by
   simp only [lookO, hj 0 q (by omega) rfl]
   exact lookO_some (by simpa using h) hp fun j y hlt hy => hj (j + 1) y (by omega) (by simpa using hy)
section run
variable {P : Program} {w : World}
theorem MpR.all2 {Z : Nat → Prop} {b : Nat} {ke ve : Shp} {xs : List (Shp.D (.st [ke, ve]))} {es : Array MapEntry} (hs : es.size = xs.length)
    (h : ∀ i (h : i < xs.length), ∃ (e : MapEntry) (kc vc : List Value), es[i]? = some e ∧ Shp.rep w Z ke xs[i].1 kc ∧ e.key = ke.pk kc ∧ Shp.rep w Z ve xs[i].2.1 vc ∧ e.val = ve.pk vc) :
    All2 (fun (e : MapEntry) (y : ke.D) => ∃ kc, Shp.rep w Z ke y kc ∧ e.key = ke.pk kc) es.toList (xs.map (·.1)) := by
 have key : ∀ (l : List MapEntry) (ys : List (Shp.D (.st [ke, ve]))), l.length = ys.length → (∀ i (h : i < ys.length), ∃ (e : MapEntry) (kc : List Value), l[i]? = some e ∧ Shp.rep w Z ke ys[i].1 kc ∧ e.key = ke.pk kc) → All2 (fun (e : MapEntry) (y : ke.D) => ∃ kc, Shp.rep w Z ke y kc ∧ e.key = ke.pk kc) l (ys.map (·.1)) := by
  intro l
  induction l with
  | nil =>
    intro ys hl _
    match ys, hl with
    | [], _ => trivial
  | cons e l ih =>
    intro ys hl hx
    match ys, hl with
    | y :: ys, hl =>
      refine ⟨?_, ih ys (by simpa using hl) fun i hi => ?_⟩
      ·obtain ⟨e', kc, h1, h2, h3⟩ := hx 0 (by simp)
       simp only [List.getElem?_cons_zero, Option.some.injEq] at h1
       subst h1
       exact ⟨kc, h2, h3⟩
      ·obtain ⟨e', kc, h1, h2, h3⟩ := hx (i + 1) (by simp; exact hi)
       exact ⟨e', kc, by simpa using h1, by simpa using h2, h3⟩
 refine key _ _ (by simpa using hs) fun i hi => ?_
 obtain ⟨e, kc, vc, a1, a2, a3, _⟩ := h i hi
 exact ⟨e, kc, by simpa using a1, a2, a3⟩
theorem run_look {Z : Nat → Prop} {b : Nat} {ke ve : Shp} {xs : List (Shp.D (.st [ke, ve]))} (h : MpR w Z b ke ve xs) {t k e : TypeId} (ht : P.underlying t = some (.map k e)) (hk : KyOk P k ke) {x : ke.D} {cs : List Value} (hx : Shp.rep w Z ke x cs)
    {z : Value} (hz : (zeroValue e).run P w = .ok z w) (c : Bool) :
    (lookO ke ve xs x = none ∧ (Instr.lookup t (.map (some b)) (ke.pk cs) c).run P w = .ok (if c = true then .tuple #[z, .bool false] else z) w) ∨
    ∃ y vc, lookO ke ve xs x = some y ∧ Shp.rep w Z ve y vc ∧ (Instr.lookup t (.map (some b)) (ke.pk cs) c).run P w = .ok (if c = true then .tuple #[ve.pk vc, .bool true] else ve.pk vc) w := by
 obtain ⟨es, clock, h1, h2, h3⟩ := h.ex
 obtain ⟨r, hr, hq⟩ := hk.find w Z x cs (xs.map (·.1)) es.toList hx (MpR.all2 (b := b) h2 h3)
 have hg : (getObj b).run P w = .ok (.map es clock) w := by simp [getObj, Sem.run, h1]
 cases r with
 | none =>
   left
   refine ⟨lookO_none fun p hp => hq p.1 (List.mem_map.2 ⟨p, hp, rfl⟩), ?_⟩
   simp only [Instr.lookup, Sem.run_bind, run_underlying ht, Result.andThen_ok, hg, Sem.run_pure, hk.chk w Z _ x cs hx, hr, hz]
 | some p =>
   obtain ⟨i, v⟩ := p
   obtain ⟨⟨e0, he0, rfl⟩, ⟨y, hy, hyx⟩, hj⟩ := hq
   right
   rw [List.getElem?_map] at hy
   cases hxi : xs[i]? with
   | none => rw [hxi] at hy; cases hy
   | some p =>
     rw [hxi] at hy
     simp only [Option.map_some, Option.some.injEq] at hy
     have hil : i < xs.length := (List.getElem?_eq_some_iff.1 hxi).1
     have hxe : xs[i] = p := (List.getElem?_eq_some_iff.1 hxi).2
     obtain ⟨e1, kc, vc, a1, a2, a3, a4, a5⟩ := h3 i hil
     rw [hxe] at a4
     refine ⟨p.2.1, vc, lookO_some hxi (by rw [hy]; exact hyx) fun j q hlt hqj => hj j q.1 hlt (by rw [List.getElem?_map, hqj]; rfl), a4, ?_⟩
     have : e1 = e0 := by
      rw [Array.getElem?_toList] at he0
      rw [a1] at he0
      exact Option.some.inj he0
     subst this
     simp only [Instr.lookup, Sem.run_bind, run_underlying ht, Result.andThen_ok, hg, Sem.run_pure, hk.chk w Z _ x cs hx, hr, a5]
theorem run_upd {Z : Nat → Prop} {b : Nat} {ke ve : Shp} {xs : List (Shp.D (.st [ke, ve]))} (h : MpR w Z b ke ve xs) {t k e : TypeId} (ht : P.underlying t = some (.map k e)) (hk : KyOk P k ke) {x : ke.D} {cs : List Value} (hx : Shp.rep w Z ke x cs) (hno : hasD ke ve xs x = false)
    (v : Value) : ∃ es clock, w.heap[b]? = some (.map es clock) ∧ (Instr.mapUpdate t (.map (some b)) (ke.pk cs) v).run P w = .ok () (w.putObj b (.map (es.push { key := ke.pk cs, val := v, born := clock }) (clock + 1))) := by
 obtain ⟨es, clock, h1, h2, h3⟩ := h.ex
 obtain ⟨r, hr, hq⟩ := hk.find w Z x cs (xs.map (·.1)) es.toList hx (MpR.all2 (b := b) h2 h3)
 have hg : (getObj b).run P w = .ok (.map es clock) w := by simp [getObj, Sem.run, h1]
 have hset : ∀ o, (setObj b o).run P w = .ok () (w.putObj b o) := fun o => by simp [setObj, Sem.run, h1, World.putObj]
 refine ⟨es, clock, h1, ?_⟩
 cases r with
 | none => simp only [Instr.mapUpdate, Sem.run_bind, run_underlying ht, Result.andThen_ok, hg, hk.chk w Z _ x cs hx, hr, hset]
 | some p =>
   exfalso
   obtain ⟨i, v⟩ := p
   obtain ⟨_, ⟨y, hy, hyx⟩, hj⟩ := hq
   rw [List.getElem?_map] at hy
   cases hxi : xs[i]? with
   | none => rw [hxi] at hy; cases hy
   | some p =>
     rw [hxi] at hy
     simp only [Option.map_some, Option.some.injEq] at hy
     have := lookO_some (ve := ve) hxi (by rw [hy]; exact hyx) fun j q hlt hqj => hj j q.1 hlt (by rw [List.getElem?_map, hqj]; rfl)
     unfold hasD at hno
     rw [this] at hno
     cases hno
end run
section obj
variable {E : Env} {ρ : Nm} {w : World} {H : List Ent} {G : List FE} {P : Program} {T : TT}
def Nm.setO (ρ : Nm) (n b : Nat) : Nm := ⟨fun i => if i = n then b else ρ.b i, ρ.s, fun i => if i = n then (fun _ => False) else ρ.z i⟩
theorem Hp.obj (hh : Hp E ρ H G w) (hE : E.ok) {f : FE} (hf : Fresh E f.id H G) (o : Obj) {T : CK} (hc : f.c = .codes T) (hold : f.holds (ρ.setO f.id w.heap.size) (w.alloc o)) :
    Hp E (ρ.setO f.id w.heap.size) H (f :: G) (w.alloc o) ∧ (∀ ρ'', Agr (ρ.setO f.id w.heap.size) ρ'' H (f :: G) → Agr ρ ρ'' H G ∧ ρ''.b f.id = w.heap.size) ∧ ∀ g ∈ G, (ρ.setO f.id w.heap.size).z g.id = ρ.z g.id := by
 have nb : ∀ g ∈ G, g.id ≠ f.id := hf.G
 have nH : ∀ e ∈ H, e.id ≠ f.id := hf.H
 have b1 : ∀ n, n ≠ f.id → (ρ.setO f.id w.heap.size).b n = ρ.b n ∧ (ρ.setO f.id w.heap.size).s n = ρ.s n ∧ (ρ.setO f.id w.heap.size).z n = ρ.z n := fun n hn => ⟨by simp [Nm.setO, hn], rfl, by simp [Nm.setO, hn]⟩
 have bi : (ρ.setO f.id w.heap.size).b f.id = w.heap.size ∧ (ρ.setO f.id w.heap.size).z f.id = fun _ => False := ⟨by simp [Nm.setO], by simp [Nm.setO]⟩
 generalize ρ.setO f.id w.heap.size = ρ1 at b1 bi hold
 have hb := (Below.refl w.heap.size w).alloc (Nat.le_refl _) o
 have h2 := hh.below hE hb
 have a0 : Agr ρ ρ1 H G := ⟨fun e he => (b1 _ (nH e he)).1, fun g hg => ⟨(b1 _ (nb g hg)).1, (b1 _ (nb g hg)).2.1⟩⟩
 have fn : ∀ g ∈ G, g.foot ρ1 = g.foot ρ := fun g hg => FE.foot_names (b1 _ (nb g hg)).1 (b1 _ (nb g hg)).2.1 (b1 _ (nb g hg)).2.2
 have xn : ∀ g ∈ G, g.excl ρ1 = g.excl ρ := fun g hg => FE.excl_names (b1 _ (nb g hg)).1 (b1 _ (nb g hg)).2.1
 have down : ∀ {ρ''}, Agr ρ1 ρ'' H (f :: G) → Agr ρ ρ'' H G := fun hr =>
  ⟨fun e he => (hr.1 e he).trans (a0.1 e he), fun g hg => ⟨(hr.2 g (List.mem_cons_of_mem _ hg)).1.trans (a0.2 g hg).1, (hr.2 g (List.mem_cons_of_mem _ hg)).2.trans (a0.2 g hg).2⟩⟩
 have foot0 : ∀ k, f.foot ρ1 k → k = w.heap.size := by
  intro k hk
  unfold FE.foot at hk
  rw [hc] at hk
  simp only [bi.1, bi.2] at hk
  exact hk.elim id False.elim
 have excl0 : ∀ k, f.excl ρ1 k → k = w.heap.size := fun k hk => foot0 k (FE.excl_foot hk)
 refine ⟨⟨h2.keep, h2.size, fun e he => by rw [a0.1 e he]; exact hh.base e he, fun ρ' hr e he => by rw [a0.1 e he]; exact h2.block ρ' (down hr) e he, fun e he e' he' heq => hh.inj e he e' he' (by rw [← a0.1 e he, ← a0.1 e' he']; exact heq), fun g hg => ?_, fun g hg => ?_, fun e he g hg hk => ?_, List.pairwise_cons.2 ⟨fun g hg k => ⟨fun hx hk => ?_, fun hx hk => ?_⟩, ?_⟩, fun g hg k hk => ?_, fun g hg k hk => ?_, fun j hj => ?_⟩, fun ρ'' hr => ⟨down hr, (hr.2 f List.mem_cons_self).1.trans bi.1⟩, fun g hg => (b1 _ (nb g hg)).2.2⟩
 ·rcases List.mem_cons.1 hg with rfl | hg
  ·exact hold
  ·rw [FE.holds_names (ρ := ρ) (a0.2 g hg).1 (a0.2 g hg).2 (b1 _ (nb g hg)).2.2 fun k hk => (b1 _ (hf.hx hg hk)).2.1]
   exact h2.facts g hg
 ·rcases List.mem_cons.1 hg with rfl | hg
  ·intro e x he; rw [hc] at he; cases he
  ·exact hh.pos g hg
 ·rw [a0.1 e he] at hk
  rcases List.mem_cons.1 hg with rfl | hg
  ·have := foot0 _ hk
   have := hh.lt he
   omega
  ·rw [fn g hg] at hk; exact hh.apart e he g hg hk
 ·have := excl0 k hx
  rw [fn g hg] at hk
  have := hh.foot_lt hg hk
  omega
 ·rw [xn g hg] at hx
  have := foot0 k hk
  have := hh.foot_lt hg (FE.excl_foot hx)
  omega
 ·exact hh.alone.imp_of_mem fun {g g'} hg hg' hs k => by rw [fn g hg, fn g' hg', xn g hg, xn g' hg']; exact hs k
 ·rcases List.mem_cons.1 hg with rfl | hg
  ·have := excl0 k hk
   have := hh.size
   exact .inr (by omega)
  ·rw [xn g hg] at hk; exact hh.exB g hg k hk
 ·rcases List.mem_cons.1 hg with rfl | hg
  ·have := foot0 k hk
   have := hh.size
   exact .inl (by omega)
  ·rw [fn g hg] at hk; exact hh.al g hg k hk
 ·have h1 := hh.anc j hj
  have hne : j ≠ f.id := by
   have := hf.lo
   have := hf.hi
   omega
  exact ⟨(b1 j hne).1.trans h1.1, (b1 j hne).2.1.trans h1.2⟩
theorem Hp.objset (hh : Hp E ρ H G w) (hE : E.ok) {f f' : FE} {T T' : CK} (hf : findE G f.id = some f) (hsole : soleE f.id G = true) (hc : f.c = .codes T) (hid : f'.id = f.id) (hc' : f'.c = .codes T') {Z' : Nat → Prop} (hzk : Zok E ρ H G w f'.al Z')
    (hal : ∀ j ∈ f.al, j ∈ f'.al) {w' : World} (hw : ∀ k, k ≠ ρ.b f.id → w'.heap[k]? = w.heap[k]?) (hbw : BelowX E.B E.may w w') (hold : f'.holds (ρ.setZ f.id Z') w') :
    Hp E (ρ.setZ f.id Z') H (replE G f') w' ∧ (∀ ρ'', Agr (ρ.setZ f.id Z') ρ'' H (replE G f') → Agr ρ ρ'' H G) ∧ ∀ g ∈ G, g.id ≠ f.id → (ρ.setZ f.id Z').z g.id = ρ.z g.id := by
 obtain ⟨hm, _⟩ := findE_mem hf
 have hz2 : (ρ.setZ f.id Z').z f.id = Z' := by simp [Nm.setZ]
 have hx : f.excl ρ (ρ.b f.id) := by unfold FE.excl; rw [hc]
 have foots : ∀ k, f'.foot (ρ.setZ f.id Z') k → k = ρ.b f.id ∨ Z' k := by
  intro k hk
  unfold FE.foot at hk
  rw [hc', hid, hz2] at hk
  exact hk
 have excls : ∀ k, f'.excl (ρ.setZ f.id Z') k → k = ρ.b f.id := by
  intro k hk
  unfold FE.excl at hk
  rw [hc', hid] at hk
  exact hk
 have fo : ∀ q : FE, q.id ≠ f.id → q.foot (ρ.setZ f.id Z') = q.foot ρ := fun q hq => FE.foot_names rfl rfl (by simp [Nm.setZ, hq])
 have ex : ∀ q : FE, q.excl (ρ.setZ f.id Z') = q.excl ρ := fun q => FE.excl_names rfl rfl
 have memr : ∀ q ∈ replE G f', q = f' ∨ (q ∈ G ∧ q.id ≠ f.id) := fun q hq => by
  have := mem_repl_sole (f := f') (by rw [hid]; exact hsole) hq
  rwa [hid] at this
 have sepf : ∀ q ∈ G, q.id ≠ f.id → ∀ k, q.foot ρ k → k ≠ ρ.b f.id := by
  rintro q hq hne k hk rfl
  rcases hh.sep hq f hm _ hx with h | h
  ·exact h hk
  ·exact hne (by rw [h])
 have down : ∀ {ρ''}, Agr (ρ.setZ f.id Z') ρ'' H (replE G f') → Agr ρ ρ'' H G := fun hr => ⟨hr.1, fun q hq => by
  obtain ⟨y', hy', e1⟩ := replE_ids (f := f') hq
  rw [← e1]
  exact hr.2 y' hy'⟩
 have hnz : ¬ Z' (ρ.b f.id) := fun h => hzk.G f hm _ hx h
 refine ⟨⟨hE.keepX _ _ hh.keep hbw, Nat.le_trans hh.size hbw.size, hh.base, ?_, hh.inj, ?_, ?_, ?_, ?_, ?_, ?_, hh.anc⟩, fun ρ'' hr => down hr, fun g _ hne => by simp [Nm.setZ, hne]⟩
 ·intro ρ' hr e he
  show w'.heap[ρ.b e.id]? = _
  rw [hw _ fun e1 => hh.apart e he f hm (by rw [e1]; exact FE.excl_foot hx)]
  exact hh.block ρ' (down hr) e he
 ·intro q hq
  rcases memr q hq with rfl | ⟨hq, hne⟩
  ·exact hold
  ·rw [FE.holds_names (ρ := ρ) (ρ' := ρ.setZ f.id Z') rfl rfl (by simp [Nm.setZ, hne]) fun _ _ => rfl]
   exact FE.stable (hh.facts q hq) hbw.size fun k hk => hw k (sepf q hq hne k hk)
 ·intro q hq e x he
  rcases memr q hq with rfl | ⟨hq, _⟩
  ·rw [hc'] at he; cases he
  ·exact hh.pos q hq e x he
 ·intro e he q hq
  rcases memr q hq with rfl | ⟨hq, hne⟩
  ·intro hk
   rcases foots _ hk with h | h
   ·exact hh.apart e he f hm (by show f.foot ρ (ρ.b e.id); rw [show ρ.b e.id = ρ.b f.id from h]; exact FE.excl_foot hx)
   ·exact hzk.H e he h
  ·rw [fo q hne]; exact hh.apart e he q hq
 ·refine repl_pair2 (R := fun a b => a ∈ G ∧ b ∈ G ∧ Sep ρ a b) (f0 := f) (by rw [hid]; exact hsole) (by rw [hid]; exact hf) (hh.alone.imp_of_mem fun ha hb h => ⟨ha, hb, h⟩) ?_ ?_ ?_
  ·rintro a b ha hb ⟨_, _, hs⟩ k
   rw [hid] at ha hb
   rw [fo a ha, fo b hb, ex a, ex b]
   exact hs k
  ·rintro b hb ⟨_, hbG, hs⟩ k
   rw [hid] at hb
   rw [fo b hb, ex b]
   refine ⟨fun hk => ?_, fun hk hk2 => ?_⟩
   ·rw [excls k hk]; exact (hs _).1 hx
   ·rcases foots k hk2 with h | h
    ·rw [h] at hk; exact (hs _).2 hk (FE.excl_foot hx)
    ·exact hzk.G b hbG k hk h
  ·rintro a ha ⟨haG, _, hs⟩ k
   rw [hid] at ha
   rw [fo a ha, ex a]
   refine ⟨fun hk hk2 => ?_, fun hk => ?_⟩
   ·rcases foots k hk2 with h | h
    ·rw [h] at hk; exact (hs _).1 hk (FE.excl_foot hx)
    ·exact hzk.G a haG k hk h
   ·rw [excls k hk]; exact (hs _).2 hx
 ·intro q hq k hk
  rcases memr q hq with rfl | ⟨hq, _⟩
  ·rw [excls k hk]; exact hh.exB f hm _ hx
  ·rw [ex q] at hk; exact hh.exB q hq k hk
 ·intro q hq k hk
  rcases memr q hq with rfl | ⟨hq, hne⟩
  ·rcases foots k hk with h | h
   ·rcases hh.al f hm k (h ▸ FE.excl_foot hx) with h1 | ⟨j, hj, h1⟩
    ·exact .inl h1
    ·exact .inr ⟨j, hal j hj, h1⟩
   ·exact hzk.al k h
  ·rw [fo q hne] at hk; exact hh.al q hq k hk
def eqB : Bool → Bool → Bool
 | true, true => true
 | false, false => true
 | _, _ => false
theorem eqB_eq {a b : Bool} (h : eqB a b = true) : a = b := by cases a <;> cases b <;> simp_all [eqB]
def argK : Shp → SV → Option (List SV)
 | .st _, .agg cs => some cs
 | .st _, _ => none
 | _, .agg _ => none
 | _, .tup _ => none
 | _, v => some [v]
def Shp.pkV : Shp → List SV → SV
 | .st _, cs => .agg cs
 | _, v :: _ => v
 | _, [] => .val undef
theorem argK_den {e : Shp} {v : SV} {cs : List SV} (h : argK e v = some cs) (ρ : Nm) : v.den ρ = e.pk (SV.dens ρ cs) := by
 cases e <;> cases v <;> simp only [argK, Option.some.injEq, reduceCtorEq] at h <;> subst h <;> rfl
theorem pkV_den (e : Shp) (cs : List SV) (ρ : Nm) : (e.pkV cs).den ρ = e.pk (SV.dens ρ cs) := by
 cases e <;> cases cs <;> rfl
def aggS : Shp → Bool
 | .st _ => true
 | _ => false
def mkM (T : TT) (ky S : TypeId → Option Shp) (G : List FE) (n : Nat) (t : TypeId) : Option (List FE) :=
 match TT.look T t with
 | some ⟨.map k e, _, _⟩ => match ky k, S e with
   | some ke, some ve => some (⟨n, false, 0, [], .codes (.mp ke ve (fun _ => []))⟩ :: G)
   | _, _ => none
 | _ => none
theorem mkM_sound {ky S : TypeId → Option Shp} (hE : E.ok) (hh : Hp E ρ H G w) {n : Nat} {t : TypeId} {G' : List FE} (h : mkM T ky S G n t = some G') (hfr : Fresh E n H G) :
    (Instr.makeMap t none).run P w = .ok (.map (some w.heap.size)) (w.alloc (.map #[] 0)) ∧ ∃ ρ', Hp E ρ' H G' (w.alloc (.map #[] 0)) ∧ (∀ ρ'', Agr ρ' ρ'' H G' → Agr ρ ρ'' H G ∧ (SV.mp n).den ρ'' = .map (some w.heap.size)) ∧ ∀ c, Ext ρ H G w ρ' H G' (w.alloc (.map #[] 0)) c := by
 refine ⟨by simp only [Instr.makeMap, Sem.run_bind, run_newObj_alloc, Result.andThen_ok, Sem.run_pure], ?_⟩
 unfold mkM at h
 split at h
 ·split at h
  ·rename_i ke ve _ _
   cases h
   obtain ⟨k1, k2, k3⟩ := hh.obj hE (f := ⟨n, false, 0, [], .codes (.mp ke ve (fun _ => []))⟩) hfr (.map #[] 0) rfl (by
    unfold FE.holds
    simp only
    refine ⟨fun k hk => ?_, ⟨#[], 0, ?_, rfl, fun i hi => by cases hi⟩⟩
    ·simp [Nm.setO] at hk
    ·simp only [Nm.setO, if_true]; exact World.alloc_heap_new w _)
   refine ⟨_, k1, fun ρ'' hr => ⟨(k2 ρ'' hr).1, by simp only [SV.den]; rw [(k2 ρ'' hr).2]⟩, fun c => ?_⟩
   have h0 := k2 _ (Agr.refl _ _ _)
   exact Ext.refl hh (fun f hf k hk => Below.heap_alloc w _ k (hh.foot_lt hf hk)) h0.1 (fun id f hf => ⟨by
    rw [find_cons_ne]
    ·exact hf
    ·intro e0
     exact hfr.G f (findE_mem hf).1 (by rw [(findE_mem hf).2]; exact e0.symm), k3 f (findE_mem hf).1⟩) c
  ·cases h
 ·cases h
theorem Hp.zokM (hh : Hp E ρ H G w) {f : FE} (hf : f ∈ G) {ke ve : Shp} {x : Unit → List (Shp.D (.st [ke, ve]))} (hc : f.c = .codes (.mp ke ve x)) : Zok E ρ H G w f.al (ρ.z f.id) := by
 have fz : ∀ k, ρ.z f.id k → f.foot ρ k := fun k hk => by unfold FE.foot; rw [hc]; exact .inr hk
 have hfa := hh.facts f hf
 unfold FE.holds at hfa
 rw [hc] at hfa
 refine ⟨fun k hk => (hfa.1 k hk).1, fun e he hk => hh.apart e he f hf (fz _ hk), fun g hg k hx hk => ?_, fun k hk => hh.al f hf k (fz k hk)⟩
 rcases hh.sep hf g hg k hx with h | h
 ·exact h (fz k hk)
 ·subst h
  unfold FE.excl at hx
  rw [hc] at hx
  exact (hfa.1 k hk).2 hx
def lookE (T : TT) (ky : TypeId → Option Shp) (G : List FE) (n : Nat) (t : TypeId) (m k : SV) (c : Bool) : Option (List (Unit → Prop) × SV × List FE) :=
 match m with
 | .mp id => match findE G id, TT.look T t with
   | some f, some ⟨.map kt et, _, _⟩ => match f.c, TT.look T et, ky kt with
     | .codes (.mp ke ve x), some j, some ke' => match shEq ke' ke && eqB j.sh.agg (aggS ve) with
       | true => match argK ke k with
         | some kcs => match dec [] [] ke kcs, dec [] [] ve j.zero with
           | some dk, some dz => match dk.rest, dz.rest, dk.bs, dz.bs with
             | [], [], [], [] => match lfVs f.al (leaves ve (fun u => lookD ke ve (x u) (dk.x u) (dz.x u))) n with
               | some (vs, news) => some (catP dk.ob dz.ob, (match c with | true => .tup [ve.pkV vs, .bool (.t fun u => hasD ke ve (x u) (dk.x u))] | false => ve.pkV vs), news)
               | none => none
             | _, _, _, _ => none
           | _, _ => none
         | none => none
       | false => none
     | _, _, _ => none
   | _, _ => none
 | _ => none
theorem dec_nil {e : Shp} {l : List SV} {d : Dc e.D} (h : dec [] [] e l = some d) (hr : d.rest = []) (hb : d.bs = []) (ho : ∀ p ∈ d.ob, p ()) (ρ : Nm) (w : World) (Z : Nat → Prop) : Shp.rep w Z e (d.x ()) (SV.dens ρ l) := by
 have h0 : Hp (⟨fun _ => True, 0, fun _ => True, fun _ _ => True, 0, 0, ρ, []⟩ : Env) ρ [] [] w :=
  ⟨trivial, Nat.zero_le _, (fun _ h => by cases h), (fun _ _ _ h => by cases h), (fun _ h => by cases h), (fun _ h => by cases h), (fun _ h => by cases h), (fun _ h => by cases h), List.Pairwise.nil, (fun _ h => by cases h), (fun _ h => by cases h), fun _ _ => ⟨rfl, rfl⟩⟩
 obtain ⟨used, hu, hrep⟩ := (dec_sound h0 e l d h ho).ex
 rw [hr, List.append_nil] at hu
 subst hu
 refine hrep Z fun k hk => ?_
 rw [hb] at hk
 rcases hk with ⟨i, _, f, hf, _⟩ | ⟨b, hb, _⟩
 ·cases hf
 ·cases hb
theorem TIOk.zeroPk {t : TypeId} {j : TI} (h : TIOk P t j) {e : Shp} (he : j.sh.agg = aggS e) (w : World) (ρ : Nm) : (Go.zeroValue t).run P w = .ok (e.pk (SV.dens ρ j.zero)) w := by
 obtain ⟨z, hz, hc⟩ := h.zeroValue w ρ
 have hk := h.zk
 rw [he] at hk
 have hz2 : (P.info? t).bind (fun j => j.zero) = some z := by
  obtain ⟨i, hi, _⟩ := h.info
  simp only [Go.zeroValue, typeInfo] at hz
  cases hiz : i.zero with
  | none => simp [hi, hiz, stuck, unsupported] at hz
  | some z' => simp [hi, hiz] at hz ⊢; exact hz
 obtain ⟨i, hi, hzi⟩ : ∃ i, P.info? t = some i ∧ i.zero = some z := by
  cases hi : P.info? t with
  | none => rw [hi] at hz2; cases hz2
  | some i => rw [hi] at hz2; exact ⟨i, rfl, hz2⟩
 rw [hi] at hk
 simp only [Option.bind_some, hzi, Option.map_some, Option.some.injEq] at hk
 rw [hz]
 congr 1
 cases e with
 | st fs =>
   cases z with
   | agg cs =>
     simp only [Value.cells] at hc
     simp only [Shp.pk, hc]
   | _ => simp [isAggV, aggS] at hk
 | _ =>
   cases z with
   | agg cs => simp [isAggV, aggS] at hk
   | _ =>
     simp only [Value.cells] at hc
     have := congrArg Array.toList hc
     simp only at this
     rw [← this]
     rfl
theorem look_sound (hT : TT.ok P T) {ky : TypeId → Option Shp} (hky : ∀ t e, ky t = some e → KyOk P t e) (hh : Hp E ρ H G w) {n : Nat} {t : TypeId} {m k : SV} {c : Bool} {obs : List (Unit → Prop)} {v : SV} {news : List FE} (h : lookE T ky G n t m k c = some (obs, v, news))
    (ho : ∀ p ∈ obs, p ()) (hfr : freshL E.lo E.hi H G news = true) :
    ∃ ρ', Hp E ρ' H (news ++ G) w ∧ (∀ g ∈ G, ρ'.z g.id = ρ.z g.id) ∧ ∀ ρ'', Agr ρ' ρ'' H (news ++ G) → Agr ρ ρ'' H G ∧ (Instr.lookup t (m.den ρ) (k.den ρ) c).run P w = .ok (v.den ρ'') w := by
 unfold lookE at h
 split at h
 ·rename_i id
  split at h
  ·rename_i f kt et sz z hf ht
   split at h
   ·rename_i ke ve x j ke' hc hj hke
    split at h
    ·rename_i hq
     simp only [Bool.and_eq_true] at hq
     have hkk := shEq_eq hq.1
     subst hkk
     have hag := eqB_eq hq.2
     split at h
     ·rename_i kcs hkcs
      split at h
      ·rename_i dk dz hdk hdz
       split at h
       ·rename_i hr1 hr2 hb1 hb2
        split at h
        ·rename_i vs news' hlf
         cases h
         obtain ⟨hm, hid⟩ := findE_mem hf
         have hfa := hh.facts f hm
         unfold FE.holds at hfa
         rw [hc] at hfa
         have ho1 : ∀ p ∈ dk.ob, p () := fun p hp => ho p (by rw [catP_eq]; exact List.mem_append_left _ hp)
         have ho2 : ∀ p ∈ dz.ob, p () := fun p hp => ho p (by rw [catP_eq]; exact List.mem_append_right _ hp)
         have hkx := dec_nil hdk hr1 hb1 ho1 ρ w (ρ.z f.id)
         have hzx := dec_nil hdz hr2 hb2 ho2 ρ w (ρ.z f.id)
         obtain ⟨d, hd, hs⟩ := (TT.look_ok hT ht).under
         cases d <;> simp [Sh.of] at hs
         obtain ⟨rfl, rfl⟩ := hs
         have hz0 := (TT.look_ok hT hj).zeroPk hag w ρ
         have hmd : (SV.mp id).den ρ = .map (some (ρ.b f.id)) := by simp only [SV.den, hid]
         have hkd := argK_den hkcs ρ
         obtain ⟨cs, hrep, hrun⟩ : ∃ cs, Shp.rep w (ρ.z f.id) ve (lookD ke' ve (x ()) (dk.x ()) (dz.x ())) cs ∧ (Instr.lookup t (.map (some (ρ.b f.id))) (ke'.pk (SV.dens ρ kcs)) c).run P w = .ok (if c = true then .tuple #[ve.pk cs, .bool (hasD ke' ve (x ()) (dk.x ()))] else ve.pk cs) w := by
          rcases run_look hfa.2 hd (hky _ _ hke) hkx hz0 c with ⟨h1, h2⟩ | ⟨y, vc, h1, h2, h3⟩
          ·refine ⟨SV.dens ρ j.zero, ?_, ?_⟩
           ·rw [show lookD ke' ve (x ()) (dk.x ()) (dz.x ()) = dz.x () from by unfold lookD; rw [h1]; rfl]
            exact hzx
           ·rw [h2]
            simp only [hasD, h1, Option.isSome_none]
          ·refine ⟨vc, ?_, ?_⟩
           ·rw [show lookD ke' ve (x ()) (dk.x ()) (dz.x ()) = y from by unfold lookD; rw [h1]; rfl]
            exact h2
           ·rw [h3]
            simp only [hasD, h1, Option.isSome_some]
         obtain ⟨⟨ρ', q1, q2, q3, q4⟩, _⟩ := lfVs_sound (leaves ve (fun u => lookD ke' ve (x u) (dk.x u) (dz.x u))) n vs news cs ρ hlf hh (hh.zokM hm hc) ((rep_leaves ve (fun u => lookD ke' ve (x u) (dk.x u) (dz.x u)) cs).1 hrep) hfr
         refine ⟨ρ', q1, q4, fun ρ'' hr => ⟨(q2 ρ'' hr).1, ?_⟩⟩
         rw [hmd, hkd, hrun]
         cases c with
         | true => simp only [if_true, SV.den, SV.dens, pkV_den, (q2 ρ'' hr).2, bden_t]
         | false => simp only [Bool.false_eq_true, if_false, pkV_den, (q2 ρ'' hr).2]
        ·cases h
       ·cases h
      ·cases h
     ·cases h
    ·cases h
   ·cases h
  ·cases h
 ·cases h
def updE (T : TT) (ky : TypeId → Option Shp) (H : List Ent) (G : List FE) (t : TypeId) (m k v : SV) : Option (List (Unit → Prop) × Nat × List FE) :=
 match m with
 | .mp id => match findE G id, TT.look T t with
   | some f0, some ⟨.map kt _, _, _⟩ => match f0.c, ky kt with
     | .codes (.mp ke0 ve0 _), some ke' => match argK ke0 k, argK ve0 v with
       | some kcs, some vcs => match dec [] [] ke0 kcs, dec H G ve0 vcs with
         | some dk0, some d0 => match findE (frzIds G d0.ids) id with
           | some f => match f.c with
             | .codes (.mp ke ve x) => match shEq ke' ke && soleE id (frzIds G d0.ids) && shEq ke0 ke && shEq ve0 ve with
               | true => match dec [] [] ke kcs, dec H (frzIds G d0.ids) ve vcs with
                 | some dk, some d => match dk.rest, dk.bs, d.rest, d.bs with
                   | [], [], [], [] => match allSh (frzIds G d0.ids) d.ids with
                     | true => some (catP ((fun u => hasD ke ve (x u) (dk.x u) = false) :: dk.ob) d.ob, id, replE (frzIds G d0.ids) ⟨f.id, f.own, f.t, catN f.al (alsOf (frzIds G d0.ids) d.ids), .codes (.mp ke ve (fun u => x u ++ [(dk.x u, (d.x u, ()))]))⟩)
                     | false => none
                   | _, _, _, _ => none
                 | _, _ => none
               | false => none
             | _ => none
           | none => none
         | _, _ => none
       | _, _ => none
     | _, _ => none
   | _, _ => none
 | _ => none
theorem below_putObj {B : Nat} {may : Nat → Prop} {w : World} {b : Nat} {o : Obj} (hb : may b ∨ B ≤ b) : BelowX B may w (w.putObj b o) :=
 ⟨rfl, rfl, rfl, by simp [World.putObj], fun k hk hm => World.putObj_heap_other fun e => by subst e; rcases hb with h | h; exact hm h; omega⟩
theorem upd_sound (hT : TT.ok P T) (hE : E.ok) {ky : TypeId → Option Shp} (hky : ∀ t e, ky t = some e → KyOk P t e) (hh : Hp E ρ H G w) {t : TypeId} {m k v : SV} {obs : List (Unit → Prop)} {id : Nat} {G' : List FE} (h : updE T ky H G t m k v = some (obs, id, G'))
    (ho : ∀ p ∈ obs, p ()) : ∃ w' ρ', (Instr.mapUpdate t (m.den ρ) (k.den ρ) (v.den ρ)).run P w = .ok () w' ∧ Hp E ρ' H G' w' ∧ (∀ ρ'', Agr ρ' ρ'' H G' → Agr ρ ρ'' H G) ∧ Ext ρ H G w ρ' H G' w' (.one id) := by
 unfold updE at h
 split at h
 ·rename_i id'
  split at h
  ·rename_i f0 kt et sz z hf0 ht
   split at h
   ·rename_i ke0 ve0 x0 ke' hc0 hke
    split at h
    ·rename_i kcs vcs hkcs hvcs
     split at h
     ·rename_i dk0 d0 hdk0 hd0
      split at h
      ·rename_i f hf
       split at h
       ·rename_i ke ve x hc
        split at h
        ·rename_i hq
         simp only [Bool.and_eq_true] at hq
         obtain ⟨⟨⟨q1, hsole⟩, q2⟩, q3⟩ := hq
         have q1 := shEq_eq q1
         have q2 := shEq_eq q2
         have q3 := shEq_eq q3
         subst q1 q2 q3
         split at h
         ·rename_i dk d hdk hd
          split at h
          ·rename_i r1 r2 r3 r4
           split at h
           ·rename_i hsh
            cases h
            obtain ⟨kh, ka⟩ := frz_sound d0.ids G hh
            obtain ⟨hm, hid⟩ := findE_mem hf
            have hno : hasD ke0 ve0 (x ()) (dk.x ()) = false := ho _ (by rw [catP_eq]; exact List.mem_append_left _ List.mem_cons_self)
            have ho1 : ∀ p ∈ dk.ob, p () := fun p hp => ho p (by rw [catP_eq]; exact List.mem_append_left _ (List.mem_cons_of_mem _ hp))
            have ho2 : ∀ p ∈ d.ob, p () := fun p hp => ho p (by rw [catP_eq]; exact List.mem_append_right _ hp)
            have hfa := kh.facts f hm
            unfold FE.holds at hfa
            rw [hc] at hfa
            have hkx := dec_nil hdk r1 r2 ho1 ρ w (ρ.z f.id)
            obtain ⟨dd, hdd, hs⟩ := (TT.look_ok hT ht).under
            cases dd <;> simp [Sh.of] at hs
            obtain ⟨rfl, rfl⟩ := hs
            obtain ⟨es, clock, hb, hrun⟩ := run_upd hfa.2 hdd (hky _ _ hke) hkx hno (ve0.pk (SV.dens ρ vcs))
            have hx : f.excl ρ (ρ.b f.id) := by unfold FE.excl; rw [hc]
            have hzi := zok_ids kh hsh
            have hzf := kh.zokM hm hc
            obtain ⟨used, hu, hrep⟩ := (dec_sound kh ve0 vcs d hd ho2).ex
            rw [r3, List.append_nil] at hu
            subst hu
            rw [r4] at hrep
            have hzk : Zok E ρ H (frzIds G d0.ids) w (catN f.al (alsOf (frzIds G d0.ids) d.ids)) (fun k => ρ.z f.id k ∨ DFoot ρ (frzIds G d0.ids) d.ids [] k) := ⟨fun k hk => hk.elim (hzf.lt k) (hzi.lt k), fun e he hk => hk.elim (hzf.H e he) (hzi.H e he), fun g hg k hx hk => hk.elim (hzf.G g hg k hx) (hzi.G g hg k hx), fun k hk => by
             rw [catN_eq]
             rcases hk with hk | hk
             ·rcases hzf.al k hk with h | ⟨q, hq, h⟩
              ·exact .inl h
              ·exact .inr ⟨q, List.mem_append_left _ hq, h⟩
             ·rcases hzi.al k hk with h | ⟨q, hq, h⟩
              ·exact .inl h
              ·exact .inr ⟨q, List.mem_append_right _ hq, h⟩⟩
            have hnz : ¬ (ρ.z f.id (ρ.b f.id) ∨ DFoot ρ (frzIds G d0.ids) d.ids [] (ρ.b f.id)) := fun h => hzk.G f hm _ hx h
            have hoth : ∀ k, k ≠ ρ.b f.id → (w.putObj (ρ.b f.id) (.map (es.push { key := ke0.pk (SV.dens ρ kcs), val := ve0.pk (SV.dens ρ vcs), born := clock }) (clock + 1))).heap[k]? = w.heap[k]? := fun k hk => World.putObj_heap_other hk
            have hsame : ∀ k, (ρ.z f.id k ∨ DFoot ρ (frzIds G d0.ids) d.ids [] k) → (w.putObj (ρ.b f.id) (.map (es.push { key := ke0.pk (SV.dens ρ kcs), val := ve0.pk (SV.dens ρ vcs), born := clock }) (clock + 1))).heap[k]? = w.heap[k]? := fun k hk => hoth k fun e => hnz (e ▸ hk)
            obtain ⟨k1, k2, k3⟩ := kh.objset hE (f := f) (f' := ⟨f.id, f.own, f.t, catN f.al (alsOf (frzIds G d0.ids) d.ids), .codes (.mp ke0 ve0 (fun u => x u ++ [(dk.x u, (d.x u, ()))]))⟩) (by rw [hid]; exact hf) (by rw [hid]; exact hsole) hc rfl rfl hzk (fun j hj => by rw [catN_eq]; exact List.mem_append_left _ hj) hoth (below_putObj (kh.exB f hm _ hx)) (by
             unfold FE.holds
             simp only [Nm.setZ, if_true]
             obtain ⟨es2, clock2, hb2, hs2, hx2⟩ := hfa.2.ex
             have hbb : (.map es clock : Obj) = .map es2 clock2 := by rw [hb] at hb2; exact Option.some.inj hb2
             cases hbb
             refine ⟨fun k hk => ⟨Nat.lt_of_lt_of_le (hzk.lt k hk) (by simp [World.putObj]), fun e => hnz (e ▸ hk)⟩, ⟨_, _, World.putObj_heap_same (Array.getElem?_eq_some_iff.1 hb).1, by simp [hs2], fun i hi => ?_⟩⟩
             by_cases hil : i < (x ()).length
             ·obtain ⟨e, kc, vc, a1, a2, a3, a4, a5⟩ := hx2 i hil
              have hget : (x () ++ [(dk.x (), (d.x (), ()))])[i] = (x ())[i] := List.getElem_append_left hil
              rw [hget]
              exact ⟨e, kc, vc, by rw [Array.getElem?_push, if_neg (by omega)]; exact a1, Shp.rep_mono (fun k hk => .inl hk) (fun k hk => hsame k (.inl hk)) ke0 _ _ a2, a3, Shp.rep_mono (fun k hk => .inl hk) (fun k hk => hsame k (.inl hk)) ve0 _ _ a4, a5⟩
             ·have hie : i = (x ()).length := by simp at hi; omega
              have hget : (x () ++ [(dk.x (), (d.x (), ()))])[i] = (dk.x (), (d.x (), ())) := by simp [hie]
              rw [hget]
              refine ⟨_, SV.dens ρ kcs, SV.dens ρ vcs, by rw [Array.getElem?_push, if_pos (by omega)], ?_, rfl, ?_, rfl⟩
              ·exact Shp.rep_mono (fun k hk => .inl hk) (fun k hk => hsame k (.inl hk)) ke0 _ _ hkx
              ·exact Shp.rep_mono (Z := fun k => ρ.z f.id k ∨ DFoot ρ (frzIds G d0.ids) d.ids [] k) (fun k hk => hk) hsame ve0 _ _ (hrep _ fun k hk => .inr hk))
            refine ⟨_, _, ?_, k1, fun ρ'' hr => ka ρ'' (k2 ρ'' hr), ⟨fun e he _ => ⟨he, rfl, hh.cells_agree (ka _ (k2 _ (Agr.refl _ _ _))) he⟩, fun id2 f1 hne hf1 hal => ?_⟩⟩
            ·rw [argK_den hkcs ρ, argK_den hvcs ρ]
             simp only [SV.den]
             rw [← hid]
             exact hrun
            ·have hne2 : id2 ≠ f.id := fun e1 => hne (by show id = id2; rw [e1, hid])
             obtain ⟨f2, p1, p2⟩ := find_frz d0.ids G id2 f1 hf1
             have hid2 : f2.id ≠ f.id := by rw [(findE_mem p1).2]; exact hne2
             refine ⟨f2, by rw [find_repl_ne (f := ⟨f.id, f.own, f.t, catN f.al (alsOf (frzIds G d0.ids) d.ids), .codes (.mp ke0 ve0 (fun u => x u ++ [(dk.x u, (d.x u, ()))]))⟩) (Ne.symm hne2)]; exact p1, ?_, ?_, ?_⟩
             ·rcases p2 with rfl | rfl <;> rfl
             ·have hfo : f2.foot (ρ.setZ f.id fun k => ρ.z f.id k ∨ DFoot ρ (frzIds G d0.ids) d.ids [] k) = f2.foot ρ := FE.foot_names rfl rfl (by simp [Nm.setZ, hid2])
              rcases p2 with rfl | rfl
              ·exact (Fk.refl ρ f2).names hfo
              ·exact (Fk.freeze ρ f1).names hfo
             ·intro q hq
              refine hoth q fun e => ?_
              obtain ⟨f3, p3, p4⟩ := find_frz d0.ids G _ f0 hf0
              rw [hf] at p3
              cases p3
              have hff : f.id = f0.id := by rcases p4 with rfl | rfl <;> rfl
              have hx0 : f0.excl ρ (ρ.b f.id) := by unfold FE.excl; rw [hc0, hff]
              rcases hh.sep (findE_mem hf1).1 f0 (findE_mem hf0).1 _ hx0 with h | h
              ·exact h (e ▸ hq)
              ·exact hne2 (by rw [← (findE_mem hf1).2, ← h, hff])
           ·cases h
          ·cases h
         ·cases h
        ·cases h
       ·cases h
      ·cases h
     ·cases h
    ·cases h
   ·cases h
  ·cases h
 ·cases h
end obj
end
section
def FW (r : Option Nat) : Fence := { Fence.wide with round := r }
abbrev Cwp (r : Option Nat) (P : Program) (c : Code) (Q : Exit → Act → World → Prop) (a : Act) (w : World) : Prop := c.wpIn (FW r) 0 P Q a w
abbrev Owp (r : Option Nat) (P : Program) (o : Oper) (a : Act) (w : World) (next : Act → World → Prop) (Q : Exit → Act → World → Prop) : Prop := o.wpIn (FW r) 0 P a w next Q
def nodefB (op : Op) : Bool := match op with
 | .defer _ => false
 | _ => true
theorem nodefB_ne {op : Op} (h : nodefB op = true) : ∀ c, op ≠ .defer c := by
 intro c e
 rw [e] at h
 cases h
section fw
variable {r : Option Nat} {P : Program} {Q : Exit → Act → World → Prop}
theorem cwp_none {c : Code} {a : Act} {w : World} : Cwp none P c Q a w ↔ c.wp P Q a w := wpIn_wide
theorem callsW {n : Nat} {f : FuncId} {args : Array Value} {w : World} {R : Ending → World → Prop} (h : Calls P f args w R) : CallsIn (FW r) n P f args w R := (callsIn_wide (n := n)).2 h
theorem callsW' {n : Nat} {f : FuncId} {args : Array Value} {w : World} {R : Ending → World → Prop} (h : CallsIn (FW r) n P f args w R) : Calls P f args w R := (callsIn_wide (n := n)).1 h
theorem depthW : ¬ ((FW r).depth.isSome = true) := by simp [FW, Fence.wide]
theorem owp_of {o : Oper} {a : Act} {w : World} {next : Act → World → Prop} (hd : nodefB o.op = true) (h : o.wp P a w next Q) : Owp r P o a w next Q := by
 refine ⟨fun f _ => trivial, ?_⟩
 rw [show (FW r).round = r from rfl, Oper.semAt_eq r a.eval o (nodefB_ne hd)]
 unfold Oper.wp at h
 generalize (execOp a.eval o).run P w = R at h ⊢
 cases R with
 | ok n w' =>
   cases n with
   | enter f args => exact ⟨fun h => absurd h depthW, callsW h⟩
   | row row args => exact ⟨fun h => absurd h depthW, fun c cs _ => by
       obtain ⟨v, w'', h1, h2⟩ := h c cs
       exact ⟨v, w'', h1, (stepsIn_wide (P := P)).2 h2⟩⟩
   | _ => first | exact h | exact h.elim
 | halt x w' => cases x <;> first | exact h | exact h.elim
def wpListR (r : Option Nat) (P : Program) (ops : Array Oper) (Q : Exit → Act → World → Prop) : List Oper → Act → World → Prop
 | [], a, w => Q .normal a w
 | o :: l, a, w => if Region.wanted o (yielded ops a.tmps) = true then Owp r P o a w (wpListR r P ops Q l) Q else wpListR r P ops Q l (a.put o.dst undef) w
theorem wpOps_of_list {ops : Array Oper} : ∀ (l pre : List Oper) (a : Act) (w : World), ops.toList = pre ++ l → wpListR r P ops Q l a w → wpOpsIn (FW r) 0 P ops Q (List.range' pre.length l.length) a w
 | [], pre, a, w, _, h => h
 | o :: l, pre, a, w, e, h => by
   have ih := fun a w => wpOps_of_list l (pre ++ [o]) a w (by rw [e]; simp)
   have ho : ops[pre.length]? = some o := by rw [← Array.getElem?_toList, e]; simp
   simp only [List.length_cons, List.range'_succ, wpOpsIn, ho]
   simp only [List.length_append, List.length_cons, List.length_nil, Nat.zero_add] at ih
   simp only [wpListR] at h
   split
   ·rename_i hw
    rw [if_pos hw] at h
    exact Oper.wpIn_mono (fun a w h => ih a w h) h
   ·rename_i hw
    rw [if_neg hw] at h
    exact ⟨fun _ _ => trivial, ih _ _ h⟩
theorem cwp_region_list {id : Nat} {ops : Array Oper} {a : Act} {w : World} (h : wpListR r P ops Q ops.toList a w) : Cwp r P (.region id ops false) Q a w := by
 refine wpIn_region ?_
 have := wpOps_of_list ops.toList [] a w rfl h
 rw [List.range_eq_range']
 simpa using this
def wpOpR (r : Option Nat) (P : Program) (ops : Array Oper) (Q : Exit → Act → World → Prop) (i : Nat) (K : Act → World → Prop) (a : Act) (w : World) : Prop :=
 match ops[i]? with
 | none => K a w
 | some o => if Region.wanted o (yielded ops a.tmps) = true then Owp r P o a w K Q else K (a.put o.dst undef) w
theorem wpOpR_mono {ops : Array Oper} {i : Nat} {a : Act} {w : World} {K K' : Act → World → Prop} (h : ∀ a w, K a w → K' a w) (hh : wpOpR r P ops Q i K a w) : wpOpR r P ops Q i K' a w := by
 unfold wpOpR at *
 split at hh
 ·exact h _ _ hh
 ·split
  ·rename_i hw
   rw [if_pos hw] at hh
   exact Oper.wpIn_mono h hh
  ·rename_i hw
   rw [if_neg hw] at hh
   exact h _ _ hh
theorem wpOpR_in {ops : Array Oper} {i : Nat} {a : Act} {w : World} {K : Act → World → Prop} (hh : wpOpR r P ops Q i K a w) : wpOpIn (FW r) 0 P ops Q i K a w := by
 unfold wpOpR at hh
 unfold wpOpIn
 cases ho : ops[i]? with
 | none => rw [ho] at hh; exact hh
 | some o =>
   rw [ho] at hh
   simp only at hh ⊢
   split
   ·rename_i hw
    rw [if_pos hw] at hh
    exact hh
   ·rename_i hw
    rw [if_neg hw] at hh
    exact ⟨fun _ _ => trivial, hh⟩
def wpHeld (r : Option Nat) (P : Program) (ops : Array Oper) (Q : Exit → Act → World → Prop) (S : World → Prop) : Nat → Array Bool → Act → World → Prop
 | 0, listed, a, w => Region.ready .any ops listed = [] ∧ Q .normal a w
 | n + 1, listed, a, w => (Region.ready .any ops listed = [] → Q .normal a w) ∧
   ∀ i ∈ Region.ready .any ops listed, wpOpR r P ops Q i (fun a' w' => S w' ∧ wpHeld r P ops Q S n (listed.setIfInBounds i true) a' w') a w
theorem wpHeld_any {ops : Array Oper} {S : World → Prop} : ∀ (n : Nat) (listed : Array Bool) (a : Act) (w : World), wpHeld r P ops Q S n listed a w → wpAnyIn (FW r) 0 P .any ops Q n listed a w
 | 0, _, _, _, h => h
 | n + 1, _, _, _, h => ⟨h.1, fun i hi => wpOpR_in (wpOpR_mono (fun a' w' h' => wpHeld_any n _ a' w' h'.2) (h.2 i hi))⟩
theorem cwp_region_held {id : Nat} {ops : Array Oper} {S : World → Prop} {a : Act} {w : World} (hm : P.follows .mixedOrders = true) (h : wpHeld r P ops Q S ops.size (Array.replicate ops.size false) a w.drew) : Cwp r P (.region id ops true) Q a w :=
 wpIn_region_any hm (wpHeld_any _ _ _ _ h)
theorem wpHeld_done {ops : Array Oper} {S : World → Prop} {listed : Array Bool} {a : Act} {w : World} (hr : Region.ready .any ops listed = []) (h : Q .normal a w) : ∀ n, wpHeld r P ops Q S n listed a w
 | 0 => ⟨hr, h⟩
 | _ + 1 => ⟨fun _ => h, fun i hi => by rw [hr] at hi; cases hi⟩
theorem YieldsIf.opR {ops : Array Oper} {S : World → Prop} {i : Nat} {o : Oper} {v : Value} {a : Act} (hd : nodefB o.op = true) (hi : ops[i]? = some o) (hy : YieldsIf P ops S o v a) {K : Act → World → Prop} {w : World} (hS : S w) (h : K (a.put o.dst v) w) : wpOpR r P ops Q i K a w := by
 unfold wpOpR
 simp only [hi]
 rcases hy with ⟨hw, hv⟩ | ⟨hw, rfl⟩
 ·rw [if_pos hw]
  refine owp_of hd ?_
  unfold Oper.wp
  rw [hv w hS]
  exact h
 ·rw [if_neg (by rw [hw]; exact Bool.false_ne_true)]
  exact h
theorem wpOpR_put {ops : Array Oper} {S : World → Prop} {j : Nat} {oi oj : Oper} {v : Value} (hdj : nodefB oj.op = true) (hj : ops[j]? = some oj) (hap : oi.apart ops oj = true)
    (hsi : ∀ cs b, oi.op ≠ .select cs b) (hsj : ∀ cs b, oj.op ≠ .select cs b) (hQ : ∀ c a w, Q (.panic c) (a.put oi.dst v) w → Q (.panic c) a w) {K : Act → World → Prop} {a : Act} {w : World}
    (hy : YieldsIf P ops S oi v a) (h : wpOpR r P ops Q j K (a.put oi.dst v) w) : wpOpR r P ops Q j (fun a' w' => YieldsIf P ops S oi v a' ∧ K (a'.put oi.dst v) w') a w := by
 obtain ⟨h1, h2, h3⟩ := Oper.apart_spec hap
 have keep : ∀ u, YieldsIf P ops S oi v (a.put oj.dst u) := fun u => hy.of_same (execOp_put oi hsi a oj.dst u h3) (wanted_put oi a oj.dst u h3)
 have on : ∀ {u w'}, K ((a.put oi.dst v).put oj.dst u) w' → YieldsIf P ops S oi v (a.put oj.dst u) ∧ K ((a.put oj.dst u).put oi.dst v) w' := fun {u w'} hk => ⟨keep u, by rw [← Act.put_comm a v u h2]; exact hk⟩
 unfold wpOpR at *
 simp only [hj] at *
 rw [wanted_put oj a oi.dst v h1] at h
 split
 ·rename_i hw
  rw [if_pos hw] at h
  refine ⟨fun _ _ => trivial, ?_⟩
  have h := h.2
  rw [Oper.semAt_eq _ _ oj (nodefB_ne hdj)] at h ⊢
  rw [execOp_put oj hsj a oi.dst v h1] at h
  generalize (execOp a.eval oj).run P w = R at h ⊢
  cases R with
  | ok n w' =>
    cases n with
    | value u => exact on h
    | skip => exact on h
    | defer d =>
      refine ⟨?_, ?_⟩
      ·exact (show YieldsIf P ops S oi v { a with defers := d :: a.defers } from hy.of_same rfl rfl).of_same (execOp_put oi hsi _ oj.dst undef h3) (wanted_put oi _ oj.dst undef h3)
      ·rw [← Act.put_comm _ v undef h2, ← Act.put_defers]
       exact h
    | enter f args =>
      refine ⟨h.1, CallsIn.mono h.2 fun e w'' he => ?_⟩
      cases e with
      | returned u => exact on he
      | panicked c => exact hQ _ _ _ he
      | outgrown => exact he
    | row row args => exact ⟨h.1, RowsIn.mono h.2 fun u w'' he => on he⟩
    | round l f tmps assign body =>
      refine ⟨h.1, RoundIn.mono h.2 fun e w'' he => ?_⟩
      cases e with
      | returned u => exact on he
      | panicked c => exact hQ _ _ _ he
      | outgrown => exact he
    | _ => exact h.elim
  | halt x w' =>
    cases x with
    | panic u => exact hQ _ _ _ h
    | _ => exact h.elim
 ·rename_i hw
  rw [if_neg hw] at h
  exact on h
def nodefs (ops : Array Oper) : Bool := ops.all fun o => nodefB o.op
theorem nodefs_at {ops : Array Oper} (h : nodefs ops = true) {i : Nat} {o : Oper} (hi : ops[i]? = some o) : nodefB o.op = true :=
 Array.all_eq_true_iff_forall_mem.1 h o (Array.mem_of_getElem? hi)
theorem wpHeld_first {ops : Array Oper} {S : World → Prop} (hnd : nodefs ops = true) {i : Nat} {oi : Oper} {v : Value} (hi : ops[i]? = some oi) (hsel : ∀ (j : Nat) (o : Oper) cs b, ops[j]? = some o → o.op ≠ .select cs b)
    (hQ : ∀ c a w, Q (.panic c) (a.put oi.dst v) w → Q (.panic c) a w) :
    ∀ (n : Nat) (listed : Array Bool) (a : Act) (w : World),
      (∀ j oj, ops[j]? = some oj → j ≠ i → listed.getD j true = false → (∀ e ∈ oj.after, Region.binds .any e = true → e.on ≠ i) → oi.apart ops oj = true) →
      i ∈ Region.ready .any ops listed → YieldsIf P ops S oi v a → S w → wpHeld r P ops Q S n (listed.setIfInBounds i true) (a.put oi.dst v) w → wpHeld r P ops Q S (n + 1) listed a w := by
 intro n
 induction n with
 | zero =>
   intro listed a w _ hr hy hS H
   refine ⟨fun h => absurd (h ▸ hr) (by simp), fun j hj => ?_⟩
   by_cases hji : j = i
   ·rw [hji]
    exact YieldsIf.opR (nodefs_at hnd hi) hi hy hS ⟨hS, H⟩
   ·have := ready_mono hj hji
    rw [H.1] at this
    cases this
 | succ n ih =>
   intro listed a w hfree hr hy hS H
   refine ⟨fun h => absurd (h ▸ hr) (by simp), fun j hj => ?_⟩
   by_cases hji : j = i
   ·rw [hji]
    exact YieldsIf.opR (nodefs_at hnd hi) hi hy hS ⟨hS, H⟩
   ·have h1 := H.2 j (ready_mono hj hji)
    obtain ⟨hjun, oj, hoj, hall⟩ := mem_ready.1 hj
    have hnot : ∀ e ∈ oj.after, Region.binds .any e = true → e.on ≠ i := fun e he hb heq => by
     have a1 := hall e he hb
     have a0 := (mem_ready.1 hr).1
     rw [heq, Array.getD_eq_getD_getElem?] at a1
     rw [Array.getD_eq_getD_getElem?] at a0
     cases hx : listed[i]? with
     | none => rw [hx] at a0; cases a0
     | some b =>
       rw [hx] at a0 a1
       rw [show b = false from a0] at a1
       cases a1
    have h2 := wpOpR_put (nodefs_at hnd hoj) hoj (hfree j oj hoj hji hjun hnot) (fun cs b => hsel i oi cs b hi) (fun cs b => hsel j oj cs b hoj) hQ hy h1
    refine wpOpR_mono (fun a' w' h3 => ⟨h3.2.1, ih (listed.setIfInBounds j true) a' w' (fun k ok hk hki hun hno => hfree k ok hk hki ?_ hno) (ready_mono hr (Ne.symm hji)) h3.1 h3.2.1 ?_⟩) h2
    ·by_cases hjk : j = k
     ·rw [← hjk]; exact hjun
     ·rw [getD_set_ne true hjk] at hun; exact hun
    ·rw [Array.setIfInBounds_comm _ _ hji]
     exact h3.2.2
def LoopR (r : Option Nat) (P : Program) (c : Code) (Q : Exit → Act → World → Prop) (a : Act) (w : World) : Prop :=
 ∀ X : Act → World → Prop, (∀ a w, Cwp r P c (Exit.then X Q) a w → X a w) → X a w
theorem LoopR.round {c : Code} {a : Act} {w : World} (h : Cwp r P c (Exit.then (LoopR r P c Q) Q) a w) : LoopR r P c Q a w := by
 intro X hX
 refine hX _ _ (wpIn_mono h ?_)
 intro e a' w' hq
 cases e with
 | normal => exact hq X hX
 | _ => exact hq
theorem cwp_loop_least {c : Code} {a : Act} {w : World} (h : LoopR r P c Q a w) : Cwp r P (.loop c) Q a w := by
 intro b k cs hro hb hr
 have fc := fun (a : Act) (t : Item) (k : List Item) (w : World) (hx : (b.atR a (t :: k)).about P w = none) => fenced_calm (fr := b.atR a (t :: k)) (P := P) (w := w) hb hr hx
 obtain ⟨e, a', w', hq, harr⟩ := h (fun a w => ∃ e a' w', Q e a' w' ∧ ArrivesIn (Machine.fenced P (FW r)) P (lone (b.atR a (.code c :: .inLoop c :: k)) cs w) b k cs e a' w') (by
  intro a w hc
  obtain ⟨e, a1, w1, hq, harr⟩ := hc b (.inLoop c :: k) cs hro hb hr
  cases e with
  | normal =>
    obtain ⟨e2, a2, w2, hq2, harr2⟩ := hq
    exact ⟨e2, a2, w2, hq2, .of_steps (StepsIn.trans harr (.one (fc _ _ _ _ rfl) stepR_inLoop)) harr2⟩
  | exit id => exact ⟨_, a1, w1, hq, .pass (x := .inLoop c) rfl (fun _ _ => .inl (by simp)) harr⟩
  | goto l => exact ⟨_, a1, w1, hq, .pass (x := .inLoop c) rfl (fun _ _ => .inl (by simp)) harr⟩
  | ret => exact ⟨_, a1, w1, hq, .pass (x := .inLoop c) rfl (fun _ _ => .inl (by simp)) harr⟩
  | panic ch => exact ⟨_, a1, w1, hq, .pass (x := .inLoop c) rfl (fun _ _ => .inl (by simp)) harr⟩
  | outgrown => exact ⟨_, a1, w1, hq, .pass (x := .inLoop c) rfl (fun _ _ => .inl (by simp)) harr⟩)
 exact ⟨e, a', w', hq, .of_steps (.one (fc _ _ _ _ rfl) stepR_loop) harr⟩
theorem stepR_scope {b : Frame} {a : Act} {k : List Item} {cs : List Frame} {w : World} {c : Code} : step P (lone (b.atR a (.code (.scope c) :: k)) cs w) = .next (lone (b.atR a (.code c :: .inScope c :: k)) cs w) :=
 step_lone_go (by simp [stepG, stepG.exec, Frame.atR])
theorem stepR_inScope {b : Frame} {a : Act} {k : List Item} {cs : List Frame} {w : World} {c : Code} : step P (lone (b.atR a (.inScope c :: k)) cs w) = .next (lone (b.atR a k) cs w) :=
 step_lone_go (by simp [stepG, stepG.exec, Frame.atR])
theorem cwp_scope {c : Code} {a : Act} {w : World} (h : Cwp r P c (Exit.noGoto Q) a w) : Cwp r P (.scope c) Q a w := by
 intro b k cs hro hb hr
 have fc := fun (a : Act) (t : Item) (k : List Item) (w : World) (hx : (b.atR a (t :: k)).about P w = none) => fenced_calm (fr := b.atR a (t :: k)) (P := P) (w := w) hb hr hx
 obtain ⟨e, a1, w1, hq, harr⟩ := h b (.inScope c :: k) cs hro hb hr
 refine ⟨e, a1, w1, ?_, ?_⟩
 ·cases e with
  | goto l => exact hq.elim
  | _ => exact hq
 ·refine .of_steps (.one (fc _ _ _ _ rfl) stepR_scope) ?_
  cases e with
  | normal => exact StepsIn.trans harr (.one (fc _ _ _ _ rfl) stepR_inScope)
  | goto l => exact hq.elim
  | exit id => exact ⟨fun k' hk => harr.1 k' (by simpa [exitTo] using hk), fun hr hk => harr.2 hr (by simpa [exitTo] using hk)⟩
  | ret => exact harr
  | panic ch => exact harr
  | outgrown => exact harr
end fw
end
end Go.Proofs.YtkifmppmfkpfbaaGreat.V
