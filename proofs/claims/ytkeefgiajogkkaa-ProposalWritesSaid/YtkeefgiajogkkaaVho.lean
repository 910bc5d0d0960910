/- The walker: a slice of one's own that lies in an element of another one, and stays one's own. -/
import Derived.Test.YtkeefgiajogkkaaVmp
set_option linter.unusedVariables false
set_option linter.unusedSimpArgs false
namespace Go.Proofs.Ytkeefgiajogkkaa.V
open Go.RowKit
section hole
variable {E : Env} {ρ : Nm} {w : World} {H : List Ent} {G : List FE} {P : Program} {T : TT}
def Nm.setC (ρ : Nm) (n g : Nat) (Z : Nat → Prop) : Nm := ⟨fun i => if i = n then g else ρ.b i, ρ.s, fun i => if i = n then Z else ρ.z i⟩
theorem Hp.addC (hh : Hp E ρ H G w) {f : FE} (hf : Fresh E f.id H G) {T : CK} (hc : f.c = .codes T) {g : Nat} {Z : Nat → Prop} (hold : f.holds (ρ.setC f.id g Z) w)
    (hgB : E.may g ∨ E.B ≤ g) (hgH : ∀ e ∈ H, ρ.b e.id ≠ g) (hgG : ∀ q ∈ G, ¬ q.foot ρ g) (hz : Zok E ρ H G w f.al Z) (hga : E.B ≤ g ∨ ∃ j ∈ f.al, E.z0 j g) :
    Hp E (ρ.setC f.id g Z) H (f :: G) w ∧ ∀ ρ'', Agr (ρ.setC f.id g Z) ρ'' H (f :: G) → Agr ρ ρ'' H G := by
 have nb : ∀ q ∈ G, q.id ≠ f.id := hf.G
 have nH : ∀ e ∈ H, e.id ≠ f.id := hf.H
 have b1 : ∀ n, n ≠ f.id → (ρ.setC f.id g Z).b n = ρ.b n ∧ (ρ.setC f.id g Z).s n = ρ.s n ∧ (ρ.setC f.id g Z).z n = ρ.z n := fun n hn => ⟨by simp [Nm.setC, hn], rfl, by simp [Nm.setC, hn]⟩
 have bi : (ρ.setC f.id g Z).b f.id = g ∧ (ρ.setC f.id g Z).z f.id = Z := ⟨by simp [Nm.setC], by simp [Nm.setC]⟩
 generalize ρ.setC f.id g Z = ρ1 at b1 bi hold
 have a0 : Agr ρ ρ1 H G := ⟨fun e he => (b1 _ (nH e he)).1, fun q hq => ⟨(b1 _ (nb q hq)).1, (b1 _ (nb q hq)).2.1⟩⟩
 have fn : ∀ q ∈ G, q.foot ρ1 = q.foot ρ := fun q hq => FE.foot_names (b1 _ (nb q hq)).1 (b1 _ (nb q hq)).2.1 (b1 _ (nb q hq)).2.2
 have xn : ∀ q ∈ G, q.excl ρ1 = q.excl ρ := fun q hq => FE.excl_names (b1 _ (nb q hq)).1 (b1 _ (nb q hq)).2.1
 have down : ∀ {ρ''}, Agr ρ1 ρ'' H (f :: G) → Agr ρ ρ'' H G := fun hr =>
  ⟨fun e he => (hr.1 e he).trans (a0.1 e he), fun q hq => ⟨(hr.2 q (List.mem_cons_of_mem _ hq)).1.trans (a0.2 q hq).1, (hr.2 q (List.mem_cons_of_mem _ hq)).2.trans (a0.2 q hq).2⟩⟩
 have foot0 : ∀ k, f.foot ρ1 k → k = g ∨ Z k := by
  intro k hk
  unfold FE.foot at hk
  rw [hc] at hk
  simp only [bi.1, bi.2] at hk
  exact hk
 have excl0 : ∀ k, f.excl ρ1 k → k = g := by
  intro k hk
  unfold FE.excl at hk
  rw [hc] at hk
  simp only [bi.1] at hk
  exact hk
 refine ⟨⟨hh.keep, hh.size, fun e he => by rw [a0.1 e he]; exact hh.base e he, fun ρ' hr e he => by rw [a0.1 e he]; exact hh.block ρ' (down hr) e he, fun e he e' he' heq => hh.inj e he e' he' (by rw [← a0.1 e he, ← a0.1 e' he']; exact heq), fun q hq => ?_, fun q hq => ?_, fun e he q hq hk => ?_, List.pairwise_cons.2 ⟨fun q hq k => ⟨fun hx hk => ?_, fun hx hk => ?_⟩, ?_⟩, fun q hq k hk => ?_, fun q hq k hk => ?_, fun j hj => ?_⟩, fun ρ'' hr => down hr⟩
 ·rcases List.mem_cons.1 hq with rfl | hq
  ·exact hold
  ·rw [FE.holds_names (ρ := ρ) (a0.2 q hq).1 (a0.2 q hq).2 (b1 _ (nb q hq)).2.2 fun k hk => (b1 _ (hf.hx hq hk)).2.1]
   exact hh.facts q hq
 ·rcases List.mem_cons.1 hq with rfl | hq
  ·intro e x he; rw [hc] at he; cases he
  ·exact hh.pos q hq
 ·rw [a0.1 e he] at hk
  rcases List.mem_cons.1 hq with rfl | hq
  ·rcases foot0 _ hk with h | h
   ·exact hgH e he h
   ·exact hz.H e he h
  ·rw [fn q hq] at hk; exact hh.apart e he q hq hk
 ·have := excl0 k hx
  subst this
  rw [fn q hq] at hk
  exact hgG q hq hk
 ·rw [xn q hq] at hx
  rcases foot0 k hk with h | h
  ·subst h; exact hgG q hq (FE.excl_foot hx)
  ·exact hz.G q hq k hx h
 ·exact hh.alone.imp_of_mem fun {q q'} hq hq' hs k => by rw [fn q hq, fn q' hq', xn q hq, xn q' hq']; exact hs k
 ·rcases List.mem_cons.1 hq with rfl | hq
  ·rw [excl0 k hk]; exact hgB
  ·rw [xn q hq] at hk; exact hh.exB q hq k hk
 ·rcases List.mem_cons.1 hq with rfl | hq
  ·rcases foot0 k hk with h | h
   ·rw [h]; exact hga
   ·exact hz.al k h
  ·rw [fn q hq] at hk; exact hh.al q hq k hk
 ·have h1 := hh.anc j hj
  have hne : j ≠ f.id := by
   have := hf.lo
   have := hf.hi
   omega
  exact ⟨(b1 j hne).1.trans h1.1, (b1 j hne).2.1.trans h1.2⟩
theorem Hp.reuse (hh : Hp E ρ H G w) {f0 f : FE} (hf : findE G f.id = some f0) (hsole : soleE f.id G = true) (hd : f0.c = .dead) {e : Shp} {x : Unit → List e.D} (hc : f.c = .rows e x) {Z' : Nat → Prop} (hold : f.holds (ρ.setZ f.id Z') w) (hp : 0 < e.size) {g : Nat} (hat : ∀ y, (ρ.s f.id).a = some y → y.block = g)
    (hgB : E.may g ∨ E.B ≤ g) (hgH : ∀ e ∈ H, ρ.b e.id ≠ g) (hgG : ∀ q ∈ G, ¬ q.foot ρ g) (hz : Zok E ρ H G w f.al Z') (hga : E.B ≤ g ∨ ∃ j ∈ f.al, E.z0 j g) :
    Hp E (ρ.setZ f.id Z') H (replE G f) w ∧ ∀ ρ'', Agr (ρ.setZ f.id Z') ρ'' H (replE G f) → Agr ρ ρ'' H G := by
 obtain ⟨hm, _⟩ := findE_mem hf
 have hz2 : (ρ.setZ f.id Z').z f.id = Z' := by simp [Nm.setZ]
 have top0 : ∀ k, f.top (ρ.setZ f.id Z') k → k = g := by
  rintro k ⟨y, hy, rfl⟩
  exact hat y hy
 have foots : ∀ k, f.foot (ρ.setZ f.id Z') k → k = g ∨ Z' k := by
  intro k hk
  unfold FE.foot at hk
  rw [hc, hz2] at hk
  rcases hk with hk | hk
  ·exact .inr hk
  ·exact .inl (top0 k hk.2)
 have excls : ∀ k, f.excl (ρ.setZ f.id Z') k → k = g := by
  intro k hk
  unfold FE.excl at hk
  rw [hc] at hk
  exact top0 k hk.2
 have fo : ∀ q : FE, q.id ≠ f.id → q.foot (ρ.setZ f.id Z') = q.foot ρ := fun q hq => FE.foot_names rfl rfl (by simp [Nm.setZ, hq])
 have ex : ∀ q : FE, q.excl (ρ.setZ f.id Z') = q.excl ρ := fun q => FE.excl_names rfl rfl
 have memr : ∀ q ∈ replE G f, q = f ∨ (q ∈ G ∧ q.id ≠ f.id) := fun q hq => mem_repl_sole hsole hq
 have down : ∀ {ρ''}, Agr (ρ.setZ f.id Z') ρ'' H (replE G f) → Agr ρ ρ'' H G := fun hr => ⟨hr.1, fun q hq => by
  obtain ⟨y', hy', e1⟩ := replE_ids (f := f) hq
  rw [← e1]
  exact hr.2 y' hy'⟩
 refine ⟨⟨hh.keep, hh.size, hh.base, ?_, hh.inj, ?_, ?_, ?_, ?_, ?_, ?_, hh.anc⟩, fun ρ'' hr => down hr⟩
 ·intro ρ' hr e' he
  exact hh.block ρ' (down hr) e' he
 ·intro q hq
  rcases memr q hq with rfl | ⟨hq, hne⟩
  ·exact hold
  ·rw [FE.holds_names (ρ := ρ) (ρ' := ρ.setZ f.id Z') rfl rfl (by simp [Nm.setZ, hne]) fun _ _ => rfl]
   exact hh.facts q hq
 ·intro q hq e' x' he
  rcases memr q hq with rfl | ⟨hq, _⟩
  ·rw [hc] at he; cases he; exact hp
  ·exact hh.pos q hq e' x' he
 ·intro e' he q hq
  rcases memr q hq with rfl | ⟨hq, hne⟩
  ·intro hk
   rcases foots _ hk with h | h
   ·exact hgH e' he h
   ·exact hz.H e' he h
  ·rw [fo q hne]; exact hh.apart e' he q hq
 ·refine repl_pair2 (R := fun a b => a ∈ G ∧ b ∈ G ∧ Sep ρ a b) (f0 := f0) hsole hf (hh.alone.imp_of_mem fun ha hb h => ⟨ha, hb, h⟩) ?_ ?_ ?_
  ·rintro a b ha hb ⟨_, _, hs⟩ k
   rw [fo a ha, fo b hb, ex a, ex b]
   exact hs k
  ·rintro b hb ⟨_, hbG, hs⟩ k
   rw [fo b hb, ex b]
   refine ⟨fun hk => ?_, fun hk hk2 => ?_⟩
   ·rw [excls k hk]; exact hgG b hbG
   ·rcases foots k hk2 with h | h
    ·rw [h] at hk; exact hgG b hbG (FE.excl_foot hk)
    ·exact hz.G b hbG k hk h
  ·rintro a ha ⟨haG, _, hs⟩ k
   rw [fo a ha, ex a]
   refine ⟨fun hk hk2 => ?_, fun hk => ?_⟩
   ·rcases foots k hk2 with h | h
    ·rw [h] at hk; exact hgG a haG (FE.excl_foot hk)
    ·exact hz.G a haG k hk h
   ·rw [excls k hk]; exact hgG a haG
 ·intro q hq k hk
  rcases memr q hq with rfl | ⟨hq, hne⟩
  ·rw [excls k hk]; exact hgB
  ·rw [ex q] at hk; exact hh.exB q hq k hk
 ·intro q hq k hk
  rcases memr q hq with rfl | ⟨hq, hne⟩
  ·rcases foots k hk with h | h
   ·rw [h]; exact hga
   ·exact hz.al k h
  ·rw [fo q hne] at hk; exact hh.al q hq k hk
theorem HoleR.of_own {t : TypeId} {Z : Nat → Prop} {e : Shp} {s : Sl} {xs : List e.D} {i : Int} {o g : Nat} (h : OwnR w t Z e s xs) (hat : s.a = some ⟨g, 0, none⟩) (lo : 0 ≤ i) (hi : i < xs.length) (fit : o < e.size) : HoleR w t Z e s g xs i o none := by
 obtain ⟨cs, h1, h2⟩ := h.ex
 have hl : i.toNat * e.size + o < cs.length := by
  rw [h1.1]
  have : (i.toNat + 1) * e.size ≤ xs.length * e.size := Nat.mul_le_mul_right _ (by omega)
  rw [Nat.succ_mul] at this
  omega
 refine ⟨h.bd, hat, lo, hi, fit, ⟨cs, cs[i.toNat * e.size + o], ?_, h1.1, h2, fun u hu => by cases hu⟩⟩
 rw [List.set_getElem_self]
 exact h1
theorem HoleR.pos {t : TypeId} {Z : Nat → Prop} {e : Shp} {s : Sl} {g : Nat} {xs : List e.D} {i : Int} {o : Nat} {v : Option Value} (h : HoleR w t Z e s g xs i o v) : i.toNat * e.size + o < xs.length * e.size := by
 have h1 := h.hi
 have h2 := h.lo
 have h3 := h.fit
 have : (i.toNat + 1) * e.size ≤ xs.length * e.size := Nat.mul_le_mul_right _ (by omega)
 rw [Nat.succ_mul] at this
 omega
theorem HoleR.cell {t : TypeId} {Z : Nat → Prop} {e : Shp} {s : Sl} {g : Nat} {xs : List e.D} {i : Int} {o : Nat} {u : Value} (h : HoleR w t Z e s g xs i o (some u)) : ∃ cur, w.heap[g]? = some (.cells cur t (0, 0)) ∧ cur[i.toNat * e.size + o]? = some u := by
 have hp := h.pos
 obtain ⟨cs, c, h1, h2, _, h4⟩ := h.ex
 have hc := h4 u rfl
 subst hc
 rcases h1.2 with ⟨e0, _⟩ | ⟨g', cap, cur, e0, _, hg, _, _, _, htake⟩
 ·simp [Sl.val, h.at0] at e0
 ·simp only [Sl.val, Value.slice.injEq, h.at0, Option.some.injEq, Addr.mk.injEq] at e0
  obtain ⟨⟨rfl, _⟩, _⟩ := e0
  refine ⟨cur, hg, ?_⟩
  have := congrArg (fun l => l[i.toNat * e.size + o]?) htake
  simp only [List.getElem?_take, if_pos hp, List.getElem?_set_self (show i.toNat * e.size + o < cs.length by omega)] at this
  simpa using this
theorem HoleR.store {t tt : TypeId} {j : TI} {Z : Nat → Prop} {e : Shp} {s : Sl} {g : Nat} {xs : List e.D} {i : Int} {o : Nat} {v : Option Value} (h : HoleR w t Z e s g xs i o v) (hj : TIOk P tt j) (h1j : j.size = 1) {u : Value} (hu : u.cells.toList = [u]) (ho : u.oneCell' = true) (hz : ¬ Z g) :
    ∃ row, (storeVar tt ⟨g, i.toNat * e.size + o, none⟩ u).run P w = .ok () (w.setRow g row) ∧ HoleR (w.setRow g row) t Z e s g xs i o (some u) := by
 have hp := h.pos
 obtain ⟨cs, c, h1, h2, h3, h4⟩ := h.ex
 rcases h1.2 with ⟨e0, _⟩ | ⟨g', cap, cur, e0, hb, hg, hnc, hcm, hcs, htake⟩
 ·simp [Sl.val, h.at0] at e0
 ·have e1 := e0
  simp only [Sl.val, Value.slice.injEq, h.at0, Option.some.injEq, Addr.mk.injEq] at e0
  obtain ⟨⟨rfl, _⟩, _⟩ := e0
  have hmul : xs.length * e.size ≤ cap * e.size := Nat.mul_le_mul_right _ hnc
  have hus : u.cells.size = 1 := by
   have := congrArg List.length hu
   simpa using this
  have hrun := run_storeVar_part (P := P) hj w g (i.toNat * e.size + o) t cur hg u (by rw [hus, h1j]) (by rw [h1j, hcs]; omega) (by rw [hu]; intro y hy; simp only [List.mem_singleton] at hy; rw [hy]; exact ho)
  rw [hu] at hrun
  refine ⟨_, hrun, ⟨h.bd, h.at0, h.lo, h.hi, h.fit, ⟨cs, u, ⟨by rw [List.length_set]; exact h2, .inr ⟨g, cap, _, e1, hb, heap_setRow_same w g _ _ _ _ hg, hnc, hcm, ?_, ?_⟩⟩, h2, fun q hq => ?_, fun y hy => by cases hy; rfl⟩⟩⟩
  ·simp
   rw [hcs]
   omega
  ·have hlen : cur.toList.length = cap * e.size := by rw [Array.length_toList]; exact hcs
   rw [List.set_eq_take_append_cons_drop, if_pos (by omega)]
   have hset : cur.toList.take (i.toNat * e.size + o) ++ [u] ++ cur.toList.drop (i.toNat * e.size + o + [u].length) = cur.toList.set (i.toNat * e.size + o) u := by
    rw [List.set_eq_take_append_cons_drop, if_pos (by omega)]
    simp
   rw [hset, List.toList_toArray]
   rw [List.take_set, htake, List.set_set, List.set_eq_take_append_cons_drop, if_pos (by omega)]
  ·refine Shp.rep_mono (fun _ h => h) (fun k hk => heap_setRow_other w g _ k fun e => hz (e ▸ hk)) e _ _ (h3 q hq)
def holeOf (l : Nat) : List FE → Option Nat
 | [] => none
 | f :: r => match f.c with
   | .codes (.hl _ _ _ _ l' _) => (match nBeq l' l with | true => some f.id | false => holeOf l r)
   | _ => holeOf l r
def holeAny : List FE → Option Nat
 | [] => none
 | f :: r => match f.c with
   | .codes (.hl _ _ _ _ _ _) => some f.id
   | _ => holeAny r
def newH (n t : Nat) (al : List Nat) (e : Shp) (y : Unit → List e.D) (i : IE) (o l tn : Nat) : FE := ⟨n, false, t, al, .codes (.hl e y i o l (some tn))⟩
def storeH (T : TT) (G : List FE) (n : Nat) (t : TypeId) (x v : SV) : Option (List (Unit → Prop) × List FE) :=
 match x, v with
 | .fp l i s o, .fv tn => match findE G tn, TT.look T t with
   | some ft, some j => match ft.own && nBeq j.size 1 with
     | true => match findE G l with
       | some f => match f.c with
         | .rows e y => match f.own && nBeq s e.size && nBlt o e.size && soleE l G with
           | true => some ([obLt e y i], newH n f.t f.al e y i o l tn :: replE G (deadE f))
           | false => none
         | .dead => match holeOf l G with
           | some m => match findE G m with
             | some fh => match fh.c with
               | .codes (.hl e y i' o' l' _) => match nBeq l' l && nBeq s e.size && nBeq o o' && soleE m G with
                 | true => some ([fun _ => i.den = i'.den], replE G (newH fh.id fh.t fh.al e y i' o' l tn))
                 | false => none
               | _ => none
             | none => none
           | none => none
         | _ => none
       | none => none
     | false => none
   | _, _ => none
 | _, _ => none
def loadH (T : TT) (G : List FE) (t : TypeId) (x : SV) : Option ((Unit → Prop) × SV) :=
 match x with
 | .fp l i s o => match holeOf l G, TT.look T t with
   | some m, some j => match findE G m with
     | some fh => match fh.c with
       | .codes (.hl e y i' o' l' (some tn)) => match nBeq l' l && nBeq s e.size && nBeq o o' && !j.sh.agg && !freshI tn G with
         | true => some (fun _ => i.den = i'.den, .fv tn)
         | false => none
       | _ => none
     | none => none
   | _, _ => none
 | _ => none
def closeE (H : List Ent) (G1 : List FE) (m : Nat) : Option (List (Unit → Prop) × List FE) :=
 match findE G1 m with
 | some fh => match fh.c with
   | .codes (.hl e y i o l (some tn)) => match put H G1 e o [.fv tn] with
     | some d => match d.rest, d.bs with
       | [], [] => match findE (replE G1 (deadE fh)) l with
         | some fl => match fl.c with
           | .dead => match allSh G1 d.ids && soleE l (replE G1 (deadE fh)) && nBlt 0 e.size with
             | true => some (d.ob, replE (replE G1 (deadE fh)) ⟨l, true, fh.t, catN fh.al (alsOf G1 d.ids), .rows e (fun u => setAt (y u) i.den e.dflt (d.x u))⟩)
             | false => none
           | _ => none
         | none => none
       | _, _ => none
     | none => none
   | _ => none
 | none => none
def closeG (H : List Ent) (G : List FE) : Option (List (Unit → Prop) × List FE) :=
 match holeAny G with
 | some m => match findE G m with
   | some fh => match fh.c with
     | .codes (.hl _ _ _ _ _ (some tn)) => closeE H (frzIds G [tn]) m
     | _ => none
   | none => none
 | none => none
theorem freshI_not {n : Nat} : ∀ {l : List FE}, freshI n l = false → ∃ e ∈ l, e.id = n
 | [], h => by cases h
 | x :: l, h => by
   simp only [freshI] at h
   cases hb : nBeq x.id n with
   | true => exact ⟨x, List.mem_cons_self, nBeq_eq hb⟩
   | false =>
     rw [hb] at h
     obtain ⟨e, he, h2⟩ := freshI_not (l := l) (by simpa using h)
     exact ⟨e, List.mem_cons_of_mem _ he, h2⟩
theorem fv_cells (ρ : Nm) (n : Nat) : ((SV.fv n).den ρ).cells.toList = [(SV.fv n).den ρ] ∧ ((SV.fv n).den ρ).oneCell' = true := by
 simp only [SV.den, Sl.val]
 exact ⟨rfl, rfl⟩
theorem Hp.zokC (hh : Hp E ρ H G w) {f : FE} (hf : f ∈ G) {T : CK} (hc : f.c = .codes T) (hz : ∀ k, ρ.z f.id k → k < w.heap.size ∧ k ≠ ρ.b f.id) : Zok E ρ H G w f.al (ρ.z f.id) := by
 have fz : ∀ k, ρ.z f.id k → f.foot ρ k := fun k hk => by unfold FE.foot; rw [hc]; exact .inr hk
 refine ⟨fun k hk => (hz k hk).1, fun e he hk => hh.apart e he f hf (fz _ hk), fun g hg k hx hk => ?_, fun k hk => hh.al f hf k (fz k hk)⟩
 rcases hh.sep hf g hg k hx with h | h
 ·exact h (fz k hk)
 ·subst h
  unfold FE.excl at hx
  rw [hc] at hx
  exact (hz k hk).2 hx
theorem storeH_sound (hT : TT.ok P T) (hE : E.ok) (hh : Hp E ρ H G w) {n : Nat} (hfr : Fresh E n H G) {t : TypeId} {x v : SV} {obs : List (Unit → Prop)} {G' : List FE} (h : storeH T G n t x v = some (obs, G')) (ho : ∀ p ∈ obs, p ()) :
    ∃ w' ρ', (Instr.storeAt t (x.den ρ) (v.den ρ)).run P w = .ok () w' ∧ Hp E ρ' H G' w' ∧ ∀ ρ'', Agr ρ' ρ'' H G' → Agr ρ ρ'' H G := by
 unfold storeH at h
 split at h
 ·rename_i l i s o tn
  split at h
  ·rename_i ft j hft hj
   split at h
   ·rename_i hq
    simp only [Bool.and_eq_true] at hq
    have hj1 := nBeq_eq hq.2
    have hjo := TT.look_ok hT hj
    split at h
    ·rename_i f hf
     obtain ⟨hm, hid⟩ := findE_mem hf
     split at h
     ·rename_i e y hc
      split at h
      ·rename_i hq2
       simp only [Bool.and_eq_true, nBlt_iff] at hq2
       obtain ⟨⟨⟨hown, hs⟩, hfit⟩, hsole⟩ := hq2
       have hs := nBeq_eq hs
       subst hs
       cases h
       obtain ⟨h0, h1⟩ := ho _ List.mem_cons_self
       have h1 : i.den < ((y ()).length : Int) := h1
       have hfa := hh.facts f hm
       have hp := hh.pos f hm e y hc
       unfold FE.holds at hfa
       rw [hc, hown, hid] at hfa
       obtain ⟨hzl, hor⟩ := hfa
       obtain ⟨g, hat⟩ : ∃ g, (ρ.s l).a = some ⟨g, 0, none⟩ := by
        obtain ⟨cs, hcs, _⟩ := hor.ex
        rcases hcs.2 with ⟨_, e0⟩ | ⟨g, cap, cur, e0, _⟩
        ·omega
        ·simp only [Sl.val, Value.slice.injEq] at e0
         exact ⟨g, e0.1⟩
       have hxg : f.excl ρ g := by
        unfold FE.excl FE.top
        rw [hc, hid]
        exact ⟨hown, _, hat, rfl⟩
       have hzg : ¬ ρ.z l g := fun hk => by
        have := hor.top _ hat
        exact this hk
       have hR := HoleR.of_own hor hat h0 h1 hfit
       obtain ⟨row, k1, k2⟩ := hR.store (P := P) hjo hj1 (fv_cells ρ tn).1 (fv_cells ρ tn).2 hzg
       -- the entry is dead
       obtain ⟨d1, d2⟩ := hh.repl (f0 := f) (f := deadE f) (by rw [show (deadE f).id = f.id from rfl, hid]; exact hf) (by unfold FE.holds deadE; trivial) (fun e' x' he => by simp [deadE] at he) (fun k hk => by unfold FE.foot deadE at hk; exact hk.elim) (fun k hk => by unfold FE.excl deadE at hk; exact hk.elim) rfl
       have memd : ∀ q ∈ replE G (deadE f), q = deadE f ∨ (q ∈ G ∧ q ≠ f) := fun q hq => mem_replE_ne hxg hh.alone (by rw [show (deadE f).id = f.id from rfl, hid]; exact hf) hq
       have nofoot : ∀ q ∈ replE G (deadE f), ¬ q.foot ρ g := fun q hq hk => by
        rcases memd q hq with rfl | ⟨hq, hne⟩
        ·unfold FE.foot deadE at hk; exact hk
        ·rcases hh.sep hq f hm g hxg with h | h
         ·exact h hk
         ·exact hne h.symm
       have hzok := hh.zok hm hc (hh.sep hm)
       rw [hown] at hzok
       have hfr2 : Fresh E n H (replE G (deadE f)) := hfr.to fun q hq => by
        rcases memd q hq with rfl | ⟨hq, _⟩
        ·exact ⟨hfr.G f hm, rfl⟩
        ·exact hfr.g2 q hq
       have hB := hh.exB f hm g hxg
       have hbw : BelowX E.B E.may w (w.setRow g row) := ⟨rfl, rfl, rfl, by simp [World.setRow], fun k hk hm => heap_setRow_other w g row k fun e1 => by rw [e1] at hk hm; rcases hB with h | h; exact hm h; omega⟩
       -- another world
       have dw : Hp E ρ H (replE G (deadE f)) (w.setRow g row) := d1.change (hE.keepX _ _ hh.keep hbw) hbw.size (fun e' he => heap_setRow_other w g row _ fun e1 => hh.apart e' he f hm (e1 ▸ FE.excl_foot hxg)) (fun q hq k hk => heap_setRow_other w g row k fun e1 => nofoot q hq (e1 ▸ hk))
       have hnl : l ≠ n := by rw [← hid]; exact hfr.G f hm
       have hnt : tn ≠ n := by rw [← (findE_mem hft).2]; exact hfr.G ft (findE_mem hft).1
       obtain ⟨a1, a2⟩ := dw.addC (f := newH n f.t f.al e y i o l tn) (T := .hl e y i o l (some tn)) (g := g) (Z := ρ.z l) hfr2 rfl (by
           unfold FE.holds newH
           simp only [Nm.setC, if_true]
           refine ⟨fun k hk => ⟨Nat.lt_of_lt_of_le (hzl k hk) hbw.size, fun e1 => hzg (e1 ▸ hk)⟩, ?_⟩
           simpa [SV.den] using k2) hB (fun e' he e1 => hh.apart e' he f hm (by rw [e1]; exact FE.excl_foot hxg)) nofoot
        ⟨fun k hk => Nat.lt_of_lt_of_le (hzl k hk) hbw.size, fun e' he hk => hzok.H e' he (by rw [hid]; exact hk), fun q hq k hx hk => by
         rcases memd q hq with rfl | ⟨hq, _⟩
         ·unfold FE.excl deadE at hx; exact hx
         ·exact hzok.G q hq k hx (by rw [hid]; exact hk), fun k hk => hzok.al k (by rw [hid]; exact hk)⟩ (hh.al f hm g (FE.excl_foot hxg))
       refine ⟨w.setRow g row, _, ?_, a1, fun ρ'' hr => d2 ρ'' (a2 ρ'' hr)⟩
       have e1 : (ρ.s l).at (i.den.toNat * e.size + o) = some ⟨g, i.den.toNat * e.size + o, none⟩ := by simp [Sl.at, hat]
       simp only [SV.den, e1, Instr.storeAt, Instr.sureAddr, Sem.run_bind, Sem.run_pure, Result.andThen_ok]
       simpa only [SV.den] using k1
      ·cases h
     ·rename_i hc
      split at h
      ·rename_i m hm0
       split at h
       ·rename_i fh hfh
        split at h
        ·rename_i e y i' o' l' T0 hcc
         split at h
         ·rename_i hq2
          simp only [Bool.and_eq_true] at hq2
          obtain ⟨⟨⟨hl', hs⟩, ho'⟩, hsole⟩ := hq2
          have hl' := nBeq_eq hl'
          have hs := nBeq_eq hs
          have ho' := nBeq_eq ho'
          subst hl' hs ho'
          cases h
          have hi := ho _ List.mem_cons_self
          have hi : i.den = i'.den := hi
          obtain ⟨hmm, hmid⟩ := findE_mem hfh
          have hfa := hh.facts fh hmm
          unfold FE.holds at hfa
          rw [hcc] at hfa
          obtain ⟨hzl, hR⟩ := hfa
          have hxg : fh.excl ρ (ρ.b fh.id) := by unfold FE.excl; rw [hcc]
          have hzg : ¬ ρ.z fh.id (ρ.b fh.id) := fun hk => (hzl _ hk).2 rfl
          obtain ⟨row, k1, k2⟩ := hR.store (P := P) hjo hj1 (fv_cells ρ tn).1 (fv_cells ρ tn).2 hzg
          have hB := hh.exB fh hmm _ hxg
          have hbw : BelowX E.B E.may w (w.setRow (ρ.b fh.id) row) := ⟨rfl, rfl, rfl, by simp [World.setRow], fun k hk hm => heap_setRow_other w _ row k fun e1 => by rw [e1] at hk hm; rcases hB with h | h; exact hm h; omega⟩
          have hset : ρ.setZ fh.id (ρ.z fh.id) = ρ := by
           unfold Nm.setZ
           congr 1
           funext i
           by_cases hi : i = fh.id <;> simp [hi]
          obtain ⟨a1, a2, _⟩ := hh.objset hE (f := fh) (f' := newH fh.id fh.t fh.al e y i' o l' tn) (T' := .hl e y i' o l' (some tn)) (Z' := ρ.z fh.id) (by rw [hmid]; exact hfh) (by rw [hmid]; exact hsole) hcc rfl rfl (show Zok E ρ H G w fh.al (ρ.z fh.id) from hh.zokC hmm hcc hzl) (fun j hj => hj) (w' := w.setRow (ρ.b fh.id) row) (fun k hk => heap_setRow_other w _ row k hk) hbw (by
           rw [hset]
           unfold FE.holds newH
           simp only
           refine ⟨fun k hk => ⟨Nat.lt_of_lt_of_le (hzl k hk).1 hbw.size, (hzl k hk).2⟩, ?_⟩
           simpa [SV.den] using k2)
          refine ⟨_, _, ?_, a1, a2⟩
          have e1 : (ρ.s l').at (i.den.toNat * e.size + o) = some ⟨ρ.b fh.id, i'.den.toNat * e.size + o, none⟩ := by simp [Sl.at, hR.at0, hi]
          simp only [SV.den, e1, Instr.storeAt, Instr.sureAddr, Sem.run_bind, Sem.run_pure, Result.andThen_ok]
          simpa only [SV.den] using k1
         ·cases h
        ·cases h
       ·cases h
      ·cases h
     ·cases h
    ·cases h
   ·cases h
  ·cases h
 ·cases h
theorem loadH_sound (hT : TT.ok P T) (hh : Hp E ρ H G w) {t : TypeId} {x v : SV} {ob : Unit → Prop} (h : loadH T G t x = some (ob, v)) (ho : ob ()) : ∀ ρ', Agr ρ ρ' H G → x.den ρ' = x.den ρ → v.den ρ' = v.den ρ ∧ (Instr.loadAt t (x.den ρ)).run P w = .ok (v.den ρ) w := by
 intro ρ' hr hxx
 unfold loadH at h
 split at h
 ·rename_i l i s o
  split at h
  ·rename_i m j hm0 hj
   have hjo := TT.look_ok hT hj
   split at h
   ·rename_i fh hfh
    split at h
    ·rename_i e y i' o' l' tn hcc
     split at h
     ·rename_i hq2
      simp only [Bool.and_eq_true, Bool.not_eq_true'] at hq2
      obtain ⟨⟨⟨⟨hl', hs⟩, ho'⟩, hag⟩, htn⟩ := hq2
      have hl' := nBeq_eq hl'
      have hs := nBeq_eq hs
      have ho' := nBeq_eq ho'
      subst hl' hs ho'
      cases h
      have hi : i.den = i'.den := ho
      obtain ⟨hmm, hmid⟩ := findE_mem hfh
      have hfa := hh.facts fh hmm
      unfold FE.holds at hfa
      rw [hcc] at hfa
      obtain ⟨hzl, hR⟩ := hfa
      obtain ⟨cur, c1, c2⟩ := hR.cell
      have e1 : (ρ.s l').at (i.den.toNat * e.size + o) = some ⟨ρ.b fh.id, i'.den.toNat * e.size + o, none⟩ := by simp [Sl.at, hR.at0, hi]
      refine ⟨?_, ?_⟩
      ·obtain ⟨q, hq, hqi⟩ := freshI_not htn
       simp only [SV.den]
       rw [← hqi, (hr.2 q hq).2]
      ·simp only [SV.den, e1, Instr.loadAt, Instr.sureAddr, Sem.run_bind, Sem.run_pure, Result.andThen_ok]
       exact run_loadVar_one hjo w _ _ _ cur _ c1 hag c2
     ·cases h
    ·cases h
   ·cases h
  ·cases h
 ·cases h
theorem closeE_sound (kh : Hp E ρ H G w) {m : Nat} {obs : List (Unit → Prop)} {G' : List FE} (h : closeE H G m = some (obs, G')) (ho : ∀ p ∈ obs, p ()) :
    ∃ ρ', Hp E ρ' H G' w ∧ ∀ ρ'', Agr ρ' ρ'' H G' → Agr ρ ρ'' H G := by
 unfold closeE at h
 split at h
 ·rename_i fh hfh
  obtain ⟨hmm, hmid⟩ := findE_mem hfh
  split at h
  ·rename_i e y i o l tn hcc
   split at h
   ·rename_i d hd
    split at h
    ·rename_i hr hbs
     split at h
     ·rename_i fl hfl
      split at h
      ·rename_i hdead
       split at h
       ·rename_i hq
        simp only [Bool.and_eq_true, nBlt_iff] at hq
        obtain ⟨⟨hsh, hsole⟩, hpos⟩ := hq
        cases h
        have hfa := kh.facts fh hmm
        unfold FE.holds at hfa
        rw [hcc] at hfa
        obtain ⟨hzl, hR⟩ := hfa
        have hxg : fh.excl ρ (ρ.b fh.id) := by unfold FE.excl; rw [hcc]
        have hzi := zok_ids kh hsh
        have hzc := kh.zokC hmm hcc hzl
        obtain ⟨d1, d2⟩ := kh.repl (f0 := fh) (f := deadE fh) (by rw [show (deadE fh).id = fh.id from rfl, hmid]; exact hfh) (by unfold FE.holds deadE; trivial) (fun e' x' he => by simp [deadE] at he) (fun k hk => by unfold FE.foot deadE at hk; exact hk.elim) (fun k hk => by unfold FE.excl deadE at hk; exact hk.elim) rfl
        have memd : ∀ q ∈ replE G (deadE fh), q = deadE fh ∨ (q ∈ G ∧ q ≠ fh) := fun q hq => mem_replE_ne hxg kh.alone (by rw [show (deadE fh).id = fh.id from rfl, hmid]; exact hfh) hq
        have nofoot : ∀ q ∈ replE G (deadE fh), ¬ q.foot ρ (ρ.b fh.id) := fun q hq hk => by
         rcases memd q hq with rfl | ⟨hq, hne⟩
         ·unfold FE.foot deadE at hk; exact hk
         ·rcases kh.sep hq fh hmm _ hxg with h | h
          ·exact h hk
          ·exact hne h.symm
        obtain ⟨cs, c, c1, c2, c3, c4⟩ := hR.ex
        have hc := c4 _ rfl
        have hpp := hR.pos
        have hi : i.den.toNat < (y ()).length := by have := hR.hi; have := hR.lo; omega
        obtain ⟨q1, q2⟩ := put_sound kh (Z := ρ.z fh.id) (Z' := fun k => ρ.z fh.id k ∨ DFoot ρ G d.ids d.bs k) (fun k hk => .inl hk) e o [.fv tn] d hd hr ho (fun k hk => .inr hk) _ _ (c3 _ hi)
        have hset : cs.set (i.den.toNat * e.size + o) c = over cs (i.den.toNat * e.size + o) (SV.dens ρ [.fv tn]) := by
         rw [List.set_eq_take_append_cons_drop, if_pos (by omega)]
         simp [over, SV.dens, SV.den, hc]
        have hlen : (setAt (y ()) i.den e.dflt (d.x ())).length = (y ()).length := by simp [setAt]
        have hbz : ∀ k, DFoot ρ G d.ids d.bs k → DFoot ρ G d.ids [] k := fun k hk => by rw [hbs] at hk; exact hk
        have hold : (⟨l, true, fh.t, catN fh.al (alsOf G d.ids), .rows e (fun u => setAt (y u) i.den e.dflt (d.x u))⟩ : FE).holds (ρ.setZ l fun k => ρ.z fh.id k ∨ DFoot ρ G d.ids d.bs k) w := by
         unfold FE.holds
         simp only [Nm.setZ, if_true]
         refine ⟨fun k hk => hk.elim (fun h => (hzl k h).1) fun h => hzi.lt k (hbz k h), by rw [hlen]; exact hR.bd, ⟨_, by rw [hlen]; exact c1, fun q hq => ?_⟩, fun x hx hz => ?_⟩
         ·have hq' : q < (y ()).length := by rw [hlen] at hq; exact hq
          rw [hset]
          by_cases hqi : q = i.den.toNat
          ·subst hqi
           rw [chunk_over_same c2 hi (by rw [dens_length]; exact q1)]
           have hget : (setAt (y ()) i.den e.dflt (d.x ()))[i.den.toNat]'hq = d.x () (y ())[i.den.toNat] := by
            simp [setAt, List.getD_eq_getElem?_getD, List.getElem?_eq_getElem hi]
           rw [hget]
           exact q2
          ·rw [chunk_over_other c2 hi (by rw [dens_length]; exact q1) hqi]
           have hget : (setAt (y ()) i.den e.dflt (d.x ()))[q]'hq = (y ())[q] := by
            simp only [setAt]
            rw [List.getElem_set_ne (Ne.symm hqi)]
           rw [hget]
           exact Shp.rep_mono (fun k hk => .inl hk) (fun _ _ => rfl) e _ _ (c3 q hq')
         ·rw [hR.at0] at hx
          cases hx
          rcases hz with h | h
          ·exact (hzl _ h).2 rfl
          ·exact hzi.G fh hmm _ hxg (hbz _ h)
        obtain ⟨a1, a2⟩ := d1.reuse (f0 := fl) (f := ⟨l, true, fh.t, catN fh.al (alsOf G d.ids), .rows e (fun u => setAt (y u) i.den e.dflt (d.x u))⟩) (Z' := fun k => ρ.z fh.id k ∨ DFoot ρ G d.ids d.bs k) (g := ρ.b fh.id) hfl hsole hdead rfl hold hpos
         (fun y' hy' => by rw [hR.at0] at hy'; cases hy'; rfl) (kh.exB fh hmm _ hxg) (fun e' he e1 => kh.apart e' he fh hmm (by rw [e1]; exact FE.excl_foot hxg)) nofoot
         ⟨fun k hk => hk.elim (fun h => (hzl k h).1) fun h => hzi.lt k (hbz k h), fun e' he hk => hk.elim (hzc.H e' he) fun h => hzi.H e' he (hbz _ h), fun q hq k hx hk => by
          rcases memd q hq with rfl | ⟨hq, _⟩
          ·unfold FE.excl deadE at hx; exact hx
          ·exact hk.elim (hzc.G q hq k hx) fun h => hzi.G q hq k hx (hbz _ h), fun k hk => by
          show E.B ≤ k ∨ ∃ j ∈ catN fh.al (alsOf G d.ids), E.z0 j k
          rw [catN_eq]
          rcases hk with hk | hk
          ·exact (hzc.al k hk).imp (fun h => h) fun ⟨j, hj, h⟩ => ⟨j, List.mem_append_left _ hj, h⟩
          ·exact (hzi.al k (hbz _ hk)).imp (fun h => h) fun ⟨j, hj, h⟩ => ⟨j, List.mem_append_right _ hj, h⟩⟩
         ((kh.al fh hmm _ (FE.excl_foot hxg)).imp (fun h => h) fun ⟨j, hj, h⟩ => ⟨j, by show j ∈ catN fh.al (alsOf G d.ids); rw [catN_eq]; exact List.mem_append_left _ hj, h⟩)
        exact ⟨_, a1, fun ρ'' hr => d2 ρ'' (a2 ρ'' hr)⟩
       ·cases h
      ·cases h
     ·cases h
    ·cases h
   ·cases h
  ·cases h
 ·cases h
theorem closeG_sound (hh : Hp E ρ H G w) {obs : List (Unit → Prop)} {G' : List FE} (h : closeG H G = some (obs, G')) (ho : ∀ p ∈ obs, p ()) :
    ∃ ρ', Hp E ρ' H G' w ∧ ∀ ρ'', Agr ρ' ρ'' H G' → Agr ρ ρ'' H G := by
 unfold closeG at h
 split at h
 ·split at h
  ·split at h
   ·rename_i tn _
    obtain ⟨kh, ka⟩ := frz_sound [tn] G hh
    obtain ⟨ρ', h1, h2⟩ := closeE_sound kh h ho
    exact ⟨ρ', h1, fun ρ'' hr => ka ρ'' (h2 ρ'' hr)⟩
   ·cases h
  ·cases h
 ·cases h
def closeX (H : List Ent) (G : List FE) (x : SV) : Option (List (Unit → Prop) × List FE) :=
 match x with
 | .fp l _ _ _ => match holeOf l G with
   | some _ => closeG H G
   | none => none
 | _ => none
theorem closeX_sound (hh : Hp E ρ H G w) {x : SV} {obs : List (Unit → Prop)} {G' : List FE} (h : closeX H G x = some (obs, G')) (ho : ∀ p ∈ obs, p ()) :
    ∃ ρ', Hp E ρ' H G' w ∧ ∀ ρ'', Agr ρ' ρ'' H G' → Agr ρ ρ'' H G := by
 unfold closeX at h
 split at h
 ·split at h
  ·exact closeG_sound hh h ho
  ·cases h
 ·cases h
def addrH (T : TT) (G : List FE) (ev : Operand → SV) : Op → Option PR
 | .indexAddr t x i => match ev x, ev i with
   | .fv l, .int _ i => match holeOf l G, TT.look T t with
     | some m, some ⟨.slice te, _, _⟩ => match findE G m, TT.look T te with
       | some fh, some j => match fh.c with
         | .codes (.hl e y i' o' l' _) => match nBeq l' l && nBeq j.size e.size && !freshI l G with
           | true => some ⟨some (obLt e y i), .fp l i e.size 0⟩
           | false => none
         | _ => none
       | _, _ => none
     | _, _ => none
   | _, _ => none
 | .fieldAddr t x f => match TT.look T t, ev x with
   | some ⟨.struct fs, _, _⟩, .fp l i s o => match nthF fs f, holeOf l G with
     | some (off, ft), some m => match TT.look T ft, findE G m with
       | some j, some fh => match fh.c with
         | .codes (.hl e y i' o' l' _) => match nBeq l' l && !nBeq j.size 0 && !freshI l G with
           | true => some ⟨some (obLt e y i), .fp l i s (o + off)⟩
           | false => none
         | _ => none
       | _, _ => none
     | _, _ => none
   | _, _ => none
 | _ => none
theorem addrH_sound (hT : TT.ok P T) (hh : Hp E ρ H G w) {ev : Operand → SV} {o : Oper} {r : PR} (h : addrH T G ev o.op = some r) (ho : obP r.ob) : ∀ ρ'', Agr ρ ρ'' H G → ∀ A : Act, (∀ x, A.eval x = (ev x).den ρ'') → (execOp A.eval o).run P w = .ok (.value (r.v.den ρ'')) w := by
 unfold addrH at h
 split at h
 ·rename_i t x i hop
  split at h
  ·rename_i l k i' hx hi
   split at h
   ·rename_i m te sz z hm0 hl
    split at h
    ·rename_i fh j hfh hj
     split at h
     ·rename_i e y i2 o' l' T0 hcc
      split at h
      ·rename_i hq
       simp only [Bool.and_eq_true, Bool.not_eq_true'] at hq
       obtain ⟨⟨hl', hs⟩, hin⟩ := hq
       have hl' := nBeq_eq hl'
       have hs := nBeq_eq hs
       subst hl'
       cases h
       obtain ⟨hmm, hmid⟩ := findE_mem hfh
       have hfa := hh.facts fh hmm
       unfold FE.holds at hfa
       rw [hcc] at hfa
       obtain ⟨hzl, hR⟩ := hfa
       obtain ⟨d, hd, hsd⟩ := (TT.look_ok hT hl).under
       cases d <;> simp [Sh.of] at hsd
       subst hsd
       intro ρ'' hr A hA
       obtain ⟨q, hq, hqi⟩ := freshI_not hin
       have hsi : ρ''.s l' = ρ.s l' := by rw [← hqi]; exact (hr.2 q hq).2
       have hlt : i'.den < ((ρ.s l').n : Int) := by rw [hR.bd.len]; exact ho.2
       have hrun := run_indexAt (P := P) (TT.look_ok hT hj) hd (x := .slice (some ⟨ρ.b fh.id, 0, none⟩) (ρ.s l').n (ρ.s l').cap) (n := (ρ.s l').n) (b := ρ.b fh.id) (o := 0) (.inr ⟨rfl, _, rfl⟩) (k := k) (i := i'.den) ho.1 hlt w
       unfold execOp
       rw [hop]
       simp only [hA, hx, hi, SV.den, hsi, Sl.val, hR.at0, Sem.run_bind, hrun, Result.andThen_ok, Sem.run_pure]
       simp only [Sl.at, hR.at0, hs, Nat.add_zero, Nat.zero_add]
      ·cases h
     ·cases h
    ·cases h
   ·cases h
  ·cases h
 ·rename_i t x f hop
  split at h
  ·rename_i fs sz z l i s o' hl hx
   split at h
   ·rename_i off ft m hnf hm0
    split at h
    ·rename_i j fh hj hfh
     split at h
     ·rename_i e y i2 o2 l' T0 hcc
      split at h
      ·rename_i hq
       simp only [Bool.and_eq_true, Bool.not_eq_true'] at hq
       obtain ⟨⟨hl', hz⟩, hin⟩ := hq
       have hl' := nBeq_eq hl'
       subst hl'
       cases h
       obtain ⟨hmm, hmid⟩ := findE_mem hfh
       have hfa := hh.facts fh hmm
       unfold FE.holds at hfa
       rw [hcc] at hfa
       obtain ⟨hzl, hR⟩ := hfa
       intro ρ'' hr A hA
       obtain ⟨q, hq, hqi⟩ := freshI_not hin
       have hsi : ρ''.s l' = ρ.s l' := by rw [← hqi]; exact (hr.2 q hq).2
       have hfa := run_fieldAt hT hl hnf hj hz w (ρ.b fh.id) (i.den.toNat * s + o')
       have ha : ∀ o, (ρ.s l').at o = some ⟨ρ.b fh.id, o, none⟩ := fun o => by simp [Sl.at, hR.at0]
       unfold execOp
       rw [hop]
       simp only [hA, hx, SV.den, hsi, ha, Sem.run_bind, hfa, Result.andThen_ok, Sem.run_pure, Nat.add_assoc]
      ·cases h
     ·cases h
    ·cases h
   ·cases h
  ·cases h
 ·cases h
end hole
end Go.Proofs.Ytkeefgiajogkkaa.V
