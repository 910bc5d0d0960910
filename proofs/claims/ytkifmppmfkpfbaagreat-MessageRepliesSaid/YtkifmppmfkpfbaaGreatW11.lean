import Derived.Test.YtkifmppmfkpfbaaGreatW10
import Derived.Deep.LoopGhost
set_option linter.unusedVariables false
set_option linter.unusedSimpArgs false
namespace Go.Proofs.YtkifmppmfkpfbaaGreat.V
open Go.RowKit
section
def dstOf (ops : List Oper) (j : Nat) : Option Nat :=
 match ops, j with
 | [], _ => none
 | o :: _, 0 => o.dst
 | _ :: l, n + 1 => dstOf l n
theorem dstOf_eq (ops : List Oper) (j : Nat) : dstOf ops j = (ops[j]?).bind (·.dst) := by
 induction ops generalizing j with
 | nil => rfl
 | cons o l ih => cases j <;> simp [dstOf, ih]
def St.setT (s : St) (t : Nat) (v : SV) : St := ⟨Fr.set v 12 s.fr t, s.n, s.heap, s.ents, s.next⟩
def guardK (ops : List Oper) (o : Oper) (s : St) (run skip : St → Prop) : Prop :=
 match o.guard with
 | none => run s
 | some (j, want) =>
   match dstOf ops j with
   | none => False
   | some t =>
     match nBlt t s.n with
     | false => False
     | true => match s.fr.get t with
       | .bool (.c b) => (match b == want with | true => run s | false => skip (s.put o.dst (.val undef)))
       | .bool b => match want with
         | true => (b.den = true → run (s.setT t (.bool (.c true)))) ∧ (b.den = false → skip ((s.setT t (.bool (.c false))).put o.dst (.val undef)))
         | false => (b.den = true → skip ((s.setT t (.bool (.c true))).put o.dst (.val undef))) ∧ (b.den = false → run (s.setT t (.bool (.c false))))
       | .val (.tuple l) => (match nBeq l.size 0 with | true => skip (s.put o.dst (.val undef)) | false => False)
       | _ => False
section regions
variable {C : Cx} {P : Program} {E : Env} {ρ : Nm} {s : St} {a : Act} {w : World}
theorem Fit.same_tmp (hf : Fit E ρ s a w) {t : Nat} {v : SV} (ht : t < s.n) (h : ∀ ρ, (s.fr.get t).den ρ = v.den ρ) : Fit E ρ (s.setT t v) a w := by
 refine ⟨hf.len, hf.lim, ?_, hf.defers, hf.hp⟩
 intro ρ' hr i hi
 have hlim := hf.lim
 show a.tmps[i]? = some (((Fr.set v 12 s.fr t).get i).den ρ')
 rw [Fr.get_set v 12 s.fr t i (by omega)]
 by_cases hit : i = t
 ·subst hit
  rw [if_pos rfl, ← h]
  exact hf.tmps ρ' hr i hi
 ·rw [if_neg hit]
  exact hf.tmps ρ' hr i hi
theorem yielded_of (hf : Fit E ρ s a w) {ops : Array Oper} {j t : Nat} (hd : dstOf ops.toList j = some t) (ht : nBlt t s.n = true) :
    yielded ops a.tmps j = match (s.fr.get t).den ρ with | .bool b => some b | _ => none := by
 have hlt : t < s.n := by simpa [nBlt_iff] using ht
 rw [dstOf_eq] at hd
 have hd' : (ops[j]?).bind (·.dst) = some t := by simpa using hd
 unfold yielded
 rw [hd']
 simp only [Option.bind_some, hf.tmps ρ (Agr.refl _ _ _) t hlt]
 cases (s.fr.get t).den ρ <;> rfl
theorem guard_sound {o : Oper} {ops : Array Oper} {run skip : St → Prop} (h : guardK ops.toList o s run skip) (hf : Fit E ρ s a w) :
    (Region.wanted o (yielded ops a.tmps) = true ∧ ∃ s', Fit E ρ s' a w ∧ run s' ∧ s'.heap = s.heap ∧ s'.ents = s.ents) ∨
    (Region.wanted o (yielded ops a.tmps) = false ∧ ∃ s', Fit E ρ s' (a.put o.dst undef) w ∧ skip s' ∧ s'.heap = s.heap ∧ s'.ents = s.ents) := by
 unfold guardK at h
 unfold Region.wanted
 split at h
 ·rename_i hg
  rw [hg]
  exact .inl ⟨rfl, s, hf, h, rfl, rfl⟩
 ·rename_i j want hg
  rw [hg]
  simp only
  split at h
  ·exact h.elim
  ·rename_i t hd
   cases ht : nBlt t s.n with
   | false => rw [ht] at h; exact h.elim
   | true =>
     rw [ht] at h
     simp only [] at h
     have hlt : t < s.n := by simpa [nBlt_iff] using ht
     have hy := yielded_of hf hd ht
     split at h
     ·rename_i b hv
      rw [hv] at hy
      simp only [SV.den, bden_c] at hy
      rw [hy]
      cases hb : b == want with
      | true =>
        rw [hb] at h
        refine .inl ⟨?_, s, hf, h, rfl, rfl⟩
        simp at hb
        simp [hb]
      | false =>
        rw [hb] at h
        refine .inr ⟨?_, _, hf.put _ (fun _ _ => rfl), h, put_heap _ _ _, put_ents _ _ _⟩
        simp at hb
        simp [hb]
     ·rename_i b _ hv
      rw [hv] at hy
      simp only [SV.den] at hy
      rw [hy]
      have tr : b.den = true → ∀ ρ, (s.fr.get t).den ρ = (SV.bool (.c true)).den ρ := fun e ρ => by rw [hv]; simp only [SV.den, bden_c, e]
      have fa : b.den = false → ∀ ρ, (s.fr.get t).den ρ = (SV.bool (.c false)).den ρ := fun e ρ => by rw [hv]; simp only [SV.den, bden_c, e]
      cases want with
      | true =>
        cases hb : b.den with
        | true => exact .inl ⟨by decide, _, hf.same_tmp hlt (tr hb), h.1 hb, rfl, rfl⟩
        | false => exact .inr ⟨by decide, _, (hf.same_tmp hlt (fa hb)).put _ (fun _ _ => rfl), h.2 hb, put_heap _ _ _, put_ents _ _ _⟩
      | false =>
        cases hb : b.den with
        | true => exact .inr ⟨by decide, _, (hf.same_tmp hlt (tr hb)).put _ (fun _ _ => rfl), h.1 hb, put_heap _ _ _, put_ents _ _ _⟩
        | false => exact .inl ⟨by decide, _, hf.same_tmp hlt (fa hb), h.2 hb, rfl, rfl⟩
     ·rename_i l hv
      rw [hv] at hy
      simp only [SV.den] at hy
      rw [hy]
      cases hl : nBeq l.size 0 with
      | true => rw [hl] at h; exact .inr ⟨by simp, _, hf.put _ (fun _ _ => rfl), h, put_heap _ _ _, put_ents _ _ _⟩
      | false => rw [hl] at h; exact h.elim
     ·exact h.elim
def St.bump (s1 s2 : St) : St := match nBlt s2.next (s1.next + 64) with
 | true => ⟨s2.fr, s2.n, s2.heap, s2.ents, s1.next + 64⟩
 | false => s2
theorem Fit.bump (hf : Fit E ρ s a w) (s1 : St) : Fit E ρ (s1.bump s) a w := by
 unfold St.bump
 split
 ·exact ⟨hf.len, hf.lim, hf.tmps, hf.defers, hf.hp⟩
 ·exact hf
def vcList (C : Cx) (ops : List Oper) : List Oper → St → (St → Prop) → Prop
 | [], s, K => K s
 | o :: l, s, K => guardK ops o s (fun s1 => step C s1.next o s1 fun s2 => vcList C ops l (s1.bump s2) K) (fun s1 => vcList C ops l s1 K)
structure PanOk (E : Env) (pin : List (Nat × Nat)) (x : CxE) (Q : Exit → Act → World → Prop) : Prop where
 ins : ∀ c a a' w, a.defers = a'.defers → (∀ p ∈ pin, a'.tmps[p.1]? = a.tmps[p.1]?) → Q (.panic c) a w → Q (.panic c) a' w
 pan : ∀ s' ρ' a' w', a'.defers = E.df → PinA E pin a' → Hp E ρ' s'.heap s'.ents w' → x.pan s' → Q (.panic x.ch) a' w'
def noDst (k : Nat) : List Oper → Bool
 | [] => true
 | o :: l => (match o.dst with
   | some d => !nBeq d k
   | none => true) && noDst k l
def dstFree : List (Nat × Nat) → List Oper → Bool
 | [], _ => true
 | p :: l, ops => noDst p.1 ops && dstFree l ops
theorem noDst_mem {k : Nat} : ∀ {l : List Oper}, noDst k l = true → ∀ o ∈ l, o.dst ≠ some k
 | [], _, o, h => by cases h
 | x :: l, h, o, ho => by
   simp only [noDst, Bool.and_eq_true] at h
   rcases List.mem_cons.1 ho with rfl | ho
   ·intro e
    have h1 := h.1
    rw [e] at h1
    simp at h1
   ·exact noDst_mem h.2 o ho
theorem dstFree_mem : ∀ {ps : List (Nat × Nat)} {l : List Oper}, dstFree ps l = true → ∀ p ∈ ps, ∀ o ∈ l, o.dst ≠ some p.1
 | [], _, _, p, h => by cases h
 | x :: ps, l, h, p, hp => by
   simp only [dstFree, Bool.and_eq_true] at h
   rcases List.mem_cons.1 hp with rfl | hp
   ·exact noDst_mem h.1
   ·exact dstFree_mem h.2 p hp
theorem dst_free {ps : List (Nat × Nat)} {ops : Array Oper} (h : dstFree ps ops.toList = true) {i : Nat} {o : Oper} (ho : ops[i]? = some o) (v : Value) (a : Act) : ∀ p ∈ ps, a.tmps[p.1]? = (a.put o.dst v).tmps[p.1]? := by
 intro p hp
 have hm : o ∈ ops.toList := by
  have := Array.mem_of_getElem? ho
  simpa using this
 have hne := dstFree_mem h p hp o hm
 cases hd : o.dst with
 | none => rfl
 | some d =>
   rw [hd] at hne
   simp only [Act.put, Array.getElem?_setIfInBounds]
   rw [if_neg (fun e => hne (by rw [e]))]
def nodefL : List Oper → Bool
 | [] => true
 | o :: l => nodefB o.op && nodefL l
theorem nodefL_of {ops : Array Oper} (h : nodefs ops = true) : nodefL ops.toList = true := by
 have h : ∀ o ∈ ops.toList, nodefB o.op = true := by
  intro o ho
  exact Array.all_eq_true_iff_forall_mem.1 h o (by simpa using ho)
 generalize ops.toList = l at h
 induction l with
 | nil => rfl
 | cons o l ih => simp only [nodefL, h o List.mem_cons_self, ih fun o ho => h o (List.mem_cons_of_mem _ ho), Bool.and_self]
theorem list_sound {r : Option Nat} (hC : C.ok P E) {ops : Array Oper} {K : St → Prop} {Q : Exit → Act → World → Prop} (hQ : PanOk E C.pin C.x Q) (hn : ∀ s' ρ' a' w', Fit E ρ' s' a' w' → K s' → Q .normal a' w') :
    ∀ (l : List Oper) (s : St) (ρ : Nm) (a : Act) (w : World), nodefL l = true → vcList C ops.toList l s K → Fit E ρ s a w → wpListR r P ops Q l a w
 | [], s, ρ, a, w, _, h, hf => hn _ _ _ _ hf h
 | o :: l, s, ρ, a, w, hd, h, hf => by
   simp only [nodefL, Bool.and_eq_true] at hd
   have := guard_sound h hf
   unfold wpListR
   rcases this with ⟨hw, s', hf', h', _, _⟩ | ⟨hw, s', hf', h', _, _⟩
   ·rw [if_pos hw]
    exact step_sound hC hd.1 h' hf' hQ.pan fun s2 ρ2 a2 w2 hf2 h2 _ => list_sound hC hQ hn l _ ρ2 a2 w2 hd.2 h2 (hf2.bump s')
   ·rw [if_neg (by rw [hw]; exact Bool.false_ne_true)]
    exact list_sound hC hQ hn l s' ρ _ w hd.2 h' hf'
end regions
def bindsB (e : Edge) : Bool :=
 match e.ground with
 | .textOnly _ => false
 | .gcOnly _ => false
 | _ => true
theorem bindsB_eq (e : Edge) : Region.binds .any e = bindsB e := by
 unfold Region.binds bindsB
 cases e.ground <;> rfl
def nthB : List Bool → Nat → Bool
 | [], _ => false
 | b :: _, 0 => b
 | _ :: l, n + 1 => nthB l n
theorem nthB_eq (l : List Bool) (n : Nat) : nthB l n = l.getD n false := by
 induction l generalizing n with
 | nil => rfl
 | cons x l ih => cases n <;> simp [nthB, ih]
def waitsFor (all : List Bool) : List Edge → Bool
 | [] => true
 | e :: l => (!bindsB e || nthB all e.on) && waitsFor all l
theorem waitsFor_spec {all : List Bool} : ∀ {l : List Edge}, waitsFor all l = true ↔ ∀ e ∈ l, Region.binds .any e = true → all.getD e.on false = true
 | [] => by simp [waitsFor]
 | e :: l => by
   simp only [waitsFor, Bool.and_eq_true, waitsFor_spec (l := l), List.forall_mem_cons, bindsB_eq, nthB_eq, Bool.or_eq_true]
   constructor
   ·rintro ⟨h1, h2⟩
    refine ⟨fun hb => ?_, h2⟩
    rcases h1 with h1 | h1
    ·rw [hb] at h1; cases h1
    ·exact h1
   ·rintro ⟨h1, h2⟩
    refine ⟨?_, h2⟩
    cases hb : bindsB e
    ·exact .inl rfl
    ·exact .inr (h1 hb)
def rdy (all : List Bool) : List Oper → List Bool → Nat → List Nat
 | o :: l, b :: bs, i => (match !b && waitsFor all o.after.toList with | true => i :: rdy all l bs (i + 1) | false => rdy all l bs (i + 1))
 | _, _, _ => []
theorem mem_rdy {all : List Bool} : ∀ {ops : List Oper} {bs : List Bool} {k i : Nat}, i ∈ rdy all ops bs k ↔ k ≤ i ∧ ∃ o, ops[i - k]? = some o ∧ bs[i - k]? = some false ∧ waitsFor all o.after.toList = true
 | [], bs, k, i => by simp [rdy]
 | o :: l, [], k, i => by simp [rdy]
 | o :: l, b :: bs, k, i => by
   have ih := @mem_rdy all l bs (k + 1) i
   have key : i ∈ rdy all (o :: l) (b :: bs) k ↔ (i = k ∧ (!b && waitsFor all o.after.toList) = true) ∨ i ∈ rdy all l bs (k + 1) := by
    simp only [rdy]
    cases hq : (!b && waitsFor all o.after.toList) <;> simp
   rw [key, ih]
   constructor
   ·rintro (⟨rfl, h⟩ | ⟨hk, o', h1, h2, h3⟩)
    ·simp only [Bool.and_eq_true, Bool.not_eq_true'] at h
     exact ⟨Nat.le_refl _, o, by simp, by simp [h.1], h.2⟩
    ·refine ⟨by omega, o', ?_, ?_, h3⟩
     ·rw [show i - k = (i - (k + 1)) + 1 by omega]; simpa using h1
     ·rw [show i - k = (i - (k + 1)) + 1 by omega]; simpa using h2
   ·rintro ⟨hk, o', h1, h2, h3⟩
    by_cases hik : i = k
    ·subst hik
     simp at h1 h2
     subst h1
     exact .inl ⟨rfl, by simp [h2, h3]⟩
    ·refine .inr ⟨by omega, o', ?_, ?_, h3⟩
     ·rw [show i - k = (i - (k + 1)) + 1 by omega] at h1; simpa using h1
     ·rw [show i - k = (i - (k + 1)) + 1 by omega] at h2; simpa using h2
theorem rdy_ready {ops : Array Oper} {bs : List Bool} (hl : bs.length = ops.size) (i : Nat) : i ∈ rdy bs ops.toList bs 0 ↔ i ∈ Region.ready .any ops bs.toArray := by
 rw [mem_rdy, mem_ready]
 simp only [Nat.sub_zero, Nat.zero_le, true_and, Array.getElem?_toList]
 constructor
 ·rintro ⟨o, h1, h2, h3⟩
  refine ⟨by simp [h2], o, h1, fun e he hb => ?_⟩
  have := waitsFor_spec.1 h3 e (Array.mem_toList_iff.2 he) hb
  simpa using this
 ·rintro ⟨h0, o, h1, h3⟩
  refine ⟨o, h1, ?_, waitsFor_spec.2 fun e he hb => by simpa using h3 e (Array.mem_toList_iff.1 he) hb⟩
  have hlt : i < bs.length := by rw [hl]; exact (Array.getElem?_eq_some_iff.1 h1).1
  simp [hlt] at h0 ⊢
  exact h0
theorem rdy_nil {ops : Array Oper} {bs : List Bool} (hl : bs.length = ops.size) (h : rdy bs ops.toList bs 0 = []) : Region.ready .any ops bs.toArray = [] := by
 apply List.eq_nil_iff_forall_not_mem.2
 intro i hi
 have := (rdy_ready hl i).2 hi
 rw [h] at this
 cases this
def calm (ops : Array Oper) : Bool :=
 Region.noSelect ops && (List.range ops.size).all fun i => (List.range ops.size).all fun j =>
  j == i || match ops[i]?, ops[j]? with
  | some oi, some oj => oj.after.any (fun e => Region.binds .any e && e.on == i) || oi.after.any (fun e => Region.binds .any e && e.on == j) || oi.apart ops oj
  | _, _ => true
theorem calm_free {ops : Array Oper} (h : calm ops = true) {bs : Array Bool} {i : Nat} {oi : Oper} (hi : ops[i]? = some oi) (hr : i ∈ Region.ready .any ops bs) (j : Nat) (oj : Oper) (hj : ops[j]? = some oj) (hne : j ≠ i)
    (hun : bs.getD j true = false) (hno : ∀ e ∈ oj.after, Region.binds .any e = true → e.on ≠ i) : oi.apart ops oj = true := by
 simp only [calm, Bool.and_eq_true, List.all_eq_true, List.mem_range] at h
 have h1 := h.2 i (Array.getElem?_eq_some_iff.1 hi).1 j (Array.getElem?_eq_some_iff.1 hj).1
 simp only [hi, hj, Bool.or_eq_true, beq_iff_eq, hne, false_or] at h1
 rcases h1 with (h1 | h1) | h1
 ·obtain ⟨e, he, hb⟩ := Array.any_eq_true'.1 h1
  simp only [Bool.and_eq_true, beq_iff_eq] at hb
  exact absurd hb.2 (hno e he hb.1)
 ·obtain ⟨e, he, hb⟩ := Array.any_eq_true'.1 h1
  simp only [Bool.and_eq_true, beq_iff_eq] at hb
  obtain ⟨_, o, ho, hall⟩ := mem_ready.1 hr
  rw [hi] at ho
  cases ho
  have := hall e he hb.1
  rw [hb.2] at this
  have hlt : j < bs.size := by
   rcases Nat.lt_or_ge j bs.size with g | g
   ·exact g
   ·rw [Array.getD_eq_getD_getElem?, Array.getElem?_eq_none g] at this; cases this
  simp [hlt] at hun this
  rw [hun] at this
  cases this
 ·exact h1
def setB (bs : List Bool) (i : Nat) : List Bool := setL bs i true
def pinG : List Nat → List FE → List FE
 | [], _ => []
 | i :: l, G => match findE G i with
   | some f => f :: pinG l G
   | none => pinG l G
theorem mem_pinG {G : List FE} {f : FE} : ∀ {Q : List Nat}, f ∈ pinG Q G → ∃ i ∈ Q, findE G i = some f
 | [], h => by cases h
 | i :: l, h => by
   simp only [pinG] at h
   split at h
   ·rename_i g hg
    rcases List.mem_cons.1 h with rfl | h
    ·exact ⟨i, List.mem_cons_self, hg⟩
    ·obtain ⟨j, hj, h⟩ := mem_pinG h
     exact ⟨j, List.mem_cons_of_mem _ hj, h⟩
   ·obtain ⟨j, hj, h⟩ := mem_pinG h
    exact ⟨j, List.mem_cons_of_mem _ hj, h⟩
theorem find_append_some {news G : List FE} {i : Nat} {f : FE} (h : findE news i = some f) : findE (news ++ G) i = some f := by
 induction news with
 | nil => cases h
 | cons g l ih =>
   simp only [List.cons_append, findE] at h ⊢
   cases hb : nBeq g.id i <;> rw [hb] at h
   ·exact ih h
   ·exact h
def idsF : List FE → List Nat
 | [] => []
 | f :: l => f.id :: idsF l
theorem mem_idsF {l : List FE} {i : Nat} : i ∈ idsF l ↔ ∃ f ∈ l, f.id = i := by
 induction l with
 | nil => simp [idsF]
 | cons x l ih => simp [idsF, ih, eq_comm]
def onceF : List FE → Bool
 | [] => true
 | f :: l => freshG f.id l && onceF l
theorem onceF_find : ∀ {l : List FE}, onceF l = true → ∀ f ∈ l, findE l f.id = some f
 | [], _, f, hf => by cases hf
 | g :: l, h, f, hf => by
   simp only [onceF, Bool.and_eq_true] at h
   simp only [findE]
   rcases List.mem_cons.1 hf with rfl | hf
   ·simp
   ·have := freshG_mem h.1 f hf
    rw [beq_false' (Ne.symm this)]
    exact onceF_find h.2 f hf
def rowsF : List FE → Bool
 | [] => true
 | f :: l => (match f.c with | .rows _ _ => true | _ => false) && rowsF l
theorem rowsF_mem : ∀ {l : List FE}, rowsF l = true → ∀ f ∈ l, ∃ e x, f.c = .rows e x
 | [], _, f, h => by cases h
 | g :: l, h, f, hf => by
   simp only [rowsF, Bool.and_eq_true] at h
   rcases List.mem_cons.1 hf with rfl | hf
   ·have h1 := h.1
    split at h1
    ·rename_i e x hc; exact ⟨e, x, hc⟩
    ·cases h1
   ·exact rowsF_mem h.2 f hf
def sliceN (T : TT) (Gl : List FE) (n : Nat) (ev : Operand → SV) (t : TypeId) (x : Operand) (lo hi mx : Option Operand) : Option (PR × List FE) :=
 match mxB mx hi with
 | false => none
 | true => match ev x, boundV ev lo, boundV ev hi, boundV ev mx with
   | .fv id, some lo, some hi, some mx => match findE Gl id, TT.look T t with
     | some f, some ⟨.slice te, _, _⟩ => match f.own with
       | true => none
       | false => match f.c, TT.look T te with
         | .rows e y, some j => match nBeq j.size e.size with
           | true => some (⟨some (obPart y lo hi mx), .fv n⟩, [⟨n, false, 0, f.al, .rows e (fun u => partL (y u) lo hi)⟩])
           | false => none
         | _, _ => none
     | _, _ => none
   | _, _, _, _ => none
theorem sliceN_sound {P : Program} {E : Env} {ρ : Nm} {H : List Ent} {G Gl : List FE} {w : World} {T : TT} (hT : TT.ok P T) (hh : Hp E ρ H G w) (hsub : ∀ f ∈ Gl, f ∈ G) {n : Nat} {ev : Operand → SV} {t : TypeId} {x : Operand} {lo hi mx : Option Operand} {r : PR} {news : List FE} (h : sliceN T Gl n ev t x lo hi mx = some (r, news)) (ho : obP r.ob)
    (hfr : freshL E.lo E.hi H G news = true) (o : Oper) (hop : o.op = .slice t x lo hi mx) :
    ∃ ρ', Hp E ρ' H (news ++ G) w ∧ (∀ f ∈ news, f.own = false ∧ (∀ T, f.c ≠ .codes T) ∧ ∀ k, f.foot ρ' k → ∃ g ∈ Gl, g.foot ρ k) ∧ (∀ g ∈ G, ρ'.z g.id = ρ.z g.id) ∧ ∀ ρ'', Agr ρ' ρ'' H (news ++ G) → Agr ρ ρ'' H G ∧
      ∀ w', ∀ A : Act, (∀ x, A.eval x = (ev x).den ρ'') → (execOp A.eval o).run P w' = .ok (.value (r.v.den ρ'')) w' := by
 unfold sliceN at h
 cases hmb : mxB mx hi with
 | false => rw [hmb] at h; cases h
 | true =>
   have hmx := mxB_spec hmb
   rw [hmb] at h
   simp only [] at h
   split at h
   ·rename_i id l1 h1 m1 hx hlo hhi hmxv
    split at h
    ·rename_i f te sz z hf hl
     cases hown : f.own with
     | true => rw [hown] at h; cases h
     | false =>
       rw [hown] at h
       simp only [] at h
       split at h
       ·rename_i e y j hc hj
        cases hs : nBeq j.size e.size with
        | false => rw [hs] at h; cases h
        | true =>
          rw [hs] at h
          have hs := nBeq_eq hs
          cases h
          obtain ⟨o1, o2, o3, o4⟩ := ho
          obtain ⟨hml, hid⟩ := findE_mem hf
          have hm := hsub f hml
          have hrd := FE.reads (hh.facts f hm) hc
          obtain ⟨s', hs', hr'⟩ := hrd.part l1 h1 m1 o1 o2 o3 o4
          have hp := hh.pos f hm e y hc
          obtain ⟨d, hd, hsd⟩ := (TT.look_ok hT hl).under
          cases d <;> simp [Sh.of] at hsd
          subst hsd
          have hbd := hrd.bd
          have hle := hbd.le
          have run : ∀ (w : World) (A : Act) (ρ'' : Nm), ρ''.s id = ρ.s id → ρ''.s n = s' → (∀ x, A.eval x = (ev x).den ρ'') → (execOp A.eval o).run P w = .ok (.value ((SV.fv n).den ρ'')) w := by
           intro w A ρ'' e1 e2 hA
           unfold execOp
           rw [hop]
           have b1 := bound_den hlo A hA
           have b2 := bound_den hhi A hA
           have b3 := bound_den hmxv A hA
           have hmm : m1.isSome = true → h1.isSome = true := by
            intro hq
            have hq' : mx.isSome = true := by
             cases mx with
             | none => simp only [boundV] at hmxv; cases hmxv; simp at hq
             | some _ => rfl
            have := hmx hq'
            cases hi with
            | none => simp at this
            | some q =>
              simp only [boundV] at hhi
              split at hhi
              ·cases hhi; rfl
              ·cases hhi
           rw [hid] at hbd hs'
           have hn := hbd.len
           have := run_slice_bounds hd (TT.look_ok hT hj) (ρ.s id).a (y ()).length (ρ.s id).cap (by rw [hid] at hle; exact hle) l1 h1 m1 _ _ _ b1 b2 b3 o1 o2 o3 o4 hmm w
           simp only [hA, hx, SV.den, e1, e2, hs', Sem.run_bind]
           simp only [Sl.val, hn]
           rw [this, hs]
           rfl
          have hz := hh.zok hm hc (hh.sep hm)
          rw [hown] at hz
          have hfr1 : Fresh E n H G := by
           simp only [freshL, Bool.and_eq_true] at hfr
           obtain ⟨⟨⟨⟨⟨f1, f2⟩, f3⟩, f4⟩, _⟩, _⟩ := hfr
           exact fresh_spec (lo := E.lo) (hi := E.hi) (by simp only [fresh, Bool.and_eq_true]; exact ⟨⟨⟨f1, f2⟩, f3⟩, f4⟩) rfl rfl
          obtain ⟨k1, k2, k3⟩ := hh.share (f := ⟨n, false, 0, f.al, .rows e (fun u => partL (y u) l1 h1)⟩) hfr1 rfl rfl hp hz hr'
          refine ⟨_, k1, fun g hg => ?_, fun g hg => ?_, fun ρ'' hr => ?_⟩
          ·rcases List.mem_singleton.1 hg with rfl
           exact ⟨rfl, (fun T h => by cases h), fun k hk => ⟨f, hml, k3 k hk⟩⟩
          ·have := hfr1.G g hg
           simp [Nm.setS, this]
          ·obtain ⟨q1, q2⟩ := k2 ρ'' hr
           exact ⟨q1, fun w' A hA => run w' A ρ'' (by rw [← hid]; exact (q1.2 f hm).2) q2 hA⟩
       ·cases h
    ·cases h
   ·cases h
def wantV (ops : List Oper) (s : St) (o : Oper) : Option Bool :=
 match o.guard with
 | none => some true
 | some (j, want) => match dstOf ops j with
   | none => none
   | some t => match nBlt t s.n with
     | false => none
     | true => match s.fr.get t with
       | .bool (.c b) => some (b == want)
       | .val (.tuple l) => (match nBeq l.size 0 with | true => some false | false => none)
       | _ => none
def quietV (C : Cx) (ops : List Oper) (H : List Ent) (Gl : List FE) (id : Nat) (o : Oper) (s : St) : Option (PR × List FE) :=
 match wantV ops s o with
 | none => none
 | some false => some (⟨none, .val undef⟩, [])
 | some true =>
   match o.op with
   | .load t x => match loadV C.T H t (s.ev x) with
     | some r => some (r, [])
     | none => entV C.T Gl id s.ev o.op
   | .slice t x lo hi mx => match pureV C.T C.E s.ev (.slice t x lo hi mx) with
     | some r => some (r, [])
     | none => sliceN C.T Gl id s.ev t x lo hi mx
   | .build t parts => match buildV C.T s.ev t parts.toList with
     | some v => some (⟨none, v⟩, [])
     | none => none
   | op => match pureV C.T C.E s.ev op with
     | some r => some (r, [])
     | none => entV C.T Gl id s.ev op
theorem want_sound {P : Program} {E : Env} {ρ : Nm} {s : St} {a : Act} {w : World} {ops : Array Oper} {o : Oper} {b : Bool} (h : wantV ops.toList s o = some b) (hf : Fit E ρ s a w) : Region.wanted o (yielded ops a.tmps) = b := by
 unfold wantV at h
 unfold Region.wanted
 split at h
 ·rename_i hg
  rw [hg]
  cases h; rfl
 ·rename_i j want hg
  rw [hg]
  simp only
  split at h
  ·cases h
  ·rename_i t hd
   cases ht : nBlt t s.n with
   | false => rw [ht] at h; cases h
   | true =>
     rw [ht] at h
     simp only [] at h
     have hy := yielded_of hf hd ht
     split at h
     ·rename_i b' hv
      rw [hv] at hy
      simp only [SV.den, bden_c] at hy
      rw [hy]
      cases h
      cases b' <;> cases want <;> rfl
     ·rename_i l hv
      rw [hv] at hy
      simp only [SV.den] at hy
      rw [hy]
      cases hl : nBeq l.size 0 with
      | true => rw [hl] at h; cases h; simp
      | false => rw [hl] at h; cases h
     ·cases h
def firstOf (C : Cx) (ops : List Oper) (H : List Ent) (Gl : List FE) (base : Nat) (s : St) : List Nat → Option (Nat × Option Nat × PR × List FE)
 | [] => none
 | i :: l => match ops[i]? with
   | some o => match quietV C ops H Gl (base + 64 * i) o s with
     | some (r, news) => some (i, o.dst, r, news)
     | none => firstOf C ops H Gl base s l
   | none => firstOf C ops H Gl base s l
def allOf (p : Nat → Prop) : List Nat → Prop
 | [] => True
 | [i] => p i
 | i :: l => p i ∧ allOf p l
theorem allOf_mem {p : Nat → Prop} : ∀ {l : List Nat}, allOf p l → ∀ i ∈ l, p i
 | [], _, _, h => by cases h
 | [j], h, i, hi => by
   rw [List.mem_singleton] at hi
   subst hi
   exact h
 | j :: k :: l, h, i, hi => by
   rcases List.mem_cons.1 hi with rfl | hi
   ·exact h.1
   ·exact allOf_mem h.2 i hi
def stOk (C : Cx) (H : List Ent) (Q : List Nat) (op : Op) (s : St) : Bool :=
 match chgOf C op s with
 | .one b => freshE b H && !memN b Q
 | .two a b => freshE a H && !memN a Q && (freshE b H && !memN b Q)
 | .no => true
 | .all => match H, Q with
   | [], [] => true
   | _, _ => false
def ownOf (G : List FE) (i : Nat) : Bool := match findE G i with
 | some f => f.own
 | none => false
def allAlive (G0 G : List FE) : List Nat → Bool
 | [] => true
 | i :: l => aliveE G i && eqB (ownOf G i) (ownOf G0 i) && allAlive G0 G l
theorem allAlive_mem {G0 G : List FE} : ∀ {l : List Nat}, allAlive G0 G l = true → ∀ i ∈ l, aliveE G i = true ∧ ownOf G i = ownOf G0 i
 | [], _, i, h => by cases h
 | j :: l, h, i, hi => by
   simp only [allAlive, Bool.and_eq_true] at h
   rcases List.mem_cons.1 hi with rfl | hi
   ·exact ⟨h.1.1, eqB_eq h.1.2⟩
   ·exact allAlive_mem h.2 i hi
structure Lz (p : Unit → Prop) : Prop where
 h : p ()
def lzIf (b : Bool) (p : Unit → Prop) : Prop := match b with
 | true => Lz p
 | false => p ()
theorem lzIf_spec {b : Bool} {p : Unit → Prop} (h : lzIf b p) : p () := by
 cases b with
 | true => exact h.h
 | false => exact h
def unkG (ops : List Oper) (s : St) : List Nat → Option (Nat × BE)
 | [] => none
 | i :: l => match ops[i]? with
   | some o => match o.guard with
     | some (j, _) => match dstOf ops j with
       | some t => match nBlt t s.n with
         | true => match s.fr.get t with
           | .bool (.c _) => unkG ops s l
           | .bool b => some (t, b)
           | _ => unkG ops s l
         | false => unkG ops s l
       | none => unkG ops s l
     | none => unkG ops s l
   | none => unkG ops s l
theorem unkG_spec {ops : List Oper} {s : St} {t : Nat} {b : BE} : ∀ {l : List Nat}, unkG ops s l = some (t, b) → t < s.n ∧ s.fr.get t = .bool b
 | [], h => by cases h
 | i :: l, h => by
   unfold unkG at h
   split at h
   ·split at h
    ·split at h
     ·split at h
      ·rename_i hn
       split at h
       ·exact unkG_spec h
       ·rename_i b' _ hb
        cases h
        exact ⟨by simpa [nBlt_iff] using hn, hb⟩
       ·exact unkG_spec h
      ·exact unkG_spec h
     ·exact unkG_spec h
    ·exact unkG_spec h
   ·exact unkG_spec h
def lzS (n : Nat) : Bool := memN n [10, 18, 26, 34, 42, 50, 58, 66]
def lzA (n : Nat) : Bool := match nBlt 24 n with
 | true => true
 | false => lzS n
def someStep (C : Cx) (bs : List Bool) (lz : Bool) (rec : List Bool → List Nat → St → Prop) (Q : List Nat) (s : St) (i : Nat) (d : Option Nat) (pr : PR) (news : List FE) : Prop :=
 (freshL C.lo C.hi s.heap s.ents news && onceF news && rowsF news) = true ∧ obK pr.ob (lzIf lz fun _ => rec (setB bs i) (catN (idsF news) Q) ((s.withE (catE news s.ents)).put d pr.v))
def allStep (C : Cx) (ops : List Oper) (H : List Ent) (base : Nat) (bs : List Bool) (lz : Bool) (rec : List Bool → List Nat → St → Prop) (Q : List Nat) (s : St) (l : List Nat) : Prop :=
 allOf (fun i => match ops[i]? with
       | some o => guardK ops o s (fun s1 => stOk C H Q o.op s1 = true ∧ step C (base + 64 * i) o s1 fun s2 => allAlive s1.ents s2.ents Q = true ∧ lzIf lz fun _ => rec (setB bs i) Q s2) (fun s1 => lzIf lz fun _ => rec (setB bs i) Q s1)
       | none => False) l
def anyStep (C : Cx) (ops : List Oper) (H : List Ent) (base : Nat) (bs : List Bool) (lz lz2 : Bool) (rec : List Bool → List Nat → St → Prop) (Q : List Nat) (s : St) (l : List Nat) : Prop :=
 match firstOf C ops H (pinG Q s.ents) base s l with
 | some (i, d, pr, news) => someStep C bs lz rec Q s i d pr news
 | none => allStep C ops H base bs lz2 rec Q s l
def vcAny (C : Cx) (ops : List Oper) (H : List Ent) (base : Nat) (K : St → Prop) : Nat → List Bool → List Nat → St → Prop
 | 0, bs, Q, s => match rdy bs ops bs 0 with
   | [] => K s
   | _ => False
 | n + 1, bs, Q, s => match rdy bs ops bs 0 with
   | [] => K s
   | r :: rs => match firstOf C ops H (pinG Q s.ents) base s (r :: rs) with
     | some (i, d, pr, news) => someStep C bs (lzS n) (vcAny C ops H base K n) Q s i d pr news
     | none => match unkG ops s (r :: rs) with
       | none => allStep C ops H base bs (lzA n) (vcAny C ops H base K n) Q s (r :: rs)
       | some (t, b) => (b.den = true → anyStep C ops H base bs (lzS n) (lzA n) (vcAny C ops H base K n) Q (s.setT t (.bool (.c true))) (r :: rs)) ∧ (b.den = false → anyStep C ops H base bs (lzS n) (lzA n) (vcAny C ops H base K n) Q (s.setT t (.bool (.c false))) (r :: rs))
def oneStep (C : Cx) (ops : List Oper) (H : List Ent) (base : Nat) (K : St → Prop) (lz lz2 : Bool) (N : List Bool → List Nat → St → Prop) (bs : List Bool) (Q : List Nat) (s : St) : Prop :=
 match rdy bs ops bs 0 with
 | [] => K s
 | r :: rs => match firstOf C ops H (pinG Q s.ents) base s (r :: rs) with
   | some (i, d, pr, news) => someStep C bs lz N Q s i d pr news
   | none => match unkG ops s (r :: rs) with
     | none => allStep C ops H base bs lz2 N Q s (r :: rs)
     | some (t, b) => (b.den = true → anyStep C ops H base bs lz lz2 N Q (s.setT t (.bool (.c true))) (r :: rs)) ∧ (b.den = false → anyStep C ops H base bs lz lz2 N Q (s.setT t (.bool (.c false))) (r :: rs))
structure DS where
 b : List Bool
 Q : List Nat
 S : St → Prop
inductive SetIn (b : List Bool) (Q : List Nat) (s : St) : List DS → Prop
 | hd {S : St → Prop} {l : List DS} (h : S s) : SetIn b Q s (⟨b, Q, S⟩ :: l)
 | tl {y : DS} {l : List DS} (h : SetIn b Q s l) : SetIn b Q s (y :: l)
inductive Closed : List DS → Prop
 | nil : Closed []
 | cons {x : DS} {l : List DS} (h : Closed l) : Closed (x :: l)
structure SetsK (f g : List DS → Prop) : Prop where
 ex : ∃ L, (Lz fun _ => f L) ∧ Closed L ∧ Lz fun _ => g L
theorem SetsK.at {f g : List DS → Prop} (L : List DS) (h1 : Lz fun _ => f L) (h2 : Closed L) (h3 : Lz fun _ => g L) : SetsK f g := ⟨L, h1, h2, h3⟩
structure AllP (S K : St → Prop) : Prop where
 all : ∀ s, S s → K s
structure S0 (s0 s : St) : Prop where
 eq : s = s0
structure S1 {α : Type} (p : α → Prop) (F : α → St) (s : St) : Prop where
 ex : ∃ a, p a ∧ s = F a
structure S2 {α β : Type} (p : α → Prop) (q : α → β → Prop) (F : α → β → St) (s : St) : Prop where
 ex : ∃ a b, p a ∧ q a b ∧ s = F a b
structure S3 {α β γ : Type} (p : α → Prop) (q : α → β → Prop) (r : α → β → γ → Prop) (F : α → β → γ → St) (s : St) : Prop where
 ex : ∃ a b c, p a ∧ q a b ∧ r a b c ∧ s = F a b c
structure S4 {α β γ δ : Type} (p : α → Prop) (q : α → β → Prop) (r : α → β → γ → Prop) (u : α → β → γ → δ → Prop) (F : α → β → γ → δ → St) (s : St) : Prop where
 ex : ∃ a b c d, p a ∧ q a b ∧ r a b c ∧ u a b c d ∧ s = F a b c d
section kinds
variable {K : St → Prop} {α β γ δ : Type} {p : α → Prop} {q : α → β → Prop} {r : α → β → γ → Prop} {u : α → β → γ → δ → Prop} {l : List DS} {bs : List Bool} {Q : List Nat}
theorem S0.i {s : St} : S0 s s := ⟨rfl⟩
theorem S1.i {F : α → St} (a : α) (h1 : p a) : S1 p F (F a) := ⟨a, h1, rfl⟩
theorem S2.i {F : α → β → St} (a : α) (b : β) (h1 : p a) (h2 : q a b) : S2 p q F (F a b) := ⟨a, b, h1, h2, rfl⟩
theorem S3.i {F : α → β → γ → St} (a : α) (b : β) (c : γ) (h1 : p a) (h2 : q a b) (h3 : r a b c) : S3 p q r F (F a b c) := ⟨a, b, c, h1, h2, h3, rfl⟩
theorem S4.i {F : α → β → γ → δ → St} (a : α) (b : β) (c : γ) (d : δ) (h1 : p a) (h2 : q a b) (h3 : r a b c) (h4 : u a b c d) : S4 p q r u F (F a b c d) := ⟨a, b, c, d, h1, h2, h3, h4, rfl⟩
structure SetAt (S : St → Prop) (s : St) : Prop where
 h : S s
theorem SetIn.at {S : St → Prop} {s : St} (h : SetAt S s) : SetIn bs Q s (⟨bs, Q, S⟩ :: l) := .hd h.h
theorem SetAt.i0 {s : St} : SetAt (S0 s) s := ⟨S0.i⟩
end kinds
def AllS (p : DS → Prop) : List DS → Prop
 | [] => True
 | [x] => p x
 | x :: l => (Lz fun _ => p x) ∧ AllS p l
theorem AllS_mem {p : List Bool → List Nat → St → Prop} {b : List Bool} {Q : List Nat} {s : St} : ∀ {l : List DS}, AllS (fun x => AllP x.S fun s => p x.b x.Q s) l → SetIn b Q s l → p b Q s
 | [], _, hx => by cases hx
 | [y], h, hx => by
   cases hx with
   | hd h' => exact h.all s h'
   | tl h' => cases h'
 | y :: z :: l, h, hx => by
   cases hx with
   | hd h' => exact h.1.h.all s h'
   | tl h' => exact AllS_mem h.2 h'
def vcSets (C : Cx) (ops : List Oper) (H : List Ent) (base : Nat) (K : St → Prop) : Nat → List DS → Prop
 | 0, L => AllS (fun x => AllP x.S fun s => match rdy x.b ops x.b 0 with
   | [] => K s
   | _ => False) L
 | n + 1, L => SetsK (fun L' => AllS (fun x => AllP x.S fun s => oneStep C ops H base K false false (fun b Q s => SetIn b Q s L') x.b x.Q s) L) (fun L' => vcSets C ops H base K n L')
def Stands (ρ : Nm) (H : List Ent) (w : World) : Prop := ∀ e ∈ H, w.heap[ρ.b e.id]? = some (.cells (SV.dens ρ e.cells).toArray e.ty (0, 0))
section any
variable {C : Cx} {P : Program} {E : Env}
theorem firstOf_spec {ops : List Oper} {H : List Ent} {Gl : List FE} {base : Nat} {s : St} : ∀ {l : List Nat} {i : Nat} {d : Option Nat} {r : PR} {news : List FE}, firstOf C ops H Gl base s l = some (i, d, r, news) → i ∈ l ∧ ∃ o, ops[i]? = some o ∧ o.dst = d ∧ quietV C ops H Gl (base + 64 * i) o s = some (r, news)
 | [], _, _, _, _, h => by cases h
 | j :: l, i, d, r, news, h => by
   unfold firstOf at h
   split at h
   ·rename_i o ho
    split at h
    ·rename_i r' news' hr
     cases h
     exact ⟨List.mem_cons_self, o, ho, rfl, hr⟩
    ·obtain ⟨h1, h2⟩ := firstOf_spec h
     exact ⟨List.mem_cons_of_mem _ h1, h2⟩
   ·obtain ⟨h1, h2⟩ := firstOf_spec h
    exact ⟨List.mem_cons_of_mem _ h1, h2⟩
theorem quiet_sound (hC : C.ok P E) {ops : Array Oper} {H : List Ent} {Gl : List FE} {id : Nat} {o : Oper} {s : St} {r : PR} {news : List FE} (h : quietV C ops.toList H Gl id o s = some (r, news)) (ho : obP r.ob) {ρ : Nm} {a : Act} {w : World} (hf : Fit E ρ s a w)
    (hsub : ∀ f ∈ Gl, f ∈ s.ents) (hfr : freshL E.lo E.hi s.heap s.ents news = true) {S : World → Prop} (hS : ∀ w', S w' → (∀ ρ', Agr ρ ρ' s.heap s.ents → Stands ρ' H w') ∧ ∀ f ∈ Gl, ∀ k, f.foot ρ k → w'.heap[k]? = w.heap[k]?) :
    ∃ ρ', Hp E ρ' s.heap (news ++ s.ents) w ∧ (∀ f ∈ news, f.own = false ∧ (∀ T, f.c ≠ .codes T) ∧ ∀ k, f.foot ρ' k → ∃ g ∈ Gl, g.foot ρ k) ∧ (∀ g ∈ s.ents, ρ'.z g.id = ρ.z g.id) ∧
      ∀ ρ'', Agr ρ' ρ'' s.heap (news ++ s.ents) → Agr ρ ρ'' s.heap s.ents ∧ YieldsIf P ops S o (r.v.den ρ'') a := by
 unfold quietV at h
 split at h
 ·cases h
 ·rename_i hg
  cases h
  exact ⟨ρ, hf.hp, fun f hf => (by cases hf), fun _ _ => rfl, fun ρ'' hr' => ⟨hr', .inr ⟨want_sound (P := P) hg hf, by simp only [SV.den]⟩⟩⟩
 ·rename_i hg
  have hwt := want_sound (P := P) hg hf
  have plain : (∀ ρ', Agr ρ ρ' s.heap s.ents → ∀ w', S w' → (execOp a.eval o).run P w' = .ok (.value (r.v.den ρ')) w') → news = [] → ∃ ρ', Hp E ρ' s.heap (news ++ s.ents) w ∧ (∀ f ∈ news, f.own = false ∧ (∀ T, f.c ≠ .codes T) ∧ ∀ k, f.foot ρ' k → ∃ g ∈ Gl, g.foot ρ k) ∧ (∀ g ∈ s.ents, ρ'.z g.id = ρ.z g.id) ∧
      ∀ ρ'', Agr ρ' ρ'' s.heap (news ++ s.ents) → Agr ρ ρ'' s.heap s.ents ∧ YieldsIf P ops S o (r.v.den ρ'') a := by
   rintro hr rfl
   exact ⟨ρ, hf.hp, fun f hf => (by cases hf), fun _ _ => rfl, fun ρ'' hr' => ⟨hr', .inl ⟨hwt, fun w' hw' => hr ρ'' hr' w' hw'⟩⟩⟩
  have ent : entV C.T Gl id s.ev o.op = some (r, news) → ∃ ρ', Hp E ρ' s.heap (news ++ s.ents) w ∧ (∀ f ∈ news, f.own = false ∧ (∀ T, f.c ≠ .codes T) ∧ ∀ k, f.foot ρ' k → ∃ g ∈ Gl, g.foot ρ k) ∧ (∀ g ∈ s.ents, ρ'.z g.id = ρ.z g.id) ∧
      ∀ ρ'', Agr ρ' ρ'' s.heap (news ++ s.ents) → Agr ρ ρ'' s.heap s.ents ∧ YieldsIf P ops S o (r.v.den ρ'') a := by
   intro hv
   obtain ⟨ρ', q1, q2, q3, q4⟩ := ent_sound hC.T hf.hp hsub hv ho hfr o rfl
   exact ⟨ρ', q1, q2, q3, fun ρ'' hr => ⟨(q4 ρ'' hr).1, .inl ⟨hwt, fun w' hw' => (q4 ρ'' hr).2 w' (hS w' hw').2 a (hf.ev (q4 ρ'' hr).1)⟩⟩⟩
  split at h
  ·rename_i t x hop
   split at h
   ·rename_i r' hv
    cases h
    refine plain (fun ρ' hr w' hw' => ?_) rfl
    unfold execOp
    simp only [hop, Sem.run_bind, hf.ev hr, load_stands hC.T ((hS w' hw').1 ρ' hr) hv ho]
    rfl
   ·exact ent h
  ·rename_i t x lo hi mx hop
   split at h
   ·rename_i r' hv
    cases h
    exact plain (fun ρ' hr w' hw' => pure_sound hC.T hC.eqs hv ho o hop ρ' a (hf.ev hr) w') rfl
   ·obtain ⟨ρ', q1, q2, q3, q4⟩ := sliceN_sound hC.T hf.hp hsub h ho hfr o hop
    exact ⟨ρ', q1, q2, q3, fun ρ'' hr => ⟨(q4 ρ'' hr).1, .inl ⟨hwt, fun w' hw' => (q4 ρ'' hr).2 w' a (hf.ev (q4 ρ'' hr).1)⟩⟩⟩
  ·rename_i t parts hop
   split at h
   ·rename_i v hv
    cases h
    refine plain (fun ρ' hr w' hw' => ?_) rfl
    have := build_sound hC.T hv ρ' a (hf.ev hr) w'
    unfold execOp
    have e1 : parts.map (fun p => (p.1, a.eval p.2)) = (parts.toList.map fun p => (p.1, a.eval p.2)).toArray := by apply Array.ext'; simp
    simp only [hop, Sem.run_bind, e1, this, Result.andThen_ok, Sem.run_pure]
   ·cases h
  ·split at h
   ·rename_i r' hv
    cases h
    exact plain (fun ρ' hr w' hw' => pure_sound hC.T hC.eqs hv ho o rfl ρ' a (hf.ev hr) w') rfl
   ·exact ent h
theorem _root_.Go.YieldsIf.det2 {ops : Array Oper} {S : World → Prop} {o : Oper} {u v : Value} {a : Act} {w : World} (h1 : YieldsIf P ops S o u a) (h2 : YieldsIf P ops S o v a) (hw : S w) : u = v := by
 rcases h1 with ⟨h1, k1⟩ | ⟨h1, rfl⟩ <;> rcases h2 with ⟨h2, k2⟩ | ⟨h2, rfl⟩
 ·have e1 := k1 w hw
  rw [k2 w hw] at e1
  simpa using e1.symm
 ·rw [h1] at h2; cases h2
 ·rw [h1] at h2; cases h2
 ·rfl
structure Fix (ρ0 : Nm) (H : List Ent) (Pn : Nat → Prop) (w0 : World) (qs : List Nat) (ρ : Nm) (s : St) (w : World) : Prop where
 H : ∀ e ∈ H, e ∈ s.heap ∧ ρ.b e.id = ρ0.b e.id ∧ SV.dens ρ e.cells = SV.dens ρ0 e.cells
 Q : ∀ i ∈ qs, ∃ f, findE s.ents i = some f ∧ (∃ e x, f.c = .rows e x) ∧ ∀ k, f.foot ρ k → Pn k
 P : ∀ k, Pn k → ∃ i ∈ qs, ∃ f, findE s.ents i = some f ∧ f.foot ρ k
 w : ∀ k, Pn k → w.heap[k]? = w0.heap[k]?
theorem aliveE_spec {G : List FE} {i : Nat} (h : aliveE G i = true) : ∃ f e x, findE G i = some f ∧ f.c = .rows e x := by
 unfold aliveE at h
 split at h
 ·rename_i f hf
  split at h
  ·rename_i e x hc; exact ⟨f, e, x, hf, hc⟩
  ·cases h
 ·cases h
theorem one_sound {rn : Option Nat} (hC : C.ok P E) {ops : Array Oper} (hcalm : calm ops = true) (hnd : nodefs ops = true) (hpd : dstFree C.pin ops.toList = true) {H : List Ent} {base : Nat} {K : St → Prop} {Q : Exit → Act → World → Prop} (hQ : PanOk E C.pin C.x Q)
    (hn : ∀ s' ρ' a' w', Fit E ρ' s' a' w' → K s' → Q .normal a' w') (ρ0 : Nm) (Pn : Nat → Prop) (w0 : World) (n : Nat) (N : List Bool → List Nat → St → Prop)
    (ih : ∀ (bs : List Bool) (qs : List Nat) (s : St) (ρ : Nm) (a : Act) (w : World), bs.length = ops.size → N bs qs s → Fit E ρ s a w → Fix ρ0 H Pn w0 qs ρ s w →
     wpHeld rn P ops Q (fun w => Stands ρ0 H w ∧ ∀ k, Pn k → w.heap[k]? = w0.heap[k]?) n bs.toArray a w) (lz lz2 : Bool) (bs : List Bool) (qs : List Nat) (s : St) (ρ : Nm) (a : Act) (w : World) (hl : bs.length = ops.size) (h : oneStep C ops.toList H base K lz lz2 N bs qs s) (hf : Fit E ρ s a w) (hx : Fix ρ0 H Pn w0 qs ρ s w) :
    wpHeld rn P ops Q (fun w => Stands ρ0 H w ∧ ∀ k, Pn k → w.heap[k]? = w0.heap[k]?) (n + 1) bs.toArray a w := by
 have hSof : ∀ {s : St} {ρ : Nm} {a : Act} {w : World} {qs : List Nat}, Fit E ρ s a w → Fix ρ0 H Pn w0 qs ρ s w → Stands ρ0 H w ∧ ∀ k, Pn k → w.heap[k]? = w0.heap[k]? := by
  intro s ρ a w qs hf hx
  refine ⟨fun e he => ?_, hx.w⟩
  obtain ⟨h1, h2, h3⟩ := hx.H e he
  rw [← h2, ← h3]
  exact hf.hp.block ρ (Agr.refl _ _ _) e h1
 have stp : ∀ (r : Nat) (rs : List Nat) (lz lz2 : Bool), rdy bs ops.toList bs 0 = r :: rs → ∀ (s : St), anyStep C ops.toList H base bs lz lz2 N qs s (r :: rs) → Fit E ρ s a w → Fix ρ0 H Pn w0 qs ρ s w →
     wpHeld rn P ops Q (fun w => Stands ρ0 H w ∧ ∀ k, Pn k → w.heap[k]? = w0.heap[k]?) (n + 1) bs.toArray a w := by
  intro r rs lz lz2 hr s h hf hx
  unfold anyStep at h
  have hset : ∀ i, (setB bs i).toArray = bs.toArray.setIfInBounds i true := fun i => by simp [setB, setL_set]
  have hsl : ∀ i, (setB bs i).length = ops.size := fun i => by rw [setB, setL_length, hl]
  split at h
  ·rename_i i d pr news hfi
   unfold someStep at h
   obtain ⟨hi, o, ho, rfl, hq⟩ := firstOf_spec hfi
   obtain ⟨hfr, h⟩ := h
   simp only [Bool.and_eq_true] at hfr
   obtain ⟨⟨hfr, honce⟩, hrows⟩ := hfr
   rw [← hC.lo, ← hC.hi] at hfr
   obtain ⟨hob, hk⟩ := obK_spec h
   replace hk := lzIf_spec hk
   rw [← hr, rdy_ready hl] at hi
   have ho' : ops[i]? = some o := by simpa using ho
   have hpin : ∀ f ∈ pinG qs s.ents, f ∈ s.ents ∧ ∀ k, f.foot ρ k → Pn k := by
    intro f hf
    obtain ⟨j, hj, hfj⟩ := mem_pinG hf
    obtain ⟨f', h1, _, h2⟩ := hx.Q j hj
    rw [hfj] at h1
    cases h1
    exact ⟨(findE_mem hfj).1, h2⟩
   obtain ⟨ρ', q1, q2, q3, q4⟩ := quiet_sound (ops := ops) (S := fun w => Stands ρ0 H w ∧ ∀ k, Pn k → w.heap[k]? = w0.heap[k]?) hC hq hob hf (fun f hf => (hpin f hf).1) hfr (fun w' hw' => ⟨fun ρ' hr e he => by
    obtain ⟨h1, h2, h3⟩ := hx.H e he
    rw [hr.1 e h1, h2, hf.hp.cells_agree hr h1, h3]
    exact hw'.1 e he, fun f hf k hk => (hw'.2 k ((hpin f hf).2 k hk)).trans (hx.w k ((hpin f hf).2 k hk)).symm⟩)
   have hS := hSof hf hx
   have q5 := q4 ρ' (Agr.refl _ _ _)
   have hsame : ∀ ρ'', Agr ρ' ρ'' s.heap (news ++ s.ents) → pr.v.den ρ'' = pr.v.den ρ' := fun ρ'' hr => (q4 ρ'' hr).2.det2 q5.2 hS
   have hns := Region.noSelect_spec (ops := ops) (by simp only [calm, Bool.and_eq_true] at hcalm; exact hcalm.1)
   refine wpHeld_first hnd ho' hns (fun c a w hq => hQ.ins _ _ _ _ (by cases o.dst <;> rfl) (dst_free hpd ho' _ _) hq) n bs.toArray a w ?_ hi q5.2 hS ?_
   ·intro j oj hj hne hun hno
    exact calm_free hcalm ho' hi j oj hj hne hun hno
   ·rw [← hset]
    have q1' : Hp E ρ' s.heap (catE news s.ents) w := by rw [catE_eq]; exact q1
    have fit' := hf.mem s.next q1' fun ρ'' hr => (q4 ρ'' (by rw [← catE_eq]; exact hr)).1
    refine ih _ _ _ ρ' _ w (hsl i) hk (fit'.put o.dst fun ρ'' hr => hsame ρ'' (by rw [← catE_eq]; exact hr)) ⟨fun e he => ?_, fun j hj => ?_, fun k hk => ?_, hx.w⟩
    ·rw [put_heap]
     obtain ⟨h1, h2, h3⟩ := hx.H e he
     exact ⟨h1, (q5.1.1 e h1).trans h2, (hf.hp.cells_agree q5.1 h1).trans h3⟩
    ·rw [put_ents]
     show ∃ f, findE (catE news s.ents) j = some f ∧ _
     rw [catE_eq]
     rw [catN_eq] at hj
     have newq : ∀ g ∈ news, ∃ f, findE (news ++ s.ents) g.id = some f ∧ (∃ e x, f.c = .rows e x) ∧ ∀ k, f.foot ρ' k → Pn k := by
      intro g hg
      refine ⟨g, find_append_some (onceF_find honce g hg), rowsF_mem hrows g hg, fun k hk => ?_⟩
      ·obtain ⟨_, _, h3⟩ := q2 g hg
       obtain ⟨f, hf1, hf2⟩ := h3 k hk
       exact (hpin f hf1).2 k hf2
     by_cases hjn : j ∈ idsF news
     ·obtain ⟨g, hg, rfl⟩ := mem_idsF.1 hjn
      exact newq g hg
     ·have hj' : j ∈ qs := (List.mem_append.1 hj).elim (fun h => absurd h hjn) id
      obtain ⟨f, h1, h2, h3⟩ := hx.Q j hj'
      refine ⟨f, by rw [find_append_ne fun g hg e0 => hjn (mem_idsF.2 ⟨g, hg, e0⟩)]; exact h1, h2, fun k hk => h3 k ?_⟩
      have hm := (findE_mem h1).1
      rw [FE.foot_names (q5.1.2 f hm).1 (q5.1.2 f hm).2 (q3 f hm)] at hk
      exact hk
    ·rw [put_ents]
     show ∃ i ∈ catN (idsF news) qs, ∃ f, findE (catE news s.ents) i = some f ∧ _
     rw [catE_eq, catN_eq]
     obtain ⟨j, hj, f, h1, h2⟩ := hx.P k hk
     have hm := (findE_mem h1).1
     refine ⟨j, List.mem_append_right _ hj, f, ?_, by rw [FE.foot_names (q5.1.2 f hm).1 (q5.1.2 f hm).2 (q3 f hm)]; exact h2⟩
     rw [find_append_ne fun g hg e0 => freshL_ne hfr g hg f hm (by rw [e0, (findE_mem h1).2])]
     exact h1
  ·unfold allStep at h
   refine ⟨fun h0 => absurd h0 ?_, fun i hi => ?_⟩
   ·intro h0
    have : r ∈ Region.ready .any ops bs.toArray := (rdy_ready hl r).1 (by rw [hr]; exact List.mem_cons_self)
    rw [h0] at this
    cases this
   ·have hi' := (rdy_ready hl i).2 hi
    rw [hr] at hi'
    have hp := allOf_mem h i hi'
    simp only [Array.getElem?_toList] at hp
    unfold wpOpR
    cases ho : ops[i]? with
    | none => rw [ho] at hp; exact hp.elim
    | some o =>
      rw [ho] at hp
      simp only at hp ⊢
      rcases guard_sound hp hf with ⟨hw, s', hf', h', he, hfa⟩ | ⟨hw, s', hf', h', he, hfa⟩
      ·rw [if_pos hw]
       obtain ⟨hso, h'⟩ := h'
       refine step_sound hC (nodefs_at hnd ho) h' hf' hQ.pan fun s2 ρ2 a2 w2 hf2 ⟨h2, h3⟩ hext => ?_
       have hx2 : Fix ρ0 H Pn w0 qs ρ2 s2 w2 := by
        have hw2 : ∀ j ∈ qs, ∃ f f', findE s.ents j = some f ∧ findE s2.ents j = some f' ∧ (∃ e x, f'.c = .rows e x) ∧ (∀ k, f.foot ρ k → f'.foot ρ2 k) ∧ (∀ k, f'.foot ρ2 k → Pn k) ∧ ∀ k, f.foot ρ k → w2.heap[k]? = w.heap[k]? := by
         intro j hj
         obtain ⟨f, g1, ⟨e, x, g2⟩, g3⟩ := hx.Q j hj
         have hne : ¬ (chgOf C o.op s').has j := by
          intro e2
          unfold stOk at hso
          split at hso
          ·rename_i b hb
           rw [hb] at e2
           have e2 : b = j := e2
           subst e2
           simp only [Bool.and_eq_true, Bool.not_eq_true'] at hso
           rw [memN_mem.2 hj] at hso
           cases hso.2
          ·rename_i c b hb
           rw [hb] at e2
           simp only [Bool.and_eq_true, Bool.not_eq_true'] at hso
           rcases (show c = j ∨ b = j from e2) with e2 | e2
           ·subst e2
            rw [memN_mem.2 hj] at hso
            cases hso.1.2
           ·subst e2
            rw [memN_mem.2 hj] at hso
            cases hso.2.2
          ·rename_i hb
           rw [hb] at e2
           exact e2
          ·split at hso
           ·cases hj
           ·cases hso
         obtain ⟨al1, al2⟩ := allAlive_mem h2 j hj
         obtain ⟨f', r1, r2, r3, r4⟩ := hext.G j f hne (by rw [hfa]; exact g1) al1
         unfold ownOf at al2
         rw [r1, hfa, g1] at al2
         exact ⟨f, f', g1, r1, ⟨e, x, r2.trans g2⟩, r3.sup al2, fun k hk => g3 k (r3.sub k hk), r4⟩
        refine ⟨fun e heH => ?_, fun j hj => ?_, fun k hk => ?_, fun k hk => ?_⟩
        ·obtain ⟨k1, k2, k3⟩ := hx.H e heH
         have hne : ¬ (chgOf C o.op s').has e.id := by
          intro e2
          unfold stOk at hso
          split at hso
          ·rename_i b hb
           rw [hb] at e2
           have e2 : b = e.id := e2
           subst e2
           simp only [Bool.and_eq_true] at hso
           exact freshE_mem hso.1 e heH rfl
          ·rename_i c b hb
           rw [hb] at e2
           simp only [Bool.and_eq_true] at hso
           rcases (show c = e.id ∨ b = e.id from e2) with e2 | e2
           ·exact freshE_mem hso.1.1 e heH e2.symm
           ·exact freshE_mem hso.2.1 e heH e2.symm
          ·rename_i hb
           rw [hb] at e2
           exact e2
          ·split at hso
           ·cases heH
           ·cases hso
         obtain ⟨x1, x2, x3⟩ := hext.H e (he ▸ k1) hne
         exact ⟨x1, x2.trans k2, x3.trans k3⟩
        ·obtain ⟨f, f', _, r1, r2, _, r3, _⟩ := hw2 j hj
         exact ⟨f', r1, r2, r3⟩
        ·obtain ⟨j, hj, f, p1, p2⟩ := hx.P k hk
         obtain ⟨f0, f', g1, r1, _, r2, _, _⟩ := hw2 j hj
         rw [p1] at g1
         cases g1
         exact ⟨j, hj, f', r1, r2 k p2⟩
        ·obtain ⟨j, hj, f, p1, p2⟩ := hx.P k hk
         obtain ⟨f0, f', g1, _, _, _, _, r4⟩ := hw2 j hj
         rw [p1] at g1
         cases g1
         exact (r4 k p2).trans (hx.w k hk)
       rw [← hset]
       exact ⟨hSof hf2 hx2, ih _ _ _ ρ2 _ _ (hsl i) (lzIf_spec h3) hf2 hx2⟩
      ·rw [if_neg (by rw [hw]; exact Bool.false_ne_true)]
       rw [← hset]
       have hx2 : Fix ρ0 H Pn w0 qs ρ s' w := ⟨fun e heH => he ▸ hx.H e heH, fun j hj => by rw [hfa]; exact hx.Q j hj, fun k hk => by rw [hfa]; exact hx.P k hk, hx.w⟩
       exact ⟨hSof hf' hx2, ih _ _ _ ρ _ _ (hsl i) (lzIf_spec h') hf' hx2⟩
 unfold oneStep at h
 split at h
 ·rename_i hr
  exact wpHeld_done (rdy_nil hl hr) (hn _ _ _ _ hf h) _
 ·rename_i r rs hr
  split at h
  ·rename_i i d pr news hfi
   refine stp r rs lz false hr s ?_ hf hx
   unfold anyStep
   rw [hfi]
   exact h
  ·rename_i hfi
   split at h
   ·refine stp r rs false lz2 hr s ?_ hf hx
    unfold anyStep
    rw [hfi]
    exact h
   ·rename_i t b hu
    obtain ⟨ht, hb⟩ := unkG_spec hu
    cases hbd : b.den with
    | true =>
      exact stp r rs _ _ hr _ (h.1 hbd) (hf.same_tmp ht (fun ρ => by rw [hb]; simp only [SV.den, bden_c, hbd])) ⟨hx.H, hx.Q, hx.P, hx.w⟩
    | false =>
      exact stp r rs _ _ hr _ (h.2 hbd) (hf.same_tmp ht (fun ρ => by rw [hb]; simp only [SV.den, bden_c, hbd])) ⟨hx.H, hx.Q, hx.P, hx.w⟩
theorem any_sound {rn : Option Nat} (hC : C.ok P E) {ops : Array Oper} (hcalm : calm ops = true) (hnd : nodefs ops = true) (hpd : dstFree C.pin ops.toList = true) {H : List Ent} {base : Nat} {K : St → Prop} {Q : Exit → Act → World → Prop} (hQ : PanOk E C.pin C.x Q)
    (hn : ∀ s' ρ' a' w', Fit E ρ' s' a' w' → K s' → Q .normal a' w') (ρ0 : Nm) (Pn : Nat → Prop) (w0 : World) :
    ∀ (n : Nat) (bs : List Bool) (qs : List Nat) (s : St) (ρ : Nm) (a : Act) (w : World), bs.length = ops.size → vcAny C ops.toList H base K n bs qs s → Fit E ρ s a w → Fix ρ0 H Pn w0 qs ρ s w →
      wpHeld rn P ops Q (fun w => Stands ρ0 H w ∧ ∀ k, Pn k → w.heap[k]? = w0.heap[k]?) n bs.toArray a w := by
 intro n
 induction n with
 | zero =>
   intro bs qs s ρ a w hl h hf hx
   unfold vcAny at h
   split at h
   ·rename_i hr
    exact ⟨rdy_nil hl hr, hn _ _ _ _ hf h⟩
   ·exact h.elim
 | succ n ih =>
   intro bs qs s ρ a w hl h hf hx
   unfold vcAny at h
   exact one_sound hC hcalm hnd hpd hQ hn ρ0 Pn w0 n (vcAny C ops.toList H base K n) ih (lzS n) (lzA n) bs qs s ρ a w hl h hf hx
theorem sets_sound {rn : Option Nat} (hC : C.ok P E) {ops : Array Oper} (hcalm : calm ops = true) (hnd : nodefs ops = true) (hpd : dstFree C.pin ops.toList = true) {H : List Ent} {base : Nat} {K : St → Prop} {Q : Exit → Act → World → Prop} (hQ : PanOk E C.pin C.x Q)
    (hn : ∀ s' ρ' a' w', Fit E ρ' s' a' w' → K s' → Q .normal a' w') (ρ0 : Nm) (Pn : Nat → Prop) (w0 : World) :
    ∀ (n : Nat) (L : List DS), vcSets C ops.toList H base K n L → ∀ (bs : List Bool) (qs : List Nat) (s : St) (ρ : Nm) (a : Act) (w : World), bs.length = ops.size → SetIn bs qs s L → Fit E ρ s a w → Fix ρ0 H Pn w0 qs ρ s w →
      wpHeld rn P ops Q (fun w => Stands ρ0 H w ∧ ∀ k, Pn k → w.heap[k]? = w0.heap[k]?) n bs.toArray a w := by
 intro n
 induction n with
 | zero =>
   intro L hL bs qs s ρ a w hl hm hf hx
   unfold vcSets at hL
   have h := AllS_mem (p := fun b _ s => match rdy b ops.toList b 0 with | [] => K s | _ => False) hL hm
   split at h
   ·rename_i hr
    exact ⟨rdy_nil hl hr, hn _ _ _ _ hf h⟩
   ·exact h.elim
 | succ n ih =>
   intro L hL bs qs s ρ a w hl hm hf hx
   unfold vcSets at hL
   obtain ⟨L', h1, _, h2⟩ := hL.ex
   exact one_sound hC hcalm hnd hpd hQ hn ρ0 Pn w0 n (fun b Q s => SetIn b Q s L') (ih L' h2.h) false false bs qs s ρ a w hl (AllS_mem (p := fun b Q s => oneStep C ops.toList H base K false false (fun b Q s => SetIn b Q s L') b Q s) h1.h hm) hf hx
end any
end
end Go.Proofs.YtkifmppmfkpfbaaGreat.V
