/- The walker that reckons, second part: regions, code, functions. -/
import Derived.Test.YtiinlanpinanhaaSx
import Derived.Deep.LoopGhost
set_option linter.unusedVariables false
set_option linter.unusedSimpArgs false
namespace Go.Proofs.Ytiinlanpinanhaa
open Go.RowKit

def dstOf (ops : List Oper) (j : Nat) : Option Nat :=
  match ops, j with
  | [], _ => none
  | o :: _, 0 => o.dst
  | _ :: l, n + 1 => dstOf l n
theorem dstOf_eq (ops : List Oper) (j : Nat) : dstOf ops j = (ops[j]?).bind (·.dst) := by
  induction ops generalizing j with
  | nil => rfl
  | cons o l ih => cases j <;> simp [dstOf, ih]
def St.setT (s : St) (t : Nat) (v : SV) : St := ⟨Fr.set v 12 s.fr t, s.n, s.heap, s.next, s.facts⟩
/-- Whether an operation is wanted. -/
def guardK (ops : List Oper) (o : Oper) (s : St) (run skip : St → Prop) : Prop :=
  match o.guard with
  | none => run s
  | some (j, want) =>
    match dstOf ops j with
    | none => False
    | some t =>
      match nBlt t s.n with
      | false => False
      | true => match s.fr.get t with
        | .bool (.c b) => (match b == want with | true => run s | false => skip (s.put o.dst (.val undef)))
        | .bool b => match want with
          | true => (b.den = true → run (s.setT t (.bool (.c true)))) ∧ (b.den = false → skip ((s.setT t (.bool (.c false))).put o.dst (.val undef)))
          | false => (b.den = true → skip ((s.setT t (.bool (.c true))).put o.dst (.val undef))) ∧ (b.den = false → run (s.setT t (.bool (.c false))))
        | .val (.tuple l) => (match nBeq l.size 0 with | true => skip (s.put o.dst (.val undef)) | false => False)
        | _ => False
section regions
variable {C : Cx} {P : Program} {keep : World → Prop} {B : Nat} {ρ : Nat → Nat} {s : St} {a : Act} {w : World}
theorem Fit.same_tmp (hf : Fit keep B ρ s a w) {t : Nat} {v : SV} (ht : t < s.n) (h : ∀ ρ, (s.fr.get t).den ρ = v.den ρ) : Fit keep B ρ (s.setT t v) a w := by
  refine ⟨hf.len, hf.lim, ?_, hf.defers, hf.keep, hf.size, hf.base, hf.block, hf.inj, hf.facts, hf.apart, hf.alone⟩
  intro ρ' hr i hi
  have hlim := hf.lim
  show a.tmps[i]? = some (((Fr.set v 12 s.fr t).get i).den ρ')
  rw [Fr.get_set v 12 s.fr t i (by omega)]
  by_cases hit : i = t
  · subst hit
    rw [if_pos rfl, ← h]
    exact hf.tmps ρ' hr i hi
  · rw [if_neg hit]
    exact hf.tmps ρ' hr i hi
theorem yielded_of (hf : Fit keep B ρ s a w) {ops : Array Oper} {j t : Nat} (hd : dstOf ops.toList j = some t) (ht : nBlt t s.n = true) :
    yielded ops a.tmps j = match (s.fr.get t).den ρ with | .bool b => some b | _ => none := by
  have hlt : t < s.n := by simpa [nBlt_iff] using ht
  rw [dstOf_eq] at hd
  have hd' : (ops[j]?).bind (·.dst) = some t := by simpa using hd
  unfold yielded
  rw [hd']
  simp only [Option.bind_some, hf.tmps ρ (Agr.refl _ _) t hlt]
  cases (s.fr.get t).den ρ <;> rfl
theorem guard_sound {o : Oper} {ops : Array Oper} {run skip : St → Prop} (h : guardK ops.toList o s run skip) (hf : Fit keep B ρ s a w) :
    (Region.wanted o (yielded ops a.tmps) = true ∧ ∃ s', Fit keep B ρ s' a w ∧ run s' ∧ s'.heap = s.heap ∧ s'.facts = s.facts) ∨
    (Region.wanted o (yielded ops a.tmps) = false ∧ ∃ s', Fit keep B ρ s' (a.put o.dst undef) w ∧ skip s' ∧ s'.heap = s.heap ∧ s'.facts = s.facts) := by
  unfold guardK at h
  unfold Region.wanted
  split at h
  · rename_i hg
    rw [hg]
    exact .inl ⟨rfl, s, hf, h, rfl, rfl⟩
  · rename_i j want hg
    rw [hg]
    simp only
    split at h
    · exact h.elim
    · rename_i t hd
      cases ht : nBlt t s.n with
      | false => rw [ht] at h; exact h.elim
      | true =>
        rw [ht] at h
        simp only [] at h
        have hlt : t < s.n := by simpa [nBlt_iff] using ht
        have hy := yielded_of hf hd ht
        split at h
        · rename_i b hv
          rw [hv] at hy
          simp only [SV.den, bden_c] at hy
          rw [hy]
          cases hb : b == want with
          | true =>
            rw [hb] at h
            refine .inl ⟨?_, s, hf, h, rfl, rfl⟩
            simp at hb
            simp [hb]
          | false =>
            rw [hb] at h
            refine .inr ⟨?_, _, hf.put _ (fun _ _ => rfl), h, put_heap _ _ _, put_facts _ _ _⟩
            simp at hb
            simp [hb]
        · rename_i b _ hv
          rw [hv] at hy
          simp only [SV.den] at hy
          rw [hy]
          have tr : b.den = true → ∀ ρ, (s.fr.get t).den ρ = (SV.bool (.c true)).den ρ := fun e ρ => by rw [hv]; simp only [SV.den, bden_c, e]
          have fa : b.den = false → ∀ ρ, (s.fr.get t).den ρ = (SV.bool (.c false)).den ρ := fun e ρ => by rw [hv]; simp only [SV.den, bden_c, e]
          cases want with
          | true =>
            cases hb : b.den with
            | true => exact .inl ⟨by decide, _, hf.same_tmp hlt (tr hb), h.1 hb, rfl, rfl⟩
            | false => exact .inr ⟨by decide, _, (hf.same_tmp hlt (fa hb)).put _ (fun _ _ => rfl), h.2 hb, put_heap _ _ _, put_facts _ _ _⟩
          | false =>
            cases hb : b.den with
            | true => exact .inr ⟨by decide, _, (hf.same_tmp hlt (tr hb)).put _ (fun _ _ => rfl), h.1 hb, put_heap _ _ _, put_facts _ _ _⟩
            | false => exact .inl ⟨by decide, _, hf.same_tmp hlt (fa hb), h.2 hb, rfl, rfl⟩
        · rename_i l hv
          rw [hv] at hy
          simp only [SV.den] at hy
          rw [hy]
          cases hl : nBeq l.size 0 with
          | true => rw [hl] at h; exact .inr ⟨by simp, _, hf.put _ (fun _ _ => rfl), h, put_heap _ _ _, put_facts _ _ _⟩
          | false => rw [hl] at h; exact h.elim
        · exact h.elim
/-- A region in the order of its text. -/
def vcList (C : Cx) (ops : List Oper) : List Oper → St → (St → Prop) → Prop
  | [], s, K => K s
  | o :: l, s, K => guardK ops o s (fun s1 => step C s1.next o s1 fun s2 => vcList C ops l s2 K) (fun s1 => vcList C ops l s1 K)
theorem list_sound (hC : C.ok P keep B) {ops : Array Oper} {K : St → Prop} {Q : Exit → Act → World → Prop} (hn : ∀ s' ρ' a' w', Fit keep B ρ' s' a' w' → K s' → Q .normal a' w') :
    ∀ (l : List Oper) (s : St) (ρ : Nat → Nat) (a : Act) (w : World), vcList C ops.toList l s K → Fit keep B ρ s a w → wpList P ops Q l a w
  | [], s, ρ, a, w, h, hf => hn _ _ _ _ hf h
  | o :: l, s, ρ, a, w, h, hf => by
    have := guard_sound h hf
    unfold wpList
    rcases this with ⟨hw, s', hf', h', _, _⟩ | ⟨hw, s', hf', h', _, _⟩
    · rw [if_pos hw]
      exact .inl (step_sound hC h' hf' fun s2 ρ2 a2 w2 hf2 h2 _ => list_sound hC hn l s2 ρ2 a2 w2 h2 hf2)
    · rw [if_neg (by rw [hw]; exact Bool.false_ne_true)]
      exact list_sound hC hn l s' ρ _ w h' hf'
end regions
/-! A region whose order is open. -/
def bindsB (e : Edge) : Bool :=
  match e.ground with
  | .textOnly _ => false
  | .gcOnly _ => false
  | _ => true
theorem bindsB_eq (e : Edge) : Region.binds .any e = bindsB e := by
  unfold Region.binds bindsB
  cases e.ground <;> rfl
def nthB : List Bool → Nat → Bool
  | [], _ => false
  | b :: _, 0 => b
  | _ :: l, n + 1 => nthB l n
theorem nthB_eq (l : List Bool) (n : Nat) : nthB l n = l.getD n false := by
  induction l generalizing n with
  | nil => rfl
  | cons x l ih => cases n <;> simp [nthB, ih]
def waitsFor (all : List Bool) : List Edge → Bool
  | [] => true
  | e :: l => (!bindsB e || nthB all e.on) && waitsFor all l
theorem waitsFor_spec {all : List Bool} : ∀ {l : List Edge}, waitsFor all l = true ↔ ∀ e ∈ l, Region.binds .any e = true → all.getD e.on false = true
  | [] => by simp [waitsFor]
  | e :: l => by
    simp only [waitsFor, Bool.and_eq_true, waitsFor_spec (l := l), List.forall_mem_cons, bindsB_eq, nthB_eq, Bool.or_eq_true]
    constructor
    · rintro ⟨h1, h2⟩
      refine ⟨fun hb => ?_, h2⟩
      rcases h1 with h1 | h1
      · rw [hb] at h1; cases h1
      · exact h1
    · rintro ⟨h1, h2⟩
      refine ⟨?_, h2⟩
      cases hb : bindsB e
      · exact .inl rfl
      · exact .inr (h1 hb)
def rdy (all : List Bool) : List Oper → List Bool → Nat → List Nat
  | o :: l, b :: bs, i => (match !b && waitsFor all o.after.toList with | true => i :: rdy all l bs (i + 1) | false => rdy all l bs (i + 1))
  | _, _, _ => []
theorem mem_rdy {all : List Bool} : ∀ {ops : List Oper} {bs : List Bool} {k i : Nat}, i ∈ rdy all ops bs k ↔ k ≤ i ∧ ∃ o, ops[i - k]? = some o ∧ bs[i - k]? = some false ∧ waitsFor all o.after.toList = true
  | [], bs, k, i => by simp [rdy]
  | o :: l, [], k, i => by simp [rdy]
  | o :: l, b :: bs, k, i => by
    have ih := @mem_rdy all l bs (k + 1) i
    have key : i ∈ rdy all (o :: l) (b :: bs) k ↔ (i = k ∧ (!b && waitsFor all o.after.toList) = true) ∨ i ∈ rdy all l bs (k + 1) := by
      simp only [rdy]
      cases hq : (!b && waitsFor all o.after.toList) <;> simp
    rw [key, ih]
    constructor
    · rintro (⟨rfl, h⟩ | ⟨hk, o', h1, h2, h3⟩)
      · simp only [Bool.and_eq_true, Bool.not_eq_true'] at h
        exact ⟨Nat.le_refl _, o, by simp, by simp [h.1], h.2⟩
      · refine ⟨by omega, o', ?_, ?_, h3⟩
        · rw [show i - k = (i - (k + 1)) + 1 by omega]; simpa using h1
        · rw [show i - k = (i - (k + 1)) + 1 by omega]; simpa using h2
    · rintro ⟨hk, o', h1, h2, h3⟩
      by_cases hik : i = k
      · subst hik
        simp at h1 h2
        subst h1
        exact .inl ⟨rfl, by simp [h2, h3]⟩
      · refine .inr ⟨by omega, o', ?_, ?_, h3⟩
        · rw [show i - k = (i - (k + 1)) + 1 by omega] at h1; simpa using h1
        · rw [show i - k = (i - (k + 1)) + 1 by omega] at h2; simpa using h2
theorem rdy_ready {ops : Array Oper} {bs : List Bool} (hl : bs.length = ops.size) (i : Nat) : i ∈ rdy bs ops.toList bs 0 ↔ i ∈ Region.ready .any ops bs.toArray := by
  rw [mem_rdy, mem_ready]
  simp only [Nat.sub_zero, Nat.zero_le, true_and, Array.getElem?_toList]
  constructor
  · rintro ⟨o, h1, h2, h3⟩
    refine ⟨by simp [h2], o, h1, fun e he hb => ?_⟩
    have := waitsFor_spec.1 h3 e (Array.mem_toList_iff.2 he) hb
    simpa using this
  · rintro ⟨h0, o, h1, h3⟩
    refine ⟨o, h1, ?_, waitsFor_spec.2 fun e he hb => by simpa using h3 e (Array.mem_toList_iff.1 he) hb⟩
    have hlt : i < bs.length := by rw [hl]; exact (Array.getElem?_eq_some_iff.1 h1).1
    simp [hlt] at h0 ⊢
    exact h0
theorem rdy_nil {ops : Array Oper} {bs : List Bool} (hl : bs.length = ops.size) (h : rdy bs ops.toList bs 0 = []) : Region.ready .any ops bs.toArray = [] := by
  apply List.eq_nil_iff_forall_not_mem.2
  intro i hi
  have := (rdy_ready hl i).2 hi
  rw [h] at this
  cases this
/-- Nobody touches what another one reads or writes, unless one of both waits for the other. -/
def calm (ops : Array Oper) : Bool :=
  Region.noSelect ops && (List.range ops.size).all fun i => (List.range ops.size).all fun j =>
    j == i || match ops[i]?, ops[j]? with
    | some oi, some oj => oj.after.any (fun e => Region.binds .any e && e.on == i) || oi.after.any (fun e => Region.binds .any e && e.on == j) || oi.apart ops oj
    | _, _ => true
theorem calm_free {ops : Array Oper} (h : calm ops = true) {bs : Array Bool} {i : Nat} {oi : Oper} (hi : ops[i]? = some oi) (hr : i ∈ Region.ready .any ops bs) (j : Nat) (oj : Oper) (hj : ops[j]? = some oj) (hne : j ≠ i)
    (hun : bs.getD j true = false) (hno : ∀ e ∈ oj.after, Region.binds .any e = true → e.on ≠ i) : oi.apart ops oj = true := by
  simp only [calm, Bool.and_eq_true, List.all_eq_true, List.mem_range] at h
  have h1 := h.2 i (Array.getElem?_eq_some_iff.1 hi).1 j (Array.getElem?_eq_some_iff.1 hj).1
  simp only [hi, hj, Bool.or_eq_true, beq_iff_eq, hne, false_or] at h1
  rcases h1 with (h1 | h1) | h1
  · obtain ⟨e, he, hb⟩ := Array.any_eq_true'.1 h1
    simp only [Bool.and_eq_true, beq_iff_eq] at hb
    exact absurd hb.2 (hno e he hb.1)
  · obtain ⟨e, he, hb⟩ := Array.any_eq_true'.1 h1
    simp only [Bool.and_eq_true, beq_iff_eq] at hb
    obtain ⟨_, o, ho, hall⟩ := mem_ready.1 hr
    rw [hi] at ho
    cases ho
    have := hall e he hb.1
    rw [hb.2] at this
    have hlt : j < bs.size := by
      rcases Nat.lt_or_ge j bs.size with g | g
      · exact g
      · rw [Array.getD_eq_getD_getElem?, Array.getElem?_eq_none g] at this; cases this
    simp [hlt] at hun this
    rw [hun] at this
    cases this
  · exact h1
/-! The walk through an open order: what reads is taken first. -/
def setB (bs : List Bool) (i : Nat) : List Bool := setL bs i true
/-- What an operation yields in every world in which the blocks H stand. -/
def quietV (C : Cx) (H : List Ent) (o : Oper) (s : St) : Option PR :=
  match o.guard with
  | some _ => none
  | none =>
    match o.op with
    | .load t x => loadV C.T H t (s.ev x)
    | op => pureV C.T C.E s.ev op
def firstOf (C : Cx) (ops : List Oper) (H : List Ent) (s : St) : List Nat → Option (Nat × Option Nat × PR)
  | [] => none
  | i :: l => match ops[i]? with
    | some o => match quietV C H o s with
      | some r => some (i, o.dst, r)
      | none => firstOf C ops H s l
    | none => firstOf C ops H s l
def allOf (p : Nat → Prop) : List Nat → Prop
  | [] => True
  | [i] => p i
  | i :: l => p i ∧ allOf p l
theorem allOf_mem {p : Nat → Prop} : ∀ {l : List Nat}, allOf p l → ∀ i ∈ l, p i
  | [], _, _, h => by cases h
  | [j], h, i, hi => by
    rw [List.mem_singleton] at hi
    subst hi
    exact h
  | j :: k :: l, h, i, hi => by
    rcases List.mem_cons.1 hi with rfl | hi
    · exact h.1
    · exact allOf_mem h.2 i hi
/-- What is read first is not written. -/
def stOk (H : List Ent) (op : Op) (s : St) : Bool :=
  match stId op s with
  | some b => freshE b H
  | none => true
def vcAny (C : Cx) (ops : List Oper) (H : List Ent) (g : List Fact) (base : Nat) (K : St → Prop) : Nat → List Bool → St → Prop
  | 0, bs, s => match rdy bs ops bs 0 with
    | [] => K s
    | _ => False
  | n + 1, bs, s => match rdy bs ops bs 0 with
    | [] => K s
    | r :: rs => match firstOf C ops H s (r :: rs) with
      | some (i, d, pr) => obK pr.ob (vcAny C ops H g base K n (setB bs i) (s.put d pr.v))
      | none => allOf (fun i => match ops[i]? with
        | some o => guardK ops o s (fun s1 => stOk H o.op s1 = true ∧ step C (base + i) o s1 fun s2 => s2.facts = g ∧ vcAny C ops H g base K n (setB bs i) s2) (fun s1 => vcAny C ops H g base K n (setB bs i) s1)
        | none => False) (r :: rs)
/-- The blocks H stand in the state. -/
def Stands (ρ : Nat → Nat) (H : List Ent) (w : World) : Prop := ∀ e ∈ H, w.heap[ρ e.id]? = some (.cells (SV.dens ρ e.cells).toArray e.ty (0, 0))
section any
variable {C : Cx} {P : Program} {keep : World → Prop} {B : Nat}
theorem firstOf_spec {ops : List Oper} {H : List Ent} {s : St} : ∀ {l : List Nat} {i : Nat} {d : Option Nat} {r : PR}, firstOf C ops H s l = some (i, d, r) → i ∈ l ∧ ∃ o, ops[i]? = some o ∧ o.dst = d ∧ quietV C H o s = some r
  | [], _, _, _, h => by cases h
  | j :: l, i, d, r, h => by
    unfold firstOf at h
    split at h
    · rename_i o ho
      split at h
      · rename_i r' hr
        cases h
        exact ⟨List.mem_cons_self, o, ho, rfl, hr⟩
      · obtain ⟨h1, h2⟩ := firstOf_spec h
        exact ⟨List.mem_cons_of_mem _ h1, h2⟩
    · obtain ⟨h1, h2⟩ := firstOf_spec h
      exact ⟨List.mem_cons_of_mem _ h1, h2⟩
theorem quiet_sound (hC : C.ok P keep B) {H : List Ent} {o : Oper} {s : St} {r : PR} (h : quietV C H o s = some r) (ho : obP r.ob) {ρ : Nat → Nat} {a : Act} (hA : ∀ x, a.eval x = (s.ev x).den ρ) {ops : Array Oper} {S : World → Prop}
    (hS : ∀ w, S w → Stands ρ H w) : YieldsIf P ops S o (r.v.den ρ) a := by
  unfold quietV at h
  split at h
  · cases h
  · rename_i hg
    refine .inl ⟨by simp [Region.wanted, hg], fun w hw => ?_⟩
    split at h
    · rename_i t x hop
      unfold execOp
      simp only [hop, Sem.run_bind, hA, load_stands hC.T (hS w hw) h ho]
      rfl
    · exact pure_sound hC.T hC.E h ho o rfl ρ a hA w
theorem _root_.Go.YieldsIf.det {ops : Array Oper} {S : World → Prop} {o : Oper} {u v : Value} {a : Act} {w : World} (h1 : YieldsIf P ops S o u a) (h2 : YieldsIf P ops S o v a) (hw : S w) : u = v := by
  rcases h1 with ⟨h1, k1⟩ | ⟨h1, rfl⟩ <;> rcases h2 with ⟨h2, k2⟩ | ⟨h2, rfl⟩
  · have e1 := k1 w hw
    rw [k2 w hw] at e1
    simpa using e1.symm
  · rw [h1] at h2; cases h2
  · rw [h1] at h2; cases h2
  · rfl
theorem any_sound (hC : C.ok P keep B) {ops : Array Oper} (hcalm : calm ops = true) {H : List Ent} {g : List Fact} {base : Nat} {K : St → Prop} {Q : Exit → Act → World → Prop} (hQ : ∀ c a w, ¬ Q (.panic c) a w)
    (hn : ∀ s' ρ' a' w', Fit keep B ρ' s' a' w' → K s' → Q .normal a' w') (ρ0 : Nat → Nat) :
    ∀ (n : Nat) (bs : List Bool) (s : St) (ρ : Nat → Nat) (a : Act) (w : World), bs.length = ops.size → vcAny C ops.toList H g base K n bs s → Fit keep B ρ s a w →
      (∀ e ∈ H, e ∈ s.heap ∧ ρ e.id = ρ0 e.id ∧ SV.dens ρ e.cells = SV.dens ρ0 e.cells) → s.facts = g →
      wpAnyH P .any ops Q (fun w => Stands ρ0 H w ∧ ∀ f ∈ g, f.holds w) n bs.toArray a w := by
  have hSof : ∀ {s : St} {ρ : Nat → Nat} {a : Act} {w : World}, Fit keep B ρ s a w → (∀ e ∈ H, e ∈ s.heap ∧ ρ e.id = ρ0 e.id ∧ SV.dens ρ e.cells = SV.dens ρ0 e.cells) → s.facts = g → Stands ρ0 H w ∧ ∀ f ∈ g, f.holds w := by
    intro s ρ a w hf hH hg
    refine ⟨fun e he => ?_, fun f hf' => hf.facts f (hg ▸ hf')⟩
    obtain ⟨h1, h2, h3⟩ := hH e he
    rw [← h2, ← h3]
    exact hf.block ρ (Agr.refl _ _) e h1
  intro n
  induction n with
  | zero =>
    intro bs s ρ a w hl h hf hH hg
    unfold vcAny at h
    split at h
    · rename_i hr
      exact ⟨rdy_nil hl hr, hn _ _ _ _ hf h⟩
    · exact h.elim
  | succ n ih =>
    intro bs s ρ a w hl h hf hH hg
    unfold vcAny at h
    split at h
    · rename_i hr
      exact wpAnyH_done (rdy_nil hl hr) (hn _ _ _ _ hf h) _
    · rename_i r rs hr
      have hset : ∀ i, (setB bs i).toArray = bs.toArray.setIfInBounds i true := fun i => by simp [setB, setL_set]
      have hsl : ∀ i, (setB bs i).length = ops.size := fun i => by rw [setB, setL_length, hl]
      split at h
      · rename_i i d pr hfi
        obtain ⟨hi, o, ho, rfl, hq⟩ := firstOf_spec hfi
        obtain ⟨hob, hk⟩ := obK_spec h
        rw [← hr, rdy_ready hl] at hi
        have ho' : ops[i]? = some o := by simpa using ho
        have hy := fun ρ' (hr : Agr ρ ρ' s.heap) => quiet_sound (ops := ops) (S := fun w => Stands ρ0 H w ∧ ∀ f ∈ g, f.holds w) hC hq hob (hf.ev hr) (fun w hw e he => by
          obtain ⟨h1, h2, h3⟩ := hH e he
          rw [hr e h1, h2, hf.cells_agree hr h1, h3]
          exact hw.1 e he)
        have hsame : ∀ ρ', Agr ρ ρ' s.heap → pr.v.den ρ' = pr.v.den ρ := fun ρ' hr => (hy ρ' hr).det (hy ρ (Agr.refl _ _)) (hSof hf hH hg)
        have hns := Region.noSelect_spec (ops := ops) (by simp only [calm, Bool.and_eq_true] at hcalm; exact hcalm.1)
        refine wpAnyH_first ho' hns (fun c a w hq => absurd hq (hQ _ _ _)) n bs.toArray a w ?_ hi (hy ρ (Agr.refl _ _)) (hSof hf hH hg) ?_
        · intro j oj hj hne hun hno
          exact calm_free hcalm ho' hi j oj hj hne hun hno
        · rw [← hset]
          exact ih _ _ ρ _ w (hsl i) hk (hf.put _ hsame) (fun e he => by rw [put_heap]; exact hH e he) (by rw [put_facts]; exact hg)
      · refine ⟨fun h0 => absurd h0 ?_, fun i hi => ?_⟩
        · intro h0
          have : r ∈ Region.ready .any ops bs.toArray := (rdy_ready hl r).1 (by rw [hr]; exact List.mem_cons_self)
          rw [h0] at this
          cases this
        · have hi' := (rdy_ready hl i).2 hi
          rw [hr] at hi'
          have hp := allOf_mem h i hi'
          simp only [Array.getElem?_toList] at hp
          unfold wpOp
          cases ho : ops[i]? with
          | none => rw [ho] at hp; exact hp.elim
          | some o =>
            rw [ho] at hp
            simp only at hp ⊢
            rcases guard_sound hp hf with ⟨hw, s', hf', h', he, hfa⟩ | ⟨hw, s', hf', h', he, hfa⟩
            · rw [if_pos hw]
              obtain ⟨hso, h'⟩ := h'
              refine .inl (step_sound hC h' hf' fun s2 ρ2 a2 w2 hf2 ⟨h2, h3⟩ hx => ?_)
              have hH2 : ∀ e ∈ H, e ∈ s2.heap ∧ ρ2 e.id = ρ0 e.id ∧ SV.dens ρ2 e.cells = SV.dens ρ0 e.cells := by
                intro e heH
                obtain ⟨k1, k2, k3⟩ := hH e heH
                have hne : stId o.op s' ≠ some e.id := by
                  intro e2
                  unfold stOk at hso
                  rw [e2] at hso
                  exact freshE_mem hso e heH rfl
                obtain ⟨x1, x2, x3⟩ := hx e (he ▸ k1) hne
                exact ⟨x1, x2.trans k2, x3.trans k3⟩
              rw [← hset]
              exact ⟨hSof hf2 hH2 h2, ih _ _ ρ2 _ _ (hsl i) h3 hf2 hH2 h2⟩
            · rw [if_neg (by rw [hw]; exact Bool.false_ne_true)]
              have hH2 : ∀ e ∈ H, e ∈ s'.heap ∧ ρ e.id = ρ0 e.id ∧ SV.dens ρ e.cells = SV.dens ρ0 e.cells := fun e heH => he ▸ hH e heH
              rw [← hset]
              exact ⟨hSof hf' hH2 (hfa.trans hg), ih _ _ ρ _ _ (hsl i) h' hf' hH2 (hfa.trans hg)⟩
end any
/-- The blocks that are written. -/
def opOf (ops : List Oper) (t : Nat) : Option Op :=
  match ops with
  | [] => none
  | o :: l => match o.dst with
    | some d => (match nBeq d t with | true => some o.op | false => opOf l t)
    | none => opOf l t
def rootOf (ops : List Oper) (s : St) : Nat → Operand → Option Nat
  | 0, _ => none
  | n + 1, x => match x with
    | .tmp t => match opOf ops t with
      | some (.fieldAddr _ y _) => rootOf ops s n y
      | some (.indexAddr _ y _) => rootOf ops s n y
      | some (.move y) => rootOf ops s n y
      | some (.assign y) => rootOf ops s n y
      | some (.nilCheck y) => rootOf ops s n y
      | some _ => none
      | none => match s.ev (.tmp t) with
        | .ptr b _ => some b
        | _ => none
    | _ => none
def rootsOf (all : List Oper) (s : St) : List Oper → Option (List Nat)
  | [] => some []
  | o :: l => match o.op with
    | .store _ x _ => match rootOf all s 8 x, rootsOf all s l with
      | some b, some r => some (b :: r)
      | _, _ => none
    | _ => rootsOf all s l
def memN (n : Nat) : List Nat → Bool
  | [] => false
  | x :: l => nBeq x n || memN n l
def lessE : List Ent → List Nat → List Ent
  | [], _ => []
  | e :: l, r => (match memN e.id r with | true => lessE l r | false => e :: lessE l r)
theorem lessE_mem {r : List Nat} : ∀ {l : List Ent} {e : Ent}, e ∈ lessE l r → e ∈ l
  | [], _, h => by cases h
  | x :: l, e, h => by
    simp only [lessE] at h
    cases hm : memN x.id r <;> rw [hm] at h
    · rcases List.mem_cons.1 h with rfl | h
      · exact List.mem_cons_self
      · exact List.mem_cons_of_mem _ (lessE_mem h)
    · exact List.mem_cons_of_mem _ (lessE_mem h)
/-- The blocks that nobody writes in a region. -/
def quietE (ops : List Oper) (s : St) : List Ent :=
  match rootsOf ops s ops with
  | some r => lessE s.heap r
  | none => []
theorem quietE_mem {ops : List Oper} {s : St} {e : Ent} (h : e ∈ quietE ops s) : e ∈ s.heap := by
  unfold quietE at h
  split at h
  · exact lessE_mem h
  · cases h
def repB : List Oper → List Bool
  | [] => []
  | _ :: l => false :: repB l
theorem repB_eq (l : List Oper) : repB l = List.replicate l.length false := by
  induction l with
  | nil => rfl
  | cons o l ih => simp [repB, ih, List.replicate_succ]
def lenO : List Oper → Nat
  | [] => 0
  | _ :: l => lenO l + 1
theorem lenO_eq (l : List Oper) : lenO l = l.length := by
  induction l with
  | nil => rfl
  | cons o l ih => simp [lenO, ih]
/-! Code. -/
/-- The state may be read so. -/
structure Goes (s : St) (R : St → Prop) : Prop where
  go : ∀ (keep : World → Prop) (B : Nat) (ρ : Nat → Nat) (a : Act) (w : World), Fit keep B ρ s a w → ∃ s' ρ', Fit keep B ρ' s' a w ∧ R s'
def seqK (n : St → Prop) (K : Exit → St → Prop) (e : Exit) (s : St) : Prop :=
  match e with
  | .normal => n s
  | e => K e s
def blockK (id : Nat) (K : Exit → St → Prop) (e : Exit) (s : St) : Prop :=
  match e with
  | .exit j => (match nBeq j id with | true => K .normal s | false => K (.exit j) s)
  | e => K e s
def scopeK (K : Exit → St → Prop) (e : Exit) (s : St) : Prop :=
  match e with
  | .goto _ => False
  | e => K e s
def regK (n : Nat) (K : Exit → St → Prop) (s : St) : Prop := K .normal ⟨s.fr, s.n, s.heap, n, s.facts⟩
def vc (C : Cx) : Code → St → (Exit → St → Prop) → Prop
  | .skip, s, K => K .normal s
  | .region _ ops draw, s, K =>
    match draw with
    | false => vcList C ops.toList ops.toList s (K .normal)
    | true => vcAny C ops.toList (quietE ops.toList s) s.facts s.next (regK (s.next + lenO ops.toList) K) (lenO ops.toList) (repB ops.toList) s
  | .seq a b, s, K => vc C a s (seqK (fun s' => vc C b s' K) K)
  | .cond c t e, s, K => match s.ev c with
    | .bool (.c true) => vc C t s K
    | .bool (.c false) => vc C e s K
    | .bool b => (b.den = true → vc C t s K) ∧ (b.den = false → vc C e s K)
    | _ => False
  | .block id body, s, K => vc C body s (blockK id K)
  | .loop body, s, K => ∃ I : Nat → St → Prop, (Goes s fun s0 => ∃ n, I n s0) ∧ ∀ n s', I n s' → vc C body s' (seqK (fun s'' => Goes s'' fun s3 => ∃ k, k < n ∧ I k s3) K)
  | .scope body, s, K => vc C body s (scopeK K)
  | .exit id, s, K => K (.exit id) s
  | .label _, s, K => K .normal s
  | .ret, s, K => K .ret s
  | _, _, _ => False
def calmC : Code → Bool
  | .region _ ops true => calm ops
  | .seq a b => calmC a && calmC b
  | .cond _ a b => calmC a && calmC b
  | .block _ c => calmC c
  | .loop c => calmC c
  | .scope c => calmC c
  | _ => true
section code
variable {C : Cx} {P : Program} {keep : World → Prop} {B : Nat}
theorem vc_sound (hC : C.ok P keep B) : ∀ (c : Code) (K : Exit → St → Prop) (Q : Exit → Act → World → Prop), calmC c = true → (∀ ch a w, ¬ Q (.panic ch) a w) →
    (∀ e s' ρ' a' w', Fit keep B ρ' s' a' w' → K e s' → Q e a' w') → ∀ (s : St) (ρ : Nat → Nat) (a : Act) (w : World), vc C c s K → Fit keep B ρ s a w → c.wp P Q a w
  | .skip, K, Q, _, _, hK, s, ρ, a, w, h, hf => wp_skip (hK _ _ _ _ _ hf h)
  | .region id ops draw, K, Q, hc, hQ, hK, s, ρ, a, w, h, hf => by
    cases draw with
    | false => exact wp_region_list (list_sound hC (fun s' ρ' a' w' hf' hk => hK _ _ _ _ _ hf' hk) _ _ _ _ _ h hf)
    | true =>
      simp only [vc] at h
      refine wp_region_held (S := fun w => Stands ρ (quietE ops.toList s) w ∧ ∀ f ∈ s.facts, f.holds w) hC.mixed ?_
      have hf' : Fit keep B ρ s a w.drew := ⟨hf.len, hf.lim, hf.tmps, hf.defers, hC.keep _ _ hf.keep (Below.refl _ _).drew, hf.size, hf.base, hf.block, hf.inj, fun f hf' => f.stable _ _ (hf.facts f hf') (fun _ _ => rfl), hf.apart, hf.alone⟩
      have := any_sound (base := s.next) hC (ops := ops) (by simpa [calmC] using hc) hQ (K := regK (s.next + lenO ops.toList) K) (Q := Q)
        (fun s' ρ' a' w' hf' hk => hK .normal ⟨s'.fr, s'.n, s'.heap, s.next + lenO ops.toList, s'.facts⟩ _ _ _ ⟨hf'.len, hf'.lim, hf'.tmps, hf'.defers, hf'.keep, hf'.size, hf'.base, hf'.block, hf'.inj, hf'.facts, hf'.apart, hf'.alone⟩ hk) ρ (H := quietE ops.toList s) (g := s.facts)
        (lenO ops.toList) (repB ops.toList) s ρ a w.drew (by simp [repB_eq]) h hf'
        (fun e he => ⟨quietE_mem he, rfl, rfl⟩)
        rfl
      rw [repB_eq, lenO_eq] at this
      simpa using this
  | .seq x y, K, Q, hc, hQ, hK, s, ρ, a, w, h, hf => by
    simp only [calmC, Bool.and_eq_true] at hc
    simp only [vc] at h
    refine wp_seq (vc_sound hC x _ (Exit.then (y.wp P Q) Q) hc.1 (fun ch a w => hQ ch a w) ?_ s ρ a w h hf)
    intro e s' ρ' a' w' hf' hk
    cases e with
    | normal => exact vc_sound hC y K Q hc.2 hQ hK s' ρ' a' w' hk hf'
    | _ => exact hK _ _ _ _ _ hf' hk
  | .cond c x y, K, Q, hc, hQ, hK, s, ρ, a, w, h, hf => by
    simp only [calmC, Bool.and_eq_true] at hc
    unfold vc at h
    have he := hf.ev (Agr.refl _ _) c
    split at h
    · rename_i hb
      rw [hb] at he
      simp only [SV.den, bden_c] at he
      exact wp_cond_true he (vc_sound hC x K Q hc.1 hQ hK s ρ a w h hf)
    · rename_i hb
      rw [hb] at he
      simp only [SV.den, bden_c] at he
      exact wp_cond_false he (vc_sound hC y K Q hc.2 hQ hK s ρ a w h hf)
    · rename_i b _ _ hb
      rw [hb] at he
      simp only [SV.den] at he
      exact wp_cond_split he (fun ht => vc_sound hC x K Q hc.1 hQ hK s ρ a w (h.1 ht) hf) (fun ht => vc_sound hC y K Q hc.2 hQ hK s ρ a w (h.2 ht) hf)
    · exact h.elim
  | .block id body, K, Q, hc, hQ, hK, s, ρ, a, w, h, hf => by
    simp only [calmC] at hc
    simp only [vc] at h
    refine wp_block (vc_sound hC body _ (Exit.inBlock id Q) hc (fun ch a w => hQ ch a w) ?_ s ρ a w h hf)
    intro e s' ρ' a' w' hf' hk
    cases e with
    | exit j =>
      simp only [blockK] at hk
      simp only [Exit.inBlock]
      cases hj : nBeq j id with
      | true =>
        rw [hj] at hk
        rw [if_pos (nBeq_eq hj)]
        exact hK _ _ _ _ _ hf' hk
      | false =>
        rw [hj] at hk
        rw [if_neg (by intro e2; subst e2; simp at hj)]
        exact hK _ _ _ _ _ hf' hk
    | _ => exact hK _ _ _ _ _ hf' hk
  | .loop body, K, Q, hc, hQ, hK, s, ρ, a, w, h, hf => by
    simp only [calmC] at hc
    simp only [vc] at h
    obtain ⟨I, h0, hr⟩ := h
    obtain ⟨s0, ρ0, hf0, n0, hI0⟩ := h0.go keep B ρ a w hf
    refine wp_loop_ghost (fun n a w => ∃ s ρ, Fit keep B ρ s a w ∧ I n s) n0 ⟨s0, ρ0, hf0, hI0⟩ ?_
    rintro n a w ⟨s1, ρ1, hf1, hI1⟩
    refine vc_sound hC body _ (Exit.then _ Q) hc (fun ch a w => hQ ch a w) ?_ s1 ρ1 a w (hr n s1 hI1) hf1
    intro e s' ρ' a' w' hf' hk
    cases e with
    | normal =>
      obtain ⟨s3, ρ3, hf3, k, hlt, hI3⟩ := hk.go keep B ρ' a' w' hf'
      exact ⟨k, hlt, s3, ρ3, hf3, hI3⟩
    | _ => exact hK _ _ _ _ _ hf' hk
  | .scope body, K, Q, hc, hQ, hK, s, ρ, a, w, h, hf => by
    simp only [calmC] at hc
    simp only [vc] at h
    refine wp_scope_straight (vc_sound hC body _ (Exit.noGoto Q) hc (fun ch a w => hQ ch a w) ?_ s ρ a w h hf)
    intro e s' ρ' a' w' hf' hk
    cases e with
    | goto l => exact hk.elim
    | _ => exact hK _ _ _ _ _ hf' hk
  | .exit id, K, Q, _, _, hK, s, ρ, a, w, h, hf => wp_exit (hK _ _ _ _ _ hf h)
  | .label l, K, Q, _, _, hK, s, ρ, a, w, h, hf => wp_label (hK _ _ _ _ _ hf h)
  | .ret, K, Q, _, _, hK, s, ρ, a, w, h, hf => wp_ret (hK _ _ _ _ _ hf h)
  | .goto l, K, Q, _, _, hK, s, ρ, a, w, h, hf => by simp only [vc] at h
  | .rangeFunc _ _ _ _, K, Q, _, _, hK, s, ρ, a, w, h, hf => by simp only [vc] at h
  | .refuse _, K, Q, _, _, hK, s, ρ, a, w, h, hf => by simp only [vc] at h
end code
/-! Functions. -/
def resOne (T : TT) (s : St) : ResultVar → Option SV
  | .tmp t => some (s.ev (.tmp t))
  | .cell x t => match loadV T s.heap t (s.ev (.tmp x)) with
    | some ⟨none, v⟩ => some v
    | _ => none
def resAll (T : TT) (s : St) : List ResultVar → Option (List SV)
  | [] => some []
  | r :: l => match resOne T s r, resAll T s l with
    | some v, some vs => some (v :: vs)
    | _, _ => none
def resV (T : TT) (s : St) (l : List ResultVar) : Option SV :=
  match resAll T s l with
  | some [v] => some v
  | some vs => some (.tup vs)
  | none => none
section res
variable {C : Cx} {P : Program} {keep : World → Prop} {B : Nat} {ρ : Nat → Nat} {s : St} {a : Act} {w : World}
theorem getD_tmp (hf : Fit keep B ρ s a w) (t : Nat) : a.tmps.getD t undef = (s.ev (.tmp t)).den ρ := hf.ev (Agr.refl _ _) (.tmp t)
def rd (tmps : Array Value) : ResultVar → Sem Value
  | .tmp t => pure (tmps.getD t undef)
  | .cell x t => do loadVar t (← asAddr (tmps.getD x undef))
theorem results_eq (fn : Func) (tmps : Array Value) : results fn tmps = (do let vs ← fn.results.mapM (rd tmps); pure (if h : vs.size = 1 then vs[0] else .tuple vs)) := by
  unfold results
  congr 1
theorem resAll_run {T : TT} (hT : TT.ok P T) (hf : Fit keep B ρ s a w) : ∀ (l : List ResultVar) (vs : List SV), resAll T s l = some vs →
    (l.mapM (rd a.tmps)).run P w = .ok (SV.dens ρ vs) w
  | [], vs, h => by
    unfold resAll at h
    cases h
    simp [SV.dens]
  | r :: l, vs, h => by
    unfold resAll at h
    split at h
    · rename_i v vs' hv hvs
      cases h
      have ih := resAll_run hT hf l vs' hvs
      have h1 : (rd a.tmps r).run P w = .ok (v.den ρ) w := by
        cases r with
        | tmp t =>
          simp only [resOne] at hv
          cases hv
          simp only [rd, getD_tmp hf, Sem.run_pure]
        | cell x t =>
          simp only [resOne] at hv
          split at hv
          · rename_i v' hl
            cases hv
            have := load_sound hT hf (Agr.refl _ _) hl trivial
            simp only [rd, getD_tmp hf]
            cases hx : s.ev (.tmp x) with
            | ptr b o =>
              rw [hx] at this
              simp only [SV.den, Instr.loadAt, Instr.sureAddr, Sem.run_bind, Sem.run_pure, Result.andThen_ok] at this
              simp only [SV.den, asAddr, Sem.run_bind, Sem.run_pure, Result.andThen_ok, this]
            | ep b o q n i =>
              rw [hx] at this
              simp only [SV.den, Instr.loadAt, Instr.sureAddr, Sem.run_bind, Sem.run_pure, Result.andThen_ok] at this
              simp only [SV.den, asAddr, Sem.run_bind, Sem.run_pure, Result.andThen_ok, this]
            | _ => rw [hx] at hl; simp [loadV] at hl
          · cases hv
      simp only [List.mapM_cons, Sem.run_bind, h1, Result.andThen_ok, ih, Sem.run_pure, SV.dens]
    · cases h
theorem res_run {T : TT} (hT : TT.ok P T) (hf : Fit keep B ρ s a w) {fn : Func} {v : SV} (h : resV T s fn.results.toList = some v) : (results fn a.tmps).run P w = .ok (v.den ρ) w := by
  unfold resV at h
  rw [results_eq, ← Array.toArray_toList (xs := fn.results), List.mapM_toArray]
  split at h
  · rename_i v' hv
    cases h
    have := resAll_run hT hf _ _ hv
    simp only [Sem.run_bind, Sem.run_map, this]
    simp [SV.dens]
  · rename_i vs hne hv
    cases h
    have := resAll_run hT hf _ _ hv
    simp only [Sem.run_bind, Sem.run_map, this]
    have hl : vs.length ≠ 1 := by
      intro e
      match vs, e with
      | [x], _ => exact hne x rfl
    simp [SV.den, dens_length, hl]
  · cases h
end res
def frOf : List SV → Nat → Fr
  | [], _ => .e
  | v :: l, k => Fr.set v 12 (frOf l (k + 1)) k
theorem frOf_get : ∀ (l : List SV) (k j : Nat), k + l.length ≤ 4000 → (frOf l k).get j = if k ≤ j then l.getD (j - k) (.val undef) else .val undef
  | [], k, j, _ => by simp [frOf, Fr.get]
  | v :: l, k, j, h => by
    simp only [List.length_cons] at h
    rw [frOf, Fr.get_set v 12 _ k j (by omega), frOf_get l (k + 1) j (by omega)]
    by_cases hjk : j = k
    · subst hjk; simp
    · rw [if_neg hjk]
      by_cases h1 : k + 1 ≤ j
      · rw [if_pos h1, if_pos (by omega), show j - k = (j - (k + 1)) + 1 by omega]
        simp
      · rw [if_neg h1, if_neg (by omega)]
def St.start (args : List SV) (n : Nat) (g : List Fact) : St := ⟨frOf args 0, n, [], 0, g⟩
def resK (Post : SV → St → Prop) (s : St) : Option SV → Prop
  | some v => Post v s
  | none => False
def endK (T : TT) (rs : List ResultVar) (Post : SV → St → Prop) (e : Exit) (s : St) : Prop :=
  match e with
  | .normal => resK Post s (resV T s rs)
  | .ret => resK Post s (resV T s rs)
  | _ => False
/-- What is to be shown of a function. -/
def vcF (C : Cx) (fn : Func) (args : List SV) (g : List Fact) (Post : SV → St → Prop) : Prop :=
  match fn.body with
  | some c => (match nBle (lenL args) fn.ntmps && nBle fn.ntmps 4000 with | true => vc C c (St.start args fn.ntmps g) (endK C.T fn.results.toList Post) | false => False)
  | none => False
def calmF (fn : Func) : Bool :=
  match fn.body with
  | some c => calmC c
  | none => false
theorem calls_of_vc {C : Cx} {P : Program} {keep : World → Prop} {B : Nat} (hC : C.ok P keep B) {f : FuncId} {fn : Func} (hfn : P.funcs[f]? = some fn) (hcalm : calmF fn = true) (args : List SV) {xs : Array Value} (hx : ∀ ρ, (SV.dens ρ args).toArray = xs) (g : List Fact) (w : World)
    (hk : keep w) (hB : B ≤ w.heap.size) (hg : ∀ f ∈ g, f.holds w) (ha : g.Pairwise fun f h => ∀ k, (f.excl k → ¬ h.foot k) ∧ (h.excl k → ¬ f.foot k)) {Post : SV → St → Prop} (h : vcF C fn args g Post) {R : Ending → World → Prop}
    (hR : ∀ (v : SV) (s : St) (ρ : Nat → Nat) (a : Act) (w' : World), Fit keep B ρ s a w' → Post v s → R (.returned (v.den ρ)) w') :
    Calls P f xs w R := by
  unfold vcF at h
  unfold calmF at hcalm
  split at h
  · rename_i c hb
    rw [hb] at hcalm
    cases hq : (nBle (lenL args) fn.ntmps && nBle fn.ntmps 4000) with
    | false => rw [hq] at h; exact h.elim
    | true =>
    rw [hq] at h
    simp only [Bool.and_eq_true] at hq
    have hl1 := nBle_le hq.1
    have hl2 := nBle_le hq.2
    rw [lenL_eq] at hl1
    have hxs : xs.size = args.length := by rw [← hx (fun _ => 0)]; simp [dens_length]
    refine calls_of_wp hfn hb ?_
    have hmono : ∀ (e : Exit) (a : Act) (w : World), (match e with | .panic _ => False | e => bodyPost P fn R e a w) → bodyPost P fn R e a w := by
      intro e a w h
      cases e <;> first | exact h | exact h.elim
    refine Code.wp_mono hmono ?_
    refine vc_sound hC c _ _ hcalm (fun ch a w h => h) ?_ (St.start args fn.ntmps g) (fun _ => 0) _ w h ?_
    · intro e s' ρ' a' w' hf' hk'
      cases e with
      | normal =>
        simp only [endK] at hk' ⊢
        unfold resK at hk'
        split at hk'
        · rename_i v hv
          exact ⟨hf'.defers, _, res_run hC.T hf' hv, hR _ _ _ _ _ hf' hk'⟩
        · exact hk'.elim
      | ret =>
        simp only [endK] at hk' ⊢
        unfold resK at hk'
        split at hk'
        · rename_i v hv
          exact ⟨hf'.defers, _, res_run hC.T hf' hv, hR _ _ _ _ _ hf' hk'⟩
        · exact hk'.elim
      | _ => exact hk'.elim
    · refine ⟨by simp [St.start, hxs]; omega, hl2, ?_, rfl, hk, hB, fun e he => (by cases he), fun ρ' _ e he => (by cases he), fun e he => (by cases he), hg, fun e he => (by cases he), ha⟩
      intro ρ' _ t ht
      simp only [St.start]
      rw [frOf_get args 0 t (by omega)]
      simp only [Nat.zero_le, if_true, Nat.sub_zero]
      rw [Array.getElem?_append]
      have ht' : t < fn.ntmps := ht
      by_cases hlt : t < xs.size
      · rw [if_pos hlt, ← hx ρ']
        rw [hxs] at hlt
        simp [dens_getElem?, List.getElem?_eq_getElem hlt, List.getD_eq_getElem?_getD]
      · rw [if_neg hlt]
        rw [hxs] at hlt
        rw [List.getD_eq_getElem?_getD, List.getElem?_eq_none (by omega)]
        simp [SV.den, hxs, Array.getElem?_replicate]
        omega
  · exact h.elim

/-! Functions that only reckon. -/
def pSpec (F : List SV → Option SV) : Spec := fun args g R => match F args with
  | some v => R v g
  | none => False
theorem Sit.below {keep : World → Prop} {B : Nat} {own : Nat → Prop} {g : List Fact} {w w' : World} (hkeep : ∀ w w', keep w → Below B w w' → keep w') (hs : Sit keep B own g w) (hb : Below w.heap.size w w') :
    Sit keep B own g w' ∧ ∀ k, own k → w'.heap[k]? = w.heap[k]? :=
  ⟨⟨hkeep _ _ hs.keep (hb.mono hs.size), Nat.le_trans hs.size hb.size, fun k hk => ⟨(hs.mine k hk).1, Nat.lt_of_lt_of_le (hs.mine k hk).2 hb.size⟩,
    fun f hf => f.stable _ _ (hs.facts f hf) fun k hk => hb.block k (f.lt _ _ (hs.facts f hf) hk), hs.apart, hs.alone⟩, fun k hk => hb.block k (hs.mine k hk).2⟩
def hasFn (P : Program) (f : FuncId) : Prop := ∃ fn, P.funcs[f]? = some fn ∧ (fn.name == "runtime.NumGoroutine") = false ∧ fn.body.isNone = false
theorem pSpec_ok {P : Program} {f : FuncId} {F : List SV → Option SV} (hfn : hasFn P f)
    (h : ∀ args v, F args = some v → (∀ ρ ρ', SV.dens ρ' args = SV.dens ρ args → v.den ρ' = v.den ρ) ∧ ∀ (ρ : Nat → Nat) (w : World), Calls P f (SV.dens ρ args).toArray w fun e w' => e = .returned (v.den ρ) ∧ Below w.heap.size w w')
    {keep : World → Prop} {B : Nat} (hkeep : ∀ w w', keep w → Below B w w' → keep w') : SpecOk P keep B f (pSpec F) := by
  refine ⟨hfn, ?_⟩
  intro args g R hs ρ own w hw
  unfold pSpec at hs
  split at hs
  · rename_i v hv
    obtain ⟨hinv, hc⟩ := h args v hv
    refine (hc ρ w).mono ?_
    rintro e w' ⟨rfl, hb⟩
    obtain ⟨h1, h2⟩ := hw.below hkeep hb
    exact ⟨v, g, rfl, hinv ρ, hs, h1, h2⟩
  · exact hs.elim
/-- The contract of a function that only makes memory. -/
theorem pure_calls {C : Cx} {P : Program} {w : World} (hC : C.ok P (Below w.heap.size w) w.heap.size) {f : FuncId} {fn : Func} (hfn : P.funcs[f]? = some fn) (hcalm : calmF fn = true) (args : List SV) (g : List Fact) (hg : ∀ f ∈ g, f.holds w)
    (ha : g.Pairwise fun f h => ∀ k, (f.excl k → ¬ h.foot k) ∧ (h.excl k → ¬ f.foot k)) {Q : SV → Prop} (h : vcF C fn args g fun v _ => Q v) {xs : Array Value} (hx : ∀ ρ, (SV.dens ρ args).toArray = xs) :
    Calls P f xs w fun e w' => (∃ v ρ, e = .returned (SV.den ρ v) ∧ Q v) ∧ Below w.heap.size w w' := by
  exact calls_of_vc hC hfn hcalm args hx g w (Below.refl _ _) (Nat.le_refl _) hg ha h fun v s ρ a w' hf hq => ⟨⟨v, ρ, rfl, hq⟩, hf.keep⟩
/-- .. with its result. -/
theorem pure_fn {C : Cx} {P : Program} {w : World} (hC : C.ok P (Below w.heap.size w) w.heap.size) {f : FuncId} {fn : Func} (hfn : P.funcs[f]? = some fn) (hcalm : calmF fn = true) (args : List SV) {xs : Array Value} (hx : ∀ ρ, (SV.dens ρ args).toArray = xs)
    {r : Value} (h : vcF C fn args [] fun v _ => ∀ ρ : Nat → Nat, v.den ρ = r) : Calls P f xs w fun e w' => e = .returned r ∧ Below w.heap.size w w' := by
  refine (pure_calls hC hfn hcalm args [] (by simp) List.Pairwise.nil h hx).mono ?_
  rintro e w' ⟨⟨v, ρ, rfl, hv⟩, hb⟩
  exact ⟨by rw [hv], hb⟩
def noO : Orc := fun _ _ _ _ => False
theorem noO_ok (P : Program) (keep : World → Prop) (B : Nat) : OrcOk P keep B noO := fun _ _ _ _ h => h.elim
def noE : EqT := no
theorem noE_ok (P : Program) : EqT.ok P noE := fun _ _ e => by cases e
def noS : SpecT := no
theorem noS_ok (P : Program) (keep : World → Prop) (B : Nat) : SpecT.ok P keep B noS := fun _ _ e => by cases e
theorem keep_below (w : World) (B : Nat) : ∀ a b, Below B w a → Below B a b → Below B w b := fun _ _ h k => h.trans k
end Go.Proofs.Ytiinlanpinanhaa
