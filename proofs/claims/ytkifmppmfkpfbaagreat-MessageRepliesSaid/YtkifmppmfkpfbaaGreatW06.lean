import Derived.Test.YtkifmppmfkpfbaaGreatW05
set_option linter.unusedVariables false
set_option linter.unusedSimpArgs false
namespace Go.Proofs.YtkifmppmfkpfbaaGreat.V
open Go.RowKit
section
mutual
def put (H : List Ent) (G : List FE) : (e : Shp) → Nat → List SV → Option (Dc (e.D → e.D))
 | .st fs => fun o l => match nBeq o 0, decs H G fs l with
   | true, some d => match d.rest with
     | [] => some ⟨fun u _ => d.x u, [], d.ob, d.ids, d.bs⟩
     | _ => puts H G fs o l
   | _, _ => puts H G fs o l
 | .int k => fun o l => match nBeq o 0, decI k l with
   | true, some d => some ⟨fun u _ => d.x u, d.rest, d.ob, d.ids, d.bs⟩
   | _, _ => none
 | .byte => fun o l => match nBeq o 0, decY l with
   | true, some d => some ⟨fun u _ => d.x u, d.rest, d.ob, d.ids, d.bs⟩
   | _, _ => none
 | .bool => fun o l => match nBeq o 0, decB l with
   | true, some d => some ⟨fun u _ => d.x u, d.rest, d.ob, d.ids, d.bs⟩
   | _, _ => none
 | .str => fun o l => match nBeq o 0, decS l with
   | true, some d => some ⟨fun u _ => d.x u, d.rest, d.ob, d.ids, d.bs⟩
   | _, _ => none
 | .sl e => fun o l => match nBeq o 0, decL H G e (fun l => dec H G e l) l with
   | true, some d => some ⟨fun u _ => d.x u, d.rest, d.ob, d.ids, d.bs⟩
   | _, _ => none
def puts (H : List Ent) (G : List FE) : (fs : List Shp) → Nat → List SV → Option (Dc (Shp.Ds fs → Shp.Ds fs))
 | [] => fun _ _ => none
 | f :: fs => fun o l => match nBlt o f.size with
   | true => match put H G f o l with
     | some d => some ⟨fun u p => (d.x u p.1, p.2), d.rest, d.ob, d.ids, d.bs⟩
     | none => none
   | false => match puts H G fs (o - f.size) l with
     | some d => some ⟨fun u p => (p.1, d.x u p.2), d.rest, d.ob, d.ids, d.bs⟩
     | none => none
end
def over (vs : List Value) (o : Nat) (us : List Value) : List Value := vs.take o ++ us ++ vs.drop (o + us.length)
theorem over_length {vs us : List Value} {o : Nat} (h : o + us.length ≤ vs.length) : (over vs o us).length = vs.length := by
 simp only [over, List.length_append, List.length_take, List.length_drop]; omega
theorem over_left {v1 v2 us : List Value} {o : Nat} (h : o + us.length ≤ v1.length) : over (v1 ++ v2) o us = over v1 o us ++ v2 := by
 unfold over
 rw [List.take_append_of_le_length (by omega), List.drop_append_of_le_length h, ← List.append_assoc]
theorem over_right {v1 v2 us : List Value} {o : Nat} (h : v1.length ≤ o) : over (v1 ++ v2) o us = v1 ++ over v2 (o - v1.length) us := by
 unfold over
 rw [List.take_append, List.take_of_length_le h, List.drop_append, List.drop_of_length_le (by omega), List.nil_append, List.append_assoc, List.append_assoc, List.append_assoc]
 congr 3
 congr 1
 omega
section put
variable {E : Env} {ρ : Nm} {w : World} {H : List Ent} {G : List FE} {P : Program} {T : TT}
mutual
theorem put_sound (hh : Hp E ρ H G w) {Z Z' : Nat → Prop} (hz : ∀ k, Z k → Z' k) : ∀ (e : Shp) (o : Nat) (l : List SV) (d : Dc (e.D → e.D)), put H G e o l = some d → d.rest = [] → (∀ p ∈ d.ob, p ()) → (∀ k, DFoot ρ G d.ids d.bs k → Z' k) →
    ∀ (x : e.D) (vs : List Value), Shp.rep w Z e x vs → o + l.length ≤ e.size ∧ Shp.rep w Z' e (d.x () x) (over vs o (SV.dens ρ l))
 | .int k, o, l, d, h, hr, ho, hd, x, vs, hv => by
   simp only [put] at h
   split at h
   ·rename_i d1 hq hd1
    have hq := nBeq_eq hq
    subst hq
    cases h
    obtain ⟨used, e1, h1⟩ := (dec_sound hh (.int k) l d1 (by simp only [dec]; exact hd1) ho).ex
    simp only at hr
    rw [hr, List.append_nil] at e1
    subst e1
    have h2 := h1 Z' hd
    have hl := Shp.rep_length _ _ _ h2
    have hlv := Shp.rep_length _ _ _ hv
    rw [dens_length] at hl
    refine ⟨by rw [hl]; omega, ?_⟩
    have : over vs 0 (SV.dens ρ l) = SV.dens ρ l := by
     unfold over
     rw [List.take_zero, List.nil_append, List.drop_of_length_le (by rw [dens_length, hl, hlv]; omega), List.append_nil]
    rw [this]
    exact h2
   ·cases h
 | .byte, o, l, d, h, hr, ho, hd, x, vs, hv => by
   simp only [put] at h
   split at h
   ·rename_i d1 hq hd1
    have hq := nBeq_eq hq
    subst hq
    cases h
    obtain ⟨used, e1, h1⟩ := (dec_sound hh .byte l d1 (by simp only [dec]; exact hd1) ho).ex
    simp only at hr
    rw [hr, List.append_nil] at e1
    subst e1
    have h2 := h1 Z' hd
    have hl := Shp.rep_length _ _ _ h2
    have hlv := Shp.rep_length _ _ _ hv
    rw [dens_length] at hl
    refine ⟨by rw [hl]; omega, ?_⟩
    have : over vs 0 (SV.dens ρ l) = SV.dens ρ l := by
     unfold over
     rw [List.take_zero, List.nil_append, List.drop_of_length_le (by rw [dens_length, hl, hlv]; omega), List.append_nil]
    rw [this]
    exact h2
   ·cases h
 | .bool, o, l, d, h, hr, ho, hd, x, vs, hv => by
   simp only [put] at h
   split at h
   ·rename_i d1 hq hd1
    have hq := nBeq_eq hq
    subst hq
    cases h
    obtain ⟨used, e1, h1⟩ := (dec_sound hh .bool l d1 (by simp only [dec]; exact hd1) ho).ex
    simp only at hr
    rw [hr, List.append_nil] at e1
    subst e1
    have h2 := h1 Z' hd
    have hl := Shp.rep_length _ _ _ h2
    have hlv := Shp.rep_length _ _ _ hv
    rw [dens_length] at hl
    refine ⟨by rw [hl]; omega, ?_⟩
    have : over vs 0 (SV.dens ρ l) = SV.dens ρ l := by
     unfold over
     rw [List.take_zero, List.nil_append, List.drop_of_length_le (by rw [dens_length, hl, hlv]; omega), List.append_nil]
    rw [this]
    exact h2
   ·cases h
 | .str, o, l, d, h, hr, ho, hd, x, vs, hv => by
   simp only [put] at h
   split at h
   ·rename_i d1 hq hd1
    have hq := nBeq_eq hq
    subst hq
    cases h
    obtain ⟨used, e1, h1⟩ := (dec_sound hh .str l d1 (by simp only [dec]; exact hd1) ho).ex
    simp only at hr
    rw [hr, List.append_nil] at e1
    subst e1
    have h2 := h1 Z' hd
    have hl := Shp.rep_length _ _ _ h2
    have hlv := Shp.rep_length _ _ _ hv
    rw [dens_length] at hl
    refine ⟨by rw [hl]; omega, ?_⟩
    have : over vs 0 (SV.dens ρ l) = SV.dens ρ l := by
     unfold over
     rw [List.take_zero, List.nil_append, List.drop_of_length_le (by rw [dens_length, hl, hlv]; omega), List.append_nil]
    rw [this]
    exact h2
   ·cases h
 | .sl e, o, l, d, h, hr, ho, hd, x, vs, hv => by
   simp only [put] at h
   split at h
   ·rename_i d1 hq hd1
    have hq := nBeq_eq hq
    subst hq
    cases h
    obtain ⟨used, e1, h1⟩ := (dec_sound hh (.sl e) l d1 (by simp only [dec]; exact hd1) ho).ex
    simp only at hr
    rw [hr, List.append_nil] at e1
    subst e1
    have h2 := h1 Z' hd
    have hl := Shp.rep_length _ _ _ h2
    have hlv := Shp.rep_length _ _ _ hv
    rw [dens_length] at hl
    refine ⟨by rw [hl]; omega, ?_⟩
    have : over vs 0 (SV.dens ρ l) = SV.dens ρ l := by
     unfold over
     rw [List.take_zero, List.nil_append, List.drop_of_length_le (by rw [dens_length, hl, hlv]; omega), List.append_nil]
    rw [this]
    exact h2
   ·cases h
 | .st fs, o, l, d, h, hr, ho, hd, x, vs, hv => by
   simp only [put] at h
   split at h
   ·rename_i d1 hq hd1
    split at h
    ·rename_i hrest
     have hq := nBeq_eq hq
     subst hq
     cases h
     obtain ⟨used, e1, h1⟩ := (decs_sound hh fs l d1 hd1 ho).ex
     rw [hrest, List.append_nil] at e1
     subst e1
     have h2 := h1 Z' hd
     have hl := Shp.reps_length _ _ _ h2
     have hlv := Shp.reps_length _ _ _ hv
     rw [dens_length] at hl
     refine ⟨by rw [hl]; show 0 + Shp.sizes fs ≤ Shp.sizes fs; omega, ?_⟩
     have : over vs 0 (SV.dens ρ l) = SV.dens ρ l := by
      unfold over
      rw [List.take_zero, List.nil_append, List.drop_of_length_le (by rw [dens_length, hl, hlv]; omega), List.append_nil]
     rw [this]
     exact h2
    ·exact puts_sound hh hz fs o l d h hr ho hd x vs hv
   ·exact puts_sound hh hz fs o l d h hr ho hd x vs hv
theorem puts_sound (hh : Hp E ρ H G w) {Z Z' : Nat → Prop} (hz : ∀ k, Z k → Z' k) : ∀ (fs : List Shp) (o : Nat) (l : List SV) (d : Dc (Shp.Ds fs → Shp.Ds fs)), puts H G fs o l = some d → d.rest = [] → (∀ p ∈ d.ob, p ()) → (∀ k, DFoot ρ G d.ids d.bs k → Z' k) →
    ∀ (x : Shp.Ds fs) (vs : List Value), Shp.reps w Z fs x vs → o + l.length ≤ Shp.sizes fs ∧ Shp.reps w Z' fs (d.x () x) (over vs o (SV.dens ρ l))
 | [], o, l, d, h, hr, ho, hd, x, vs, hv => by simp only [puts] at h; cases h
 | f :: fs, o, l, d, h, hr, ho, hd, x, vs, hv => by
   simp only [puts] at h
   obtain ⟨v1, v2, rfl, h1, h2⟩ := hv
   have hl1 := Shp.rep_length _ _ _ h1
   split at h
   ·rename_i hlt
    split at h
    ·rename_i d1 hd1
     cases h
     obtain ⟨k1, k2⟩ := put_sound hh hz f o l d1 hd1 hr ho hd x.1 v1 h1
     refine ⟨by simp only [Shp.sizes]; omega, ?_⟩
     rw [over_left (by rw [dens_length, hl1]; exact k1)]
     exact ⟨_, _, rfl, k2, Shp.reps_mono hz (fun _ _ => rfl) fs _ _ h2⟩
    ·cases h
   ·rename_i hge
    have hge : f.size ≤ o := by
     rcases Nat.lt_or_ge o f.size with g | g
     ·rw [show nBlt o f.size = true from by simpa [nBlt_iff] using g] at hge; cases hge
     ·exact g
    split at h
    ·rename_i d1 hd1
     cases h
     obtain ⟨k1, k2⟩ := puts_sound hh hz fs (o - f.size) l d1 hd1 hr ho hd x.2 v2 h2
     refine ⟨by simp only [Shp.sizes]; omega, ?_⟩
     rw [over_right (by rw [hl1]; exact hge), hl1]
     exact ⟨_, _, rfl, Shp.rep_mono hz (fun _ _ => rfl) f _ _ h1, k2⟩
    ·cases h
end
end put
def setAt {α : Type} (xs : List α) (i : Int) (d : α) (f : α → α) : List α := xs.set i.toNat (f (xs.getD i.toNat d))
def storeE (T : TT) (H : List Ent) (G : List FE) (t : TypeId) (x v : SV) : Option (List (Unit → Prop) × Nat × List FE) :=
 match x with
 | .fp id i s o => match findE G id, TT.look T t with
   | some f, some j => match f.own, f.c with
     | true, .rows e y => match nBeq s e.size && v.flat && nBeq (lenL v.cells) j.size with
       | true => match put H G e o v.cells with
         | some d => match d.rest, d.ids, d.bs with
           | [], [], [] => some (obLt e y i :: d.ob, id, replE G ⟨f.id, true, f.t, f.al, .rows e (fun u => setAt (y u) i.den e.dflt (d.x u))⟩)
           | _, _, _ => none
         | none => none
       | false => none
     | _, _ => none
   | _, _ => none
 | _ => none
theorem over_get (vs us : List Value) (o k : Nat) (h : o + us.length ≤ vs.length) : (over vs o us)[k]? = if k < o then vs[k]? else if k < o + us.length then us[k - o]? else vs[k]? := by
 unfold over
 have ho : min o vs.length = o := by omega
 simp only [List.getElem?_append, List.length_append, List.length_take, List.getElem?_take, List.getElem?_drop, ho]
 by_cases h1 : k < o
 ·rw [if_pos (by omega), if_pos h1, if_pos h1, if_pos h1]
 ·by_cases h2 : k < o + us.length
  ·rw [if_pos h2, if_neg h1, if_neg h1, if_pos h2]
  ·rw [if_neg h2, if_neg h1, if_neg h2]
   congr 1
   omega
theorem chunk_getD (cs : List Value) (i sz k : Nat) : (chunk cs i sz)[k]? = if k < sz then cs[i * sz + k]? else none := by
 unfold chunk
 rw [List.getElem?_take]
 split
 ·rw [List.getElem?_drop]
 ·rfl
theorem chunk_over_same {cs us : List Value} {n i sz o : Nat} (hl : cs.length = n * sz) (hi : i < n) (ho : o + us.length ≤ sz) : chunk (over cs (i * sz + o) us) i sz = over (chunk cs i sz) o us := by
 have hb : i * sz + sz ≤ cs.length := by rw [hl, ← Nat.succ_mul]; exact Nat.mul_le_mul_right _ hi
 have hc : (chunk cs i sz).length = sz := by unfold chunk; rw [List.length_take, List.length_drop]; omega
 apply List.ext_getElem?
 intro k
 rw [chunk_getD, over_get _ _ _ _ (by omega), over_get _ _ _ _ (by omega), chunk_getD]
 by_cases hk : k < sz
 ·simp only [if_pos hk]
  by_cases h1 : k < o
  ·rw [if_pos (by omega), if_pos h1]
  ·rw [if_neg (by omega), if_neg h1]
   by_cases h2 : k < o + us.length
   ·rw [if_pos (by omega), if_pos h2]
    congr 1
    omega
   ·rw [if_neg (by omega), if_neg h2]
 ·simp only [if_neg hk]
  rw [if_neg (by omega), if_neg (by omega)]
theorem chunk_over_other {cs us : List Value} {n i j sz o : Nat} (hl : cs.length = n * sz) (hi : i < n) (ho : o + us.length ≤ sz) (hij : j ≠ i) : chunk (over cs (i * sz + o) us) j sz = chunk cs j sz := by
 have hb : i * sz + sz ≤ cs.length := by rw [hl, ← Nat.succ_mul]; exact Nat.mul_le_mul_right _ hi
 apply List.ext_getElem?
 intro k
 rw [chunk_getD, over_get _ _ _ _ (by omega), chunk_getD]
 by_cases hk : k < sz
 ·simp only [if_pos hk]
  rcases Nat.lt_or_ge j i with g | g
  ·have : j * sz + sz ≤ i * sz := by rw [← Nat.succ_mul]; exact Nat.mul_le_mul_right _ g
   rw [if_pos (by omega)]
  ·have : i * sz + sz ≤ j * sz := by rw [← Nat.succ_mul]; exact Nat.mul_le_mul_right _ (by omega)
   rw [if_neg (by omega), if_neg (by omega)]
 ·simp only [if_neg hk]
section store
variable {E : Env} {ρ : Nm} {w : World} {H : List Ent} {G : List FE} {P : Program} {T : TT}
theorem mem_replE_ne {f f0 x : FE} {k : Nat} (hk : f0.excl ρ k) : ∀ {l : List FE}, l.Pairwise (Sep ρ) → findE l f.id = some f0 → x ∈ replE l f → x = f ∨ (x ∈ l ∧ x ≠ f0)
 | [], _, h, _ => by cases h
 | g :: l, hp, h, hx => by
   simp only [findE] at h
   simp only [replE] at hx
   obtain ⟨p1, p2⟩ := List.pairwise_cons.1 hp
   cases hb : nBeq g.id f.id <;> rw [hb] at h hx
   ·rcases List.mem_cons.1 hx with rfl | hx
    ·refine .inr ⟨List.mem_cons_self, fun e0 => ?_⟩
     have := (findE_mem h).2
     rw [← e0] at this
     rw [this] at hb
     simp at hb
    ·rcases mem_replE_ne hk p2 h hx with h | ⟨h1, h2⟩
     ·exact .inl h
     ·exact .inr ⟨List.mem_cons_of_mem _ h1, h2⟩
   ·cases h
    rcases List.mem_cons.1 hx with hx1 | hx1
    ·exact .inl hx1
    ·refine .inr ⟨List.mem_cons_of_mem _ hx1, fun e0 => ?_⟩
     rw [e0] at hx1
     exact (p1 _ hx1 k).1 hk (FE.excl_foot hk)
theorem storeE_sound (hT : TT.ok P T) (hE : E.ok) (hh : Hp E ρ H G w) {t : TypeId} {x v : SV} {obs : List (Unit → Prop)} {id : Nat} {G' : List FE} (h : storeE T H G t x v = some (obs, id, G')) (ho : ∀ p ∈ obs, p ()) :
    ∃ w', (Instr.storeAt t (x.den ρ) (v.den ρ)).run P w = .ok () w' ∧ Hp E ρ H G' w' ∧ (∀ ρ'', Agr ρ ρ'' H G' → Agr ρ ρ'' H G) ∧ (∀ n, n ≠ id → findE G' n = findE G n) ∧ ∃ f, findE G id = some f ∧ ∀ k, ¬ f.excl ρ k → w'.heap[k]? = w.heap[k]? := by
 unfold storeE at h
 split at h
 ·rename_i id' i s o
  split at h
  ·rename_i f j hf hj
   split at h
   ·rename_i e y hown hc
    cases hq : (nBeq s e.size && v.flat && nBeq (lenL v.cells) j.size) with
    | false => rw [hq] at h; cases h
    | true =>
      rw [hq] at h
      simp only [Bool.and_eq_true] at hq
      obtain ⟨⟨hs, hvf⟩, hvl⟩ := hq
      have hs := nBeq_eq hs
      subst hs
      have hvl := nBeq_eq hvl
      rw [lenL_eq] at hvl
      simp only [] at h
      split at h
      ·rename_i d hd
       split at h
       ·rename_i hr hids hbs
        cases h
        obtain ⟨hm, hid⟩ := findE_mem hf
        have hin := ho _ List.mem_cons_self
        have hob := fun p hp => ho p (List.mem_cons_of_mem _ hp)
        obtain ⟨h0, h1⟩ := hin
        have h1 : i.den < ((y ()).length : Int) := h1
        have hfa := hh.facts f hm
        have hp := hh.pos f hm e y hc
        unfold FE.holds at hfa
        rw [hc, hown] at hfa
        obtain ⟨hzl, hbd, ⟨cs, hcs, hrep⟩, htop⟩ := hfa
        have hcl := hcs.1
        have hlt : i.den.toNat < (y ()).length := by omega
        have hj := TT.look_ok hT hj
        have hvc := SV.flat_cells hvf ρ
        obtain ⟨q1, q2⟩ := put_sound hh (Z := ρ.z f.id) (Z' := ρ.z f.id) (fun _ h => h) e o v.cells d hd hr hob (by rw [hids, hbs]; rintro k (⟨_, hk, _⟩ | ⟨_, hk, _⟩) <;> cases hk) _ _ (hrep _ hlt)
        have hdl : (SV.dens ρ v.cells).length = j.size := by rw [dens_length]; exact hvl
        rcases hcs.2 with ⟨e0, h00⟩ | ⟨g, cap, cur, e0, _, hg, hnc, hcm, hcs', htake⟩
        ·omega
        ·simp only [Sl.val, Value.slice.injEq] at e0
         have hat : (ρ.s f.id).at (i.den.toNat * e.size + o) = some ⟨g, i.den.toNat * e.size + o, none⟩ := by simp [Sl.at, e0.1]
         have hmul : i.den.toNat * e.size + e.size ≤ (y ()).length * e.size := by rw [← Nat.succ_mul]; exact Nat.mul_le_mul_right _ hlt
         have hmul2 : (y ()).length * e.size ≤ cap * e.size := Nat.mul_le_mul_right _ hnc
         have hfit : i.den.toNat * e.size + o + j.size ≤ cur.size := by rw [hcs']; omega
         have hrun := run_storeVar_part (P := P) hj w g (i.den.toNat * e.size + o) f.t cur hg (v.den ρ) (by rw [hvc]; simp [hdl]) hfit (by rw [hvc]; exact oneAll_dens hvf ρ)
         rw [hvc] at hrun
         have hcur : cur.toList.take (i.den.toNat * e.size + o) ++ (SV.dens ρ v.cells).toArray.toList ++ cur.toList.drop (i.den.toNat * e.size + o + (SV.dens ρ v.cells).toArray.toList.length) = over cur.toList (i.den.toNat * e.size + o) (SV.dens ρ v.cells) := rfl
         rw [hcur] at hrun
         have hexk : ∀ k, f.excl ρ k ↔ k = g := by
          intro k
          unfold FE.excl FE.top
          rw [hc]
          simp only [hown, true_and, e0.1, Option.some.injEq]
          constructor
          ·rintro ⟨x, rfl, rfl⟩; rfl
          ·rintro rfl; exact ⟨_, rfl, rfl⟩
         have hBg : E.may g ∨ E.B ≤ g := hh.exB f hm g ((hexk g).2 rfl)
         have hother : ∀ k, k ≠ g → (w.setRow g (over cur.toList (i.den.toNat * e.size + o) (SV.dens ρ v.cells)).toArray).heap[k]? = w.heap[k]? := fun k hk => heap_setRow_other w g _ k hk
         have hbw : BelowX E.B E.may w (w.setRow g (over cur.toList (i.den.toNat * e.size + o) (SV.dens ρ v.cells)).toArray) := ⟨rfl, rfl, rfl, by simp [World.setRow], fun k hk hm => hother k fun e1 => by rw [e1] at hk hm; rcases hBg with h | h; exact hm h; omega⟩
         refine ⟨_, ?_, ?_, ?_, ?_, f, hf, fun k hk => hother k fun e1 => hk ((hexk k).2 e1)⟩
         ·rw [hid] at hat
          simp only [SV.den, hat, Instr.storeAt, Instr.sureAddr, Sem.run_bind, Sem.run_pure, Result.andThen_ok]
          exact hrun
         ·have sepf : ∀ f' ∈ G, f' ≠ f → ∀ k, f'.foot ρ k → k ≠ g := by
            rintro f' hf' hne k hk rfl
            rcases hh.sep hf' f hm k ((hexk k).2 rfl) with h | h
            ·exact h hk
            ·exact hne h.symm
          have new : (⟨f.id, true, f.t, f.al, .rows e (fun u => setAt (y u) i.den e.dflt (d.x u))⟩ : FE).holds ρ (w.setRow g (over cur.toList (i.den.toNat * e.size + o) (SV.dens ρ v.cells)).toArray) := by
           unfold FE.holds
           simp only
           have hlen : (setAt (y ()) i.den e.dflt (d.x ())).length = (y ()).length := by simp [setAt]
           refine ⟨fun k hk => Nat.lt_of_lt_of_le (hzl k hk) hbw.size, by rw [hlen]; exact hbd, ⟨over cs (i.den.toNat * e.size + o) (SV.dens ρ v.cells), ?_, fun q hq => ?_⟩, htop⟩
           ·refine ⟨by rw [hlen, over_length (by rw [hcl, hdl]; rw [dens_length] at hdl; omega), hcl], .inr ⟨g, cap, _, by simp only [Sl.val, hlen]; simp [e0], Nat.zero_le _, heap_setRow_same w g _ _ _ _ hg, by rw [hlen]; exact hnc, hcm, ?_, ?_⟩⟩
            ·simp only [List.size_toArray]
             rw [over_length (by rw [hdl, Array.length_toList]; exact hfit), Array.length_toList]
             exact hcs'
            ·rw [hlen]
             simp only [List.toList_toArray]
             have : (over cur.toList (i.den.toNat * e.size + o) (SV.dens ρ v.cells)).take ((y ()).length * e.size) = over (cur.toList.take ((y ()).length * e.size)) (i.den.toNat * e.size + o) (SV.dens ρ v.cells) := by
              apply List.ext_getElem?
              intro k
              have hq1 : (List.take ((y ()).length * e.size) cur.toList).length = (y ()).length * e.size := by rw [htake, hcl]
              rw [List.getElem?_take, over_get _ _ _ _ (by rw [hdl, Array.length_toList]; exact hfit), over_get _ _ _ _ (by rw [hdl, hq1]; rw [dens_length] at hdl; omega), hdl]
              rw [dens_length] at hdl
              simp only [List.getElem?_take]
              by_cases hk : k < (y ()).length * e.size
              ·simp only [if_pos hk]
              ·simp only [if_neg hk]
               rw [if_neg (by omega), if_neg (by omega)]
             rw [this, htake]
           ·have hq' : q < (y ()).length := by rw [hlen] at hq; exact hq
            have mono := fun (a : e.D) (vs : List Value) (h : Shp.rep w (ρ.z f.id) e a vs) => Shp.rep_mono (w' := w.setRow g (over cur.toList (i.den.toNat * e.size + o) (SV.dens ρ v.cells)).toArray) (Z' := ρ.z f.id) (fun _ h => h) (fun k hk => hother k fun e1 => htop ⟨g, 0, none⟩ e0.1 (by rw [e1] at hk; exact hk)) e a vs h
            by_cases hqi : q = i.den.toNat
            ·subst hqi
             rw [chunk_over_same hcl hlt (by rw [dens_length]; exact q1)]
             have hget : (setAt (y ()) i.den e.dflt (d.x ()))[i.den.toNat]'hq = d.x () (y ())[i.den.toNat] := by
              simp [setAt, List.getD_eq_getElem?_getD, List.getElem?_eq_getElem hlt]
             rw [hget]
             exact mono _ _ q2
            ·rw [chunk_over_other hcl hlt (by rw [dens_length]; exact q1) hqi]
             have hget : (setAt (y ()) i.den e.dflt (d.x ()))[q]'hq = (y ())[q] := by
              simp only [setAt]
              rw [List.getElem_set_ne (Ne.symm hqi)]
             rw [hget]
             exact mono _ _ (hrep q hq')
          have hf2 : findE G (⟨f.id, true, f.t, f.al, .rows e (fun u => setAt (y u) i.den e.dflt (d.x u))⟩ : FE).id = some f := by rw [show (⟨f.id, true, f.t, f.al, .rows e (fun u => setAt (y u) i.den e.dflt (d.x u))⟩ : FE).id = f.id from rfl, hid]; exact hf
          have foots : ∀ k, (⟨f.id, true, f.t, f.al, .rows e (fun u => setAt (y u) i.den e.dflt (d.x u))⟩ : FE).foot ρ k ↔ f.foot ρ k := by
           intro k
           unfold FE.foot FE.top
           rw [hc, hown]
          have excls : ∀ k, (⟨f.id, true, f.t, f.al, .rows e (fun u => setAt (y u) i.den e.dflt (d.x u))⟩ : FE).excl ρ k ↔ f.excl ρ k := by
           intro k
           unfold FE.excl FE.top
           rw [hc, hown]
          have memr : ∀ q ∈ replE G ⟨f.id, true, f.t, f.al, .rows e (fun u => setAt (y u) i.den e.dflt (d.x u))⟩, q = ⟨f.id, true, f.t, f.al, .rows e (fun u => setAt (y u) i.den e.dflt (d.x u))⟩ ∨ (q ∈ G ∧ q ≠ f) := fun q hq => mem_replE_ne ((hexk g).2 rfl) hh.alone hf2 hq
          have down : ∀ {ρ''}, Agr ρ ρ'' H (replE G ⟨f.id, true, f.t, f.al, .rows e (fun u => setAt (y u) i.den e.dflt (d.x u))⟩) → Agr ρ ρ'' H G := fun hr => ⟨hr.1, fun q hq => by
           obtain ⟨y', hy', e1⟩ := replE_ids (f := ⟨f.id, true, f.t, f.al, .rows e (fun u => setAt (y u) i.den e.dflt (d.x u))⟩) hq
           rw [← e1]
           exact hr.2 y' hy'⟩
          refine ⟨hE.keepX _ _ hh.keep hbw, Nat.le_trans hh.size hbw.size, hh.base, ?_, hh.inj, ?_, ?_, ?_, ?_, ?_, ?_, hh.anc⟩
          ·intro ρ' hr e' he'
           rw [hother _ fun e1 => hh.apart e' he' f hm (FE.excl_foot ((hexk _).2 e1))]
           exact hh.block ρ' (down hr) e' he'
          ·intro q hq
           rcases memr q hq with rfl | ⟨hq, hne⟩
           ·exact new
           ·exact FE.stable (hh.facts q hq) hbw.size fun k hk => hother k (sepf q hq hne k hk)
          ·intro q hq e' x' he'
           rcases memr q hq with rfl | ⟨hq, _⟩
           ·cases he'; exact hp
           ·exact hh.pos q hq e' x' he'
          ·intro e' he' q hq
           rcases memr q hq with rfl | ⟨hq, _⟩
           ·exact fun hk => hh.apart e' he' f hm ((foots _).1 hk)
           ·exact hh.apart e' he' q hq
          ·exact replE_pair (f0 := f) (fun x => ⟨fun hs k => ⟨fun hk => (hs k).1 ((excls k).1 hk), fun hk hk2 => (hs k).2 hk ((foots k).1 hk2)⟩, fun hs k => ⟨fun hk hk2 => (hs k).1 hk ((foots k).1 hk2), fun hk => (hs k).2 ((excls k).1 hk)⟩⟩) hf2 hh.alone
          ·intro q hq k hk
           rcases memr q hq with rfl | ⟨hq, _⟩
           ·have hk' := (hexk k).1 ((excls k).1 hk)
            rw [hk']
            exact hBg
           ·exact hh.exB q hq k hk
          ·intro q hq k hk
           rcases memr q hq with rfl | ⟨hq, _⟩
           ·exact hh.al f hm k ((foots k).1 hk)
           ·exact hh.al q hq k hk
         ·exact fun ρ'' hr => ⟨hr.1, fun q hq => by
            obtain ⟨y', hy', e1⟩ := replE_ids (f := ⟨f.id, true, f.t, f.al, .rows e (fun u => setAt (y u) i.den e.dflt (d.x u))⟩) hq
            rw [← e1]
            exact hr.2 y' hy'⟩
         ·intro n hn
          exact find_repl_ne (by rw [show (⟨f.id, true, f.t, f.al, .rows e (fun u => setAt (y u) i.den e.dflt (d.x u))⟩ : FE).id = f.id from rfl, hid]; exact Ne.symm hn)
       ·cases h
      ·cases h
   ·cases h
  ·cases h
 ·cases h
end store
end
end Go.Proofs.YtkifmppmfkpfbaaGreat.V
