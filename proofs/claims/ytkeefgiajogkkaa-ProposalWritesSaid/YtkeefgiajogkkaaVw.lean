/- The walker: places in what slices name; parts of slices; append. -/
import Derived.Test.YtkeefgiajogkkaaVz
set_option linter.unusedVariables false
set_option linter.unusedSimpArgs false
namespace Go.Proofs.Ytkeefgiajogkkaa.V
open Go.RowKit
def lfV (al : List Nat) : Lf → Nat → Option (SV × List FE)
 | .int k f, _ => some (.int k (.t f), [])
 | .byte f, _ => some (.int .u8 (.t fun u => Int.ofNat (f u).toNat), [])
 | .bool f, _ => some (.bool (.t f), [])
 | .str f, _ => some (.str f, [])
 | .sl e f, n => match nBlt 0 e.size with
   | true => some (.fv n, [⟨n, false, 0, al, .rows e f⟩])
   | false => none
def catE : List FE → List FE → List FE
 | [], m => m
 | x :: l, m => x :: catE l m
theorem catE_eq (l m : List FE) : catE l m = l ++ m := by
 induction l with
 | nil => rfl
 | cons x l ih => simp [catE, ih]
def lfVs (al : List Nat) : List Lf → Nat → Option (List SV × List FE)
 | [], _ => some ([], [])
 | l :: r, n => match lfV al l n, lfVs al r (n + 1) with
   | some (v, a), some (vs, b) => some (v :: vs, catE a b)
   | _, _ => none
def freshL (lo hi : Nat) (H : List Ent) (G : List FE) : List FE → Bool
 | [] => true
 | f :: l => nBle lo f.id && nBlt f.id hi && freshE f.id H && freshG f.id G && freshG f.id l && freshL lo hi H G l
section leaf
variable {E : Env} {ρ : Nm} {w : World} {H : List Ent} {G : List FE}
structure Zok (E : Env) (ρ : Nm) (H : List Ent) (G : List FE) (w : World) (al : List Nat) (Z : Nat → Prop) : Prop where
 lt : ∀ k, Z k → k < w.heap.size
 H : ∀ e ∈ H, ¬ Z (ρ.b e.id)
 G : ∀ g ∈ G, ∀ k, g.excl ρ k → ¬ Z k
 al : ∀ k, Z k → E.B ≤ k ∨ ∃ j ∈ al, E.z0 j k
theorem Zok.agr {al : List Nat} {Z : Nat → Prop} (h : Zok E ρ H G w al Z) {ρ' : Nm} (hr : Agr ρ ρ' H G) : Zok E ρ' H G w al Z :=
 ⟨h.lt, fun e he => by rw [hr.1 e he]; exact h.H e he, fun g hg k hk => h.G g hg k (by rw [FE.excl_names (hr.2 g hg).1 (hr.2 g hg).2] at hk; exact hk), h.al⟩
theorem Zok.cons {al : List Nat} {Z : Nat → Prop} (h : Zok E ρ H G w al Z) {f : FE} (hf : f.own = false) (hc : ∀ T, f.c ≠ .codes T) : Zok E ρ H (f :: G) w al Z :=
 ⟨h.lt, h.H, fun g hg k hk => by
  rcases List.mem_cons.1 hg with rfl | hg
  ·exfalso
   unfold FE.excl at hk
   split at hk
   ·exact hk
   ·rw [hf] at hk; cases hk.1
   ·rename_i T hT; exact hc T hT
  ·exact h.G g hg k hk, h.al⟩
theorem Hp.share (h : Hp E ρ H G w) {f : FE} (hf : Fresh E f.id H G) (hown : f.own = false) {e : Shp} {x : Unit → List e.D} (hc : f.c = .rows e x) (hp : 0 < e.size) {Z : Nat → Prop} (hz : Zok E ρ H G w f.al Z) {s : Sl}
    (hr : Rd w Z e.size (fun a b => Shp.rep w Z e a b) s (x ())) :
    Hp E (ρ.setS f.id s Z) H (f :: G) w ∧ (∀ ρ'', Agr (ρ.setS f.id s Z) ρ'' H (f :: G) → Agr ρ ρ'' H G ∧ ρ''.s f.id = s) ∧ ∀ k, f.foot (ρ.setS f.id s Z) k → Z k := by
 have hs : (ρ.setS f.id s Z).s f.id = s := by simp [Nm.setS]
 have hzz : (ρ.setS f.id s Z).z f.id = Z := by simp [Nm.setS]
 have hfo : ∀ k, f.foot (ρ.setS f.id s Z) k → Z k := by
  intro k hk
  unfold FE.foot at hk
  rw [hc, hs, hzz] at hk
  rcases hk with hk | ⟨hk, y, hy, rfl⟩
  ·exact hk
  ·rw [hs] at hy
   have hn : 0 < s.n := by rcases hk with hk | hk; rw [hown] at hk; cases hk; exact hk
   obtain ⟨cs, h3, h4, _⟩ := hr.ex
   refine (h4.lt ?_ hy).2
   intro e0
   rw [e0] at h3
   have := hr.bd.len
   have hm : 0 < (x ()).length * e.size := Nat.mul_pos (by omega) hp
   simp at h3
   omega
 have hex : ∀ k, ¬ f.excl (ρ.setS f.id s Z) k := by
  intro k hk
  unfold FE.excl at hk
  rw [hc, hown] at hk
  cases hk.1
 have hfz : ∀ k, Z k → f.foot (ρ.setS f.id s Z) k := fun k hk => by unfold FE.foot; rw [hc, hzz]; exact .inl hk
 refine (fun q => ⟨q.1, q.2, hfo⟩) (h.add f hf s Z (fun T => by rw [hc]; simp) ?_ (fun e' x' he => by rw [hc] at he; cases he; exact hp) (fun e' he hk => hz.H e' he (hfo _ hk)) (fun g hg k => ⟨fun hk => absurd hk (hex k), fun hk hk2 => hz.G g hg k hk (hfo _ hk2)⟩) (fun k hk => absurd hk (hex k)) (fun k hk => hz.al k (hfo k hk)))
 unfold FE.holds
 rw [hc, hown, hs, hzz]
 exact ⟨hz.lt, hr.mono hfz (fun _ _ => rfl) fun a b h => Shp.rep_mono hfz (fun _ _ => rfl) e a b h⟩
theorem agr_append {l : List FE} {ρ ρ' : Nm} (h : Agr ρ ρ' H (l ++ G)) : Agr ρ ρ' H G := ⟨h.1, fun g hg => h.2 g (List.mem_append_right _ hg)⟩
theorem lfVs_sound {al : List Nat} {Z : Nat → Prop} : ∀ (L : List Lf) (n : Nat) (svs : List SV) (news : List FE) (vs : List Value) (ρ : Nm), lfVs al L n = some (svs, news) → Hp E ρ H G w → Zok E ρ H G w al Z →
    All2 (fun v l => Lf.rep w Z v l) vs L → freshL E.lo E.hi H G news = true →
    (∃ ρ', Hp E ρ' H (news ++ G) w ∧ (∀ ρ'', Agr ρ' ρ'' H (news ++ G) → Agr ρ ρ'' H G ∧ SV.dens ρ'' svs = vs) ∧ (∀ f ∈ news, ∀ k, f.foot ρ' k → Z k) ∧ ∀ g ∈ G, ρ'.z g.id = ρ.z g.id) ∧ ∀ f ∈ news, f.own = false ∧ ∀ T, f.c ≠ .codes T
 | [], n, svs, news, vs, ρ, h, hh, hz, ha, hf => by
   unfold lfVs at h
   cases h
   match vs, ha with
   | [], _ => exact ⟨⟨ρ, hh, fun ρ'' hr => ⟨hr, rfl⟩, fun f hf => (by cases hf), fun _ _ => rfl⟩, fun f hf => by cases hf⟩
   | _ :: _, ha => exact ha.elim
 | l :: r, n, svs, news, vs, ρ, h, hh, hz, ha, hf => by
   unfold lfVs at h
   match vs, ha with
   | [], ha => exact ha.elim
   | v :: vs, ha =>
   obtain ⟨hl, hta⟩ := ha
   split at h
   ·rename_i v1 a1 vs1 b1 h1 h2
    cases h
    rw [catE_eq] at hf ⊢
    have simple : a1 = [] → (∀ ρ, v1.den ρ = v) →
        ((∃ ρ', Hp E ρ' H (a1 ++ b1 ++ G) w ∧ (∀ ρ'', Agr ρ' ρ'' H (a1 ++ b1 ++ G) → Agr ρ ρ'' H G ∧ SV.dens ρ'' (v1 :: vs1) = v :: vs) ∧ (∀ f ∈ a1 ++ b1, ∀ k, f.foot ρ' k → Z k) ∧ ∀ g ∈ G, ρ'.z g.id = ρ.z g.id) ∧ ∀ f ∈ a1 ++ b1, f.own = false ∧ ∀ T, f.c ≠ .codes T) := by
     rintro rfl hv
     obtain ⟨⟨ρ', hh', hr', hfo⟩, ho⟩ := lfVs_sound r (n + 1) vs1 b1 vs ρ h2 hh hz hta hf
     refine ⟨⟨ρ', hh', fun ρ'' hr => ?_, hfo⟩, ho⟩
     obtain ⟨k1, k2⟩ := hr' ρ'' hr
     exact ⟨k1, by simp only [SV.dens, hv, k2]⟩
    cases l with
    | int k f =>
      simp only [lfV] at h1
      cases h1
      exact simple rfl fun ρ => by rw [show v = _ from hl]; simp only [SV.den, den_t]
    | byte f =>
      simp only [lfV] at h1
      cases h1
      exact simple rfl fun ρ => by rw [show v = _ from hl]; simp only [SV.den, den_t, Int.ofNat_eq_natCast]
    | bool f =>
      simp only [lfV] at h1
      cases h1
      exact simple rfl fun ρ => by rw [show v = _ from hl]; simp only [SV.den, bden_t]
    | str f =>
      simp only [lfV] at h1
      cases h1
      exact simple rfl fun ρ => by rw [show v = _ from hl]; simp only [SV.den]
    | sl e f =>
      simp only [lfV] at h1
      cases hp : nBlt 0 e.size with
      | false => rw [hp] at h1; cases h1
      | true =>
        rw [hp] at h1
        cases h1
        rw [nBlt_iff] at hp
        obtain ⟨s, rfl, hr⟩ := hl
        simp only [List.cons_append, List.nil_append] at hf ⊢
        simp only [freshL, Bool.and_eq_true, nBlt_iff] at hf
        obtain ⟨⟨⟨⟨⟨f1, f2⟩, f3⟩, f4⟩, f5⟩, f6⟩ := hf
        obtain ⟨⟨ρ', hh', hr', hfo⟩, ho⟩ := lfVs_sound r (n + 1) vs1 b1 vs ρ h2 hh hz hta f6
        have hagr := (hr' ρ' (Agr.refl _ _ _)).1
        have hz' : Zok E ρ' H (b1 ++ G) w al Z := by
         refine ⟨hz.lt, (hz.agr hagr).H, fun g hg k hk => ?_, hz.al⟩
         rcases List.mem_append.1 hg with hg | hg
         ·exfalso
          unfold FE.excl at hk
          split at hk
          ·exact hk
          ·rw [(ho g hg).1] at hk; cases hk.1
          ·rename_i T hT; exact (ho g hg).2 T hT
         ·exact (hz.agr hagr).G g hg k hk
        have hfr : Fresh E n H (b1 ++ G) := ⟨nBle_le f1, f2, freshE_mem f3, fun f hf => by
         rcases List.mem_append.1 hf with hf | hf
         ·exact freshG_mem f5 f hf
         ·exact freshG_mem f4 f hf, fun f hf => by
         rcases List.mem_append.1 hf with hf | hf
         ·exact freshG_nms f5 f hf
         ·exact freshG_nms f4 f hf⟩
        obtain ⟨k1, k2, k3⟩ := hh'.share (f := ⟨n, false, 0, al, .rows e f⟩) hfr rfl rfl hp hz' hr
        refine ⟨⟨_, k1, fun ρ'' hr => ?_, fun g hg k hk => ?_, fun g hg => ?_⟩, fun g hg => ?_⟩
        ·obtain ⟨j1, j2⟩ := k2 ρ'' hr
         obtain ⟨j3, j4⟩ := hr' ρ'' j1
         refine ⟨j3, ?_⟩
         simp only [SV.dens, SV.den, j4]
         rw [show ρ''.s n = s from j2]
        ·rcases List.mem_cons.1 hg with rfl | hg
         ·exact k3 k hk
         ·have hne : g.id ≠ n := hfr.G g (List.mem_append_left _ hg)
          refine hfo.1 g hg k ?_
          rw [FE.foot_names (ρ := ρ') (by rfl) (by simp [Nm.setS, hne]) (by simp [Nm.setS, hne])] at hk
          exact hk
        ·have hne : g.id ≠ n := freshG_mem f4 g hg
         rw [← hfo.2 g hg]
         simp [Nm.setS, hne]
        ·rcases List.mem_cons.1 hg with rfl | hg
         ·exact ⟨rfl, fun T => by simp⟩
         ·exact ho g hg
   ·cases h
end leaf
def takeF : Nat → List Lf → List Lf
 | 0, _ => []
 | _, [] => []
 | n + 1, x :: l => x :: takeF n l
def dropF : Nat → List Lf → List Lf
 | 0, l => l
 | _, [] => []
 | n + 1, _ :: l => dropF n l
def lenF : List Lf → Nat
 | [] => 0
 | _ :: l => lenF l + 1
theorem takeF_eq (n : Nat) (l : List Lf) : takeF n l = l.take n := by
 induction n generalizing l with
 | zero => simp [takeF]
 | succ n ih => cases l <;> simp [takeF, ih]
theorem dropF_eq (n : Nat) (l : List Lf) : dropF n l = l.drop n := by
 induction n generalizing l with
 | zero => simp [dropF]
 | succ n ih => cases l <;> simp [dropF, ih]
theorem lenF_eq (l : List Lf) : lenF l = l.length := by
 induction l with
 | nil => rfl
 | cons x l ih => simp [lenF, ih]
theorem All2.take {α β : Type} {r : α → β → Prop} (n : Nat) : ∀ {l : List α} {m : List β}, All2 r l m → All2 r (l.take n) (m.take n) := by
 induction n with
 | zero => intro l m _; trivial
 | succ n ih => intro l m h; cases l <;> cases m <;> first | exact h.elim | trivial | exact ⟨h.1, ih h.2⟩
theorem All2.drop {α β : Type} {r : α → β → Prop} (n : Nat) : ∀ {l : List α} {m : List β}, All2 r l m → All2 r (l.drop n) (m.drop n) := by
 induction n with
 | zero => intro l m h; exact h
 | succ n ih => intro l m h; cases l <;> cases m <;> first | exact h.elim | trivial | exact ih h.2
def elemAt (e : Shp) (x : Unit → List e.D) (i : IE) : Unit → e.D := fun u => (x u).getD i.den.toNat e.dflt
def obLt (e : Shp) (x : Unit → List e.D) (i : IE) : Unit → Prop := fun u => 0 ≤ i.den ∧ i.den < Int.ofNat (x u).length
def loadE (T : TT) (G : List FE) (n : Nat) (t : TypeId) (id : Nat) (i : IE) (s o : Nat) : Option (PR × List FE) :=
 match findE G id, TT.look T t with
 | some f, some j => match f.c with
   | .rows e x => match nBeq s e.size with
     | true => match j.sh.agg with
       | true => match nBle (o + j.size) (lenF (leaves e (elemAt e x i))) with
         | true => match lfVs f.al (takeF j.size (dropF o (leaves e (elemAt e x i)))) n with
           | some (vs, news) => some (⟨some (obLt e x i), .agg vs⟩, news)
           | none => none
         | false => none
       | false => match takeF 1 (dropF o (leaves e (elemAt e x i))) with
         | [l] => match lfVs f.al [l] n with
           | some ([v], news) => some (⟨some (obLt e x i), v⟩, news)
           | _ => none
         | _ => none
     | false => none
   | _ => none
 | _, _ => none
def lenE (T : TT) (G : List FE) (t : TypeId) (id : Nat) : Option PR :=
 match TT.look T t, findE G id with
 | some ⟨.slice _, _, _⟩, some f => match f.c with
   | .rows e x => some ⟨none, .int .i64 (.t fun u => Int.ofNat (x u).length)⟩
   | _ => none
 | _, _ => none
def indexE (T : TT) (G : List FE) (t : TypeId) (id : Nat) (i : IE) : Option PR :=
 match TT.look T t, findE G id with
 | some ⟨.slice te, _, _⟩, some f => match TT.look T te, f.c with
   | some j, .rows e x => match nBeq j.size e.size with
     | true => some ⟨some (obLt e x i), .fp id i e.size 0⟩
     | false => none
   | _, _ => none
 | _, _ => none
def entV (T : TT) (G : List FE) (n : Nat) (ev : Operand → SV) : Op → Option (PR × List FE)
 | .load t x => match ev x with
   | .fp id i s o => loadE T G n t id i s o
   | _ => none
 | .nilCheck x => match ev x with
   | .fp id i s o => match findE G id with
     | some f => match f.c with
       | .rows e y => match nBeq s e.size with
         | true => some (⟨some (obLt e y i), .fp id i s o⟩, [])
         | false => none
       | _ => none
     | none => none
   | _ => none
 | .fieldAddr t x f => match TT.look T t, ev x with
   | some ⟨.struct fs, _, _⟩, .fp id i s o => match nthF fs f, findE G id with
     | some (off, ft), some g => match TT.look T ft, g.c with
       | some j, .rows e y => match nBeq s e.size && !nBeq j.size 0 with
         | true => some (⟨some (obLt e y i), .fp id i s (o + off)⟩, [])
         | false => none
       | _, _ => none
     | _, _ => none
   | _, _ => none
 | .indexAddr t x i => match ev x, ev i with
   | .fv id, .int _ i => (indexE T G t id i).map fun r => (r, [])
   | .fp id i s o, .int _ (.c (.ofNat m)) => match TT.look T t, findE G id with
     | some ⟨.array n e', _, _⟩, some g => match TT.look T e', g.c with
       | some j, .rows e y => match nBeq s e.size && nBlt 1 n && nBlt m n with
         | true => some (⟨some (obLt e y i), .fp id i s (o + m * j.size)⟩, [])
         | false => none
       | _, _ => none
     | _, _ => none
   | _, _ => none
 | .call c => match c.callee with
   | .builtin .len => match evs ev c.args.toList, c.argTypes.toList with
     | [.fv id], [t] => (lenE T G t id).map fun r => (r, [])
     | _, _ => none
   | _ => none
 | _ => none
section ent
variable {E : Env} {ρ : Nm} {w : World} {H : List Ent} {G : List FE} {P : Program} {T : TT}
theorem at_elem {f : FE} (hf : f.holds ρ w) {e : Shp} {x : Unit → List e.D} (hc : f.c = .rows e x) (hp : 0 < e.size) {i : Int} (h0 : 0 ≤ i) (h1 : i < (x ()).length) :
    ∃ b off cs, (∀ o, (ρ.s f.id).at (i.toNat * e.size + o) = some ⟨b, off + (i.toNat * e.size + o), none⟩) ∧ (ρ.s f.id).a = some ⟨b, off, none⟩ ∧ f.foot ρ b ∧ (∀ j v, cs[j]? = some v → w.cell? ⟨b, off + j, none⟩ = some v) ∧
      Shp.rep w (f.foot ρ) e ((x ()).getD i.toNat e.dflt) (chunk cs i.toNat e.size) ∧ (f.own = true → Shp.rep w (ρ.z f.id) e ((x ()).getD i.toNat e.dflt) (chunk cs i.toNat e.size)) := by
 have hlt : i.toNat < (x ()).length := by omega
 have hg : (x ()).getD i.toNat e.dflt = (x ())[i.toNat] := by simp [List.getD_eq_getElem?_getD, List.getElem?_eq_getElem hlt]
 have main : ∀ cs : List Value, cs.length = (x ()).length * e.size → Reads w (f.foot ρ) (ρ.s f.id).a cs → ∃ b off, (∀ o, (ρ.s f.id).at (i.toNat * e.size + o) = some ⟨b, off + (i.toNat * e.size + o), none⟩) ∧ (ρ.s f.id).a = some ⟨b, off, none⟩ ∧ f.foot ρ b ∧ (∀ j v, cs[j]? = some v → w.cell? ⟨b, off + j, none⟩ = some v) := by
  intro cs hl hr
  rcases hr with h | ⟨b, off, ha, hb, hcell⟩
  ·exfalso
   rw [h] at hl
   have : 0 < (x ()).length * e.size := Nat.mul_pos (by omega) hp
   simp at hl
   omega
  ·exact ⟨b, off, fun o => by simp [Sl.at, ha], ha, hb, hcell⟩
 have hrd := FE.reads hf hc
 cases ho : f.own with
 | false =>
   obtain ⟨cs, h3, h4, h5⟩ := hrd.ex
   obtain ⟨b, off, k1, k2, k3, k4⟩ := main cs h3 h4
   exact ⟨b, off, cs, k1, k2, k3, k4, by rw [hg]; exact h5 _ hlt, fun h => by cases h⟩
 | true =>
   unfold FE.holds at hf
   rw [hc] at hf
   obtain ⟨_, h2⟩ := hf
   rw [ho] at h2
   obtain ⟨cs, h3, h4⟩ := h2.ex
   have hz : ∀ k, ρ.z f.id k → f.foot ρ k := fun k hk => by unfold FE.foot; rw [hc]; exact .inl hk
   obtain ⟨b, off, k1, k2, k3, k4⟩ := main cs h3.1 (ownsRow_reads h3 fun y hy => by unfold FE.foot; rw [hc]; exact .inr ⟨.inl ho, y, hy, rfl⟩)
   refine ⟨b, off, cs, k1, k2, k3, k4, by rw [hg]; exact Shp.rep_mono hz (fun _ _ => rfl) e _ _ (h4 _ hlt), fun _ => by rw [hg]; exact h4 _ hlt⟩
theorem Hp.zok (hh : Hp E ρ H G w) {f : FE} (hf : f ∈ G) {e : Shp} {x : Unit → List e.D} (hc : f.c = .rows e x) (hex : ∀ g ∈ G, ∀ k, g.excl ρ k → ¬ f.foot ρ k ∨ g = f) : Zok E ρ H G w f.al (match f.own with | true => ρ.z f.id | false => f.foot ρ) := by
 have hz : ∀ k, ρ.z f.id k → f.foot ρ k := fun k hk => by unfold FE.foot; rw [hc]; exact .inl hk
 cases ho : f.own with
 | false =>
   refine ⟨fun k hk => hh.foot_lt hf hk, fun e' he => hh.apart e' he f hf, fun g hg k hk hk2 => ?_, fun k hk => hh.al f hf k hk⟩
   rcases hex g hg k hk with h | rfl
   ·exact h hk2
   ·unfold FE.excl at hk
    rw [hc, ho] at hk
    cases hk.1
 | true =>
   refine ⟨fun k hk => hh.foot_lt hf (hz k hk), fun e' he hk => hh.apart e' he f hf (hz _ hk), fun g hg k hk hk2 => ?_, fun k hk => hh.al f hf k (hz k hk)⟩
   rcases hex g hg k hk with h | rfl
   ·exact h (hz k hk2)
   ·have hfa := hh.facts _ hf
    unfold FE.holds at hfa
    rw [hc] at hfa
    have h2 := hfa.2
    rw [ho] at h2
    unfold FE.excl at hk
    rw [hc] at hk
    obtain ⟨_, y, hy, rfl⟩ := hk
    exact h2.top y hy hk2
theorem Hp.sep (hh : Hp E ρ H G w) {f : FE} (hf : f ∈ G) : ∀ g ∈ G, ∀ k, g.excl ρ k → ¬ f.foot ρ k ∨ g = f := by
 intro g hg k hk
 obtain ⟨i, hi, rfl⟩ := List.getElem_of_mem hf
 obtain ⟨j, hj, rfl⟩ := List.getElem_of_mem hg
 have hp := List.pairwise_iff_getElem.1 hh.alone
 rcases Nat.lt_trichotomy i j with h | h | h
 ·exact .inl ((hp i j hi hj h k).2 hk)
 ·subst h; exact .inr rfl
 ·exact .inl ((hp j i hj hi h k).1 hk)
end ent
end Go.Proofs.Ytkeefgiajogkkaa.V
