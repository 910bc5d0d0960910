import Derived.Test.YtkifmppmfkpfbaaGreatW14
set_option linter.unusedVariables false
set_option linter.unusedSimpArgs false
namespace Go.Proofs.YtkifmppmfkpfbaaGreat.V
open Go.RowKit
section
inductive RO where
 | own (t : TypeId)
 | sh
def argIds (H : List Ent) (G : List FE) : (as9 : List Shp) → List SV → Option (List (List Nat × List Nat))
 | [] => fun l => match l with
   | [] => some []
   | _ :: _ => none
 | e :: as9 => fun l => match l with
   | [] => none
   | v :: l => match argC e v with
     | some cs => match dec H G e cs, argIds H G as9 l with
       | some d, some r => some ((d.ids, d.bs) :: r)
       | _, _ => none
     | none => none
def allIds : List (List Nat × List Nat) → List Nat
 | [] => []
 | p :: l => catN p.1 (allIds l)
def tkIds : List (Option TypeId) → List (List Nat × List Nat) → List Nat
 | some _ :: tk, p :: l => catN p.1 (tkIds tk l)
 | none :: tk, _ :: l => tkIds tk l
 | _, _ => []
def apartN (l m : List Nat) : Bool := match l with
 | [] => true
 | x :: l => !memN x m && apartN l m
def tkOk (G : List FE) : List (Option TypeId) → List (List Nat × List Nat) → Bool
 | [], [] => true
 | none :: tk, p :: l => apartN p.1 (tkIds tk l) && tkOk G tk l
 | some t :: tk, p :: l => (match p.1 with
   | [] => isNilN p.2
   | [i] => (match findE G i with
     | some f => f.own && nBeq f.t t
     | none => false) && !memN i (allIds l) && isNilN p.2
   | _ => false) && tkOk G tk l
 | _, _ => false
def svArg1 : (e : Shp) → Option TypeId → (Unit → e.D) → Nat → Option (SV × List FE)
 | .sl e, some te, x, i => match nBlt 0 e.size with
   | true => some (.fv (50 * i), [⟨50 * i, true, te, [i], .rows e x⟩])
   | false => none
 | _, some _, _, _ => none
 | e, none, x, i => match lfVs [i] (leaves e x) (50 * i) with
   | some (cs, a) => some (packS e cs, a)
   | none => none
def svArgsT : (as9 : List Shp) → List (Option TypeId) → (Unit → Shp.Ds as9) → Nat → Option (List SV × List FE)
 | [], _, _, _ => some ([], [])
 | e :: as9, k :: tk, x, i => match svArg1 e k (fun u => (x u).1) i, svArgsT as9 tk (fun u => (x u).2) (i + 1) with
   | some (v, a), some (vs, b) => some (v :: vs, catE a b)
   | _, _ => none
 | _ :: _, [], _, _ => none
section args
variable {E : Env} {ρ : Nm} {w : World} {H : List Ent} {G : List FE}
theorem mem_apartN {m : List Nat} : ∀ {l : List Nat}, apartN l m = true → ∀ x ∈ l, x ∉ m
 | [], _, x, h => by cases h
 | y :: l, h, x, hx => by
   simp only [apartN, Bool.and_eq_true, Bool.not_eq_true'] at h
   rcases List.mem_cons.1 hx with rfl | hx
   ·exact fun hm => by rw [memN_mem.2 hm] at h; cases h.1
   ·exact mem_apartN h.2 x hx
def mayOf (ρ : Nm) (G : List FE) (ids : List Nat) (k : Nat) : Prop := ∃ i ∈ ids, ∃ f, findE G i = some f ∧ f.excl ρ k
def callEnvT (w : World) (may : Nat → Prop) (z0 : Nat → Nat → Prop) (lo hi : Nat) (ρ : Nm) : Env := ⟨BelowX w.heap.size may w, w.heap.size, may, z0, lo, hi, ρ, []⟩
theorem callEnvT_ok (w : World) (may : Nat → Prop) (z0 : Nat → Nat → Prop) (lo hi : Nat) (ρ : Nm) : (callEnvT w may z0 lo hi ρ).ok := ⟨fun w1 w2 h1 h2 => BelowX.trans h1 h2⟩
theorem hp_emptyT (w : World) (may : Nat → Prop) (z0 : Nat → Nat → Prop) (lo hi : Nat) (ρ : Nm) : Hp (callEnvT w may z0 lo hi ρ) ρ [] [] w :=
 ⟨.of (Below.refl _ _) _, Nat.le_refl _, fun e he => (by cases he), fun ρ' _ e he => (by cases he), fun e he => (by cases he), fun f hf => (by cases hf), fun f hf => (by cases hf), fun e he => (by cases he), List.Pairwise.nil, fun f hf => (by cases hf), fun f hf => (by cases hf), fun _ _ => ⟨rfl, rfl⟩⟩
structure StartOk (Ec : Env) (ρ : Nm) (G : List FE) (w : World) (ids tk : List Nat) (bs : List Nat) (svs : List SV) (vals : List Value) (ents : List FE) : Prop where
 ex : ∃ ρc, Hp Ec ρc [] ents w ∧ (∀ ρ'', Agr ρc ρ'' [] ents → SV.dens ρ'' svs = vals) ∧ ∀ f ∈ ents, (∀ k, f.foot ρc k → DFoot ρ G ids bs k) ∧ (∀ k, f.excl ρc k → mayOf ρ G tk k) ∧ ∀ T, f.c ≠ .codes T
theorem argIds_dec : ∀ (as9 : List Shp) (l : List SV) (d : Dc (Shp.Ds as9)) (per : List (List Nat × List Nat)), decArgs H G as9 l = some d → argIds H G as9 l = some per → allIds per = d.ids ∧ per.length = as9.length
 | [], l, d, per, h, hp => by
   simp only [decArgs] at h
   simp only [argIds] at hp
   split at h
   ·cases h; cases hp; exact ⟨rfl, rfl⟩
   ·cases h
 | e :: as9, l, d, per, h, hp => by
   simp only [decArgs] at h
   simp only [argIds] at hp
   split at h
   ·cases h
   ·split at h
    ·rename_i cs hcs
     split at h
     ·rename_i d1 hd1
      split at h
      ·split at h
       ·rename_i r1 hr1
        cases h
        simp only [hcs, hd1] at hp
        split at hp
        ·rename_i r2 h1 h2
         cases hp
         cases h1
         obtain ⟨q1, q2⟩ := argIds_dec as9 _ r1 r2 hr1 h2
         exact ⟨by simp only [allIds, q1], by simp [q2]⟩
        ·cases hp
       ·cases h
      ·cases h
     ·cases h
    ·cases h
theorem decL_cases {e : Shp} {f : List SV → Option (Dc e.D)} {v : SV} {r : List SV} {d : Dc (List e.D)} (h : decL H G e f (v :: r) = some d) :
    (v = .val (.slice none 0 0) ∧ d.ids = [] ∧ d.x () = []) ∨ (∃ id g x, v = .fv id ∧ findE G id = some g ∧ g.c = .rows e x ∧ d.x () = x () ∧ d.ids = [id] ∧ d.bs = []) ∨ d.bs ≠ [] := by
 unfold decL at h
 split at h
 ·rename_i heq
  cases heq
  cases h
  exact .inl ⟨rfl, rfl, rfl⟩
 ·rename_i id r' heq
  cases heq
  split at h
  ·rename_i g hg
   split at h
   ·rename_i e' x hc
    cases hq : shEq e' e with
    | false => rw [hq] at h; cases h
    | true =>
      rw [hq] at h
      have := shEq_eq hq
      subst this
      cases h
      exact .inr (.inl ⟨id, g, x, rfl, hg, hc, by simp only [convL_self], rfl, rfl⟩)
   ·cases h
  ·cases h
 ·split at h
  ·split at h
   ·split at h
    ·cases h; exact .inr (.inr (by simp))
    ·cases h
   ·cases h
  ·cases h
 ·cases h
def allBs : List (List Nat × List Nat) → List Nat
 | [] => []
 | p :: l => catN p.2 (allBs l)
theorem tkIds_all : ∀ {tk : List (Option TypeId)} {per : List (List Nat × List Nat)} {i : Nat}, i ∈ tkIds tk per → i ∈ allIds per
 | [], _, i, h => by simp [tkIds] at h
 | some _ :: _, [], i, h => by simp [tkIds] at h
 | none :: _, [], i, h => by simp [tkIds] at h
 | some _ :: tk, p :: l, i, h => by
   simp only [tkIds, allIds, catN_eq, List.mem_append] at h ⊢
   exact h.imp (fun h => h) tkIds_all
 | none :: tk, p :: l, i, h => by
   simp only [tkIds, allIds, catN_eq, List.mem_append] at h ⊢
   exact .inr (tkIds_all h)
theorem svArgsT_sound (hh : Hp E ρ H G w) (may : Nat → Prop) (z0 : Nat → Nat → Prop) (lo hi : Nat) : ∀ (as9 : List Shp) (tk : List (Option TypeId)) (l : List SV) (d : Dc (Shp.Ds as9)) (i : Nat) (per : List (List Nat × List Nat)) (svs : List SV) (ents : List FE),
    decArgs H G as9 l = some d → (∀ p ∈ d.ob, p ()) → argIds H G as9 l = some per → tkOk G tk per = true → svArgsT as9 tk (fun _ => d.x ()) i = some (svs, ents) → freshL lo hi [] [] ents = true →
    (∀ j p, per[j]? = some p → ∀ k, DFoot ρ G p.1 p.2 k → z0 (i + j) k) → (∀ k, mayOf ρ G (tkIds tk per) k → may k) →
    StartOk (callEnvT w may z0 lo hi ρ) ρ G w (allIds per) (tkIds tk per) (allBs per) svs (SV.dens ρ l) ents ∧ ∀ b ∈ allBs per, ∃ x ∈ H, x.id = b
 | [], tk, l, d, i, per, svs, ents, h, ho, hp, ht, hs, hfr, hz0, hmay => by
   simp only [decArgs] at h
   simp only [argIds] at hp
   unfold svArgsT at hs
   cases hs
   split at h
   ·cases hp
    exact ⟨⟨ρ, hp_emptyT w may z0 lo hi ρ, fun _ _ => rfl, fun f hf => by cases hf⟩, fun b hb => by cases hb⟩
   ·cases h
 | e :: as9, tk, l, d, i, per, svs, ents, h, ho, hp, ht, hs, hfr, hz0, hmay => by
   simp only [decArgs] at h
   simp only [argIds] at hp
   match l, h, hp with
   | [], h, _ => cases h
   | v :: l, h, hp =>
   simp only at h hp
   cases hcs : argC e v with
   | none => rw [hcs] at h; cases h
   | some cs =>
   rw [hcs] at h hp
   simp only at h hp
   cases hd1 : dec H G e cs with
   | none => rw [hd1] at h; cases h
   | some d1 =>
   rw [hd1] at h hp
   simp only at h hp
   cases hrest : d1.rest with
   | cons _ _ => rw [hrest] at h; cases h
   | nil =>
   rw [hrest] at h
   simp only at h
   cases hr1 : decArgs H G as9 l with
   | none => rw [hr1] at h; cases h
   | some r1 =>
   rw [hr1] at h
   cases h
   cases hper : argIds H G as9 l with
   | none => rw [hper] at hp; cases hp
   | some per' =>
   rw [hper] at hp
   cases hp
   simp only [catP_eq] at ho
   match tk, ht, hs with
   | [], ht, _ => simp [tkOk] at ht
   | k :: tk, ht, hs =>
   simp only [svArgsT] at hs
   split at hs
   ·rename_i v1 a1 vs1 b1 h1 h2
    cases hs
    rw [catE_eq] at hfr ⊢
    obtain ⟨f1, f2⟩ := freshL_append hfr
    have ht' : tkOk G tk per' = true := by
     cases k with
     | none => simp only [tkOk, Bool.and_eq_true] at ht; exact ht.2
     | some t => simp only [tkOk, Bool.and_eq_true] at ht; exact ht.2
    have hmay' : ∀ q, mayOf ρ G (tkIds tk per') q → may q := by
     rintro q ⟨j, hj, f, hf, hx⟩
     refine hmay q ⟨j, ?_, f, hf, hx⟩
     cases k with
     | none => simp only [tkIds]; exact hj
     | some t => simp only [tkIds, catN_eq]; exact List.mem_append_right _ hj
    obtain ⟨⟨ρc, k1, k2, k3⟩, hbs'⟩ := svArgsT_sound hh may z0 lo hi as9 tk l r1 (i + 1) per' vs1 b1 hr1 (fun p hp => ho p (List.mem_append_right _ hp)) hper ht' h2 f1 (fun j p hj q hq => by
     have := hz0 (j + 1) p (by simpa using hj) q hq
     rw [show i + 1 + j = i + (j + 1) by omega]
     exact this) hmay'
    have hz00 : ∀ q, DFoot ρ G d1.ids d1.bs q → z0 i q := fun q hq => hz0 0 (d1.ids, d1.bs) (by simp) q hq
    have ho1 := fun p (hp : p ∈ d1.ob) => ho p (List.mem_append_left _ hp)
    have hbs1 := dec_bs e cs d1 hd1
    have hbs : ∀ b ∈ allBs ((d1.ids, d1.bs) :: per'), ∃ x ∈ H, x.id = b := by
     intro b hb
     simp only [allBs, catN_eq] at hb
     exact (List.mem_append.1 hb).elim (hbs1 b) (hbs' b)
    have up : ∀ f ∈ b1, (∀ q, f.foot ρc q → DFoot ρ G (allIds ((d1.ids, d1.bs) :: per')) (allBs ((d1.ids, d1.bs) :: per')) q) ∧ (∀ q, f.excl ρc q → mayOf ρ G (tkIds (k :: tk) ((d1.ids, d1.bs) :: per')) q) ∧ ∀ T, f.c ≠ .codes T := by
     intro f hf
     obtain ⟨u1, u2, u3⟩ := k3 f hf
     refine ⟨fun q hq => by simp only [allIds, allBs, catN_eq]; exact (u1 q hq).right, fun q hq => ?_, u3⟩
     obtain ⟨j, hj, g, hg, hx⟩ := u2 q hq
     refine ⟨j, ?_, g, hg, hx⟩
     cases k with
     | none => simp only [tkIds]; exact hj
     | some t => simp only [tkIds, catN_eq]; exact List.mem_append_right _ hj
    -- a slice that is taken over is apart from the others
    have sepd : ∀ {id : Nat} {f : FE}, findE G id = some f → ∀ {ids bs : List Nat}, id ∉ ids → (∀ b ∈ bs, ∃ x ∈ H, x.id = b) → ∀ q, f.excl ρ q → ¬ DFoot ρ G ids bs q := by
     intro id f hf ids bs hni hb q hx hq
     rcases hq with ⟨j, hj, g, hg, hgq⟩ | ⟨b, hbm, rfl⟩
     ·rcases hh.sep (findE_mem hg).1 f (findE_mem hf).1 q hx with h | h
      ·exact h hgq
      ·apply hni
       rw [← (findE_mem hf).2, h, (findE_mem hg).2]
       exact hj
     ·obtain ⟨x, hx', rfl⟩ := hb b hbm
      exact hh.apart x hx' f (findE_mem hf).1 (FE.excl_foot hx)
    cases k with
    | none =>
      have h1' : ∃ svs1, lfVs [i] (leaves e fun _ => d1.x ()) (50 * i) = some (svs1, a1) ∧ v1 = packS e svs1 := by
       cases e <;> simp only [svArg1] at h1 <;> (split at h1 <;> first | (rename_i hq; cases h1; exact ⟨_, hq, rfl⟩) | cases h1)
      obtain ⟨svs1, h1', rfl⟩ := h1'
      obtain ⟨used, e1, hrep⟩ := (dec_sound hh e cs d1 hd1 ho1).ex
      rw [hrest, List.append_nil] at e1
      subst e1
      have hrep := hrep (DFoot ρ G d1.ids d1.bs) fun q hq => hq
      simp only [tkOk, Bool.and_eq_true] at ht
      have hap := mem_apartN ht.1
      have hz : Zok (callEnvT w may z0 lo hi ρ) ρc [] b1 w [i] (DFoot ρ G d1.ids d1.bs) := ⟨fun q hq => DFoot.lt hh hbs1 hq, fun e he => (by cases he), fun g hg q hx hq => by
       obtain ⟨j, hj, f, hf, hfx⟩ := (k3 g hg).2.1 q hx
       exact sepd hf (fun hji => hap j hji hj) hbs1 q hfx hq, fun q hq => .inr ⟨i, List.mem_singleton_self _, hz00 q hq⟩⟩
      have hl : freshL (callEnvT w may z0 lo hi ρ).lo (callEnvT w may z0 lo hi ρ).hi [] b1 a1 = true := by
       rw [List.append_nil] at f2
       exact f2
      obtain ⟨⟨ρ1, q1, q2, q4, q5⟩, q3⟩ := lfVs_sound _ _ svs1 a1 _ ρc h1' k1 hz ((rep_leaves e (fun _ => d1.x ()) _).1 hrep) hl
      have hag := (q2 ρ1 (Agr.refl _ _ _)).1
      refine ⟨⟨ρ1, q1, fun ρ'' hr => ?_, fun f hf => ?_⟩, hbs⟩
      ·obtain ⟨p1, p2⟩ := q2 ρ'' hr
       simp only [SV.dens]
       rw [packS_den hcs p2, k2 ρ'' p1]
      ·rcases List.mem_append.1 hf with hf | hf
       ·refine ⟨fun q hq => by simp only [allIds, allBs, catN_eq]; exact (q4 f hf q hq).left, fun q hq => ?_, (q3 f hf).2⟩
        unfold FE.excl at hq
        split at hq
        ·exact hq.elim
        ·rw [(q3 f hf).1] at hq; cases hq.1
        ·rename_i T hT; exact absurd hT ((q3 f hf).2 T)
       ·rw [FE.foot_names (hag.2 f hf).1 (hag.2 f hf).2 (q5 f hf), FE.excl_names (hag.2 f hf).1 (hag.2 f hf).2]
        exact up f hf
    | some te =>
      cases e with
      | sl e =>
        simp only [svArg1] at h1
        split at h1
        ·rename_i hpos
         cases h1
         rw [nBlt_iff] at hpos
         simp only [tkOk, Bool.and_eq_true] at ht
         have ht1 := ht.1
         have hcsv : cs = [v] := by
          unfold argC at hcs
          simp only [isSt] at hcs
          cases hcs; rfl
         subst hcsv
         simp only [dec] at hd1
         have hfr1 : Fresh (callEnvT w may z0 lo hi ρ) (50 * i) [] b1 := by
          simp only [List.append_nil, freshL, Bool.and_eq_true, nBlt_iff] at f2
          exact ⟨nBle_le f2.1.1.1.1.1, f2.1.1.1.1.2, fun e he => (by cases he), freshG_mem f2.1.1.2, freshG_nms f2.1.1.2⟩
         have finish : ∀ (s : Sl) (Z : Nat → Prop), v.den ρ = s.val → (∀ ρ1 : Nm, (⟨50 * i, true, te, [i], .rows e (fun _ => d1.x ())⟩ : FE).holds (ρ1.setS (50 * i) s Z) w) →
             ((∀ (ρ1 : Nm) q, ¬ (⟨50 * i, true, te, [i], .rows e (fun _ => d1.x ())⟩ : FE).foot (ρ1.setS (50 * i) s Z) q) ∨ ∃ id f, findE G id = some f ∧ d1.ids = [id] ∧ id ∉ allIds per' ∧ ∀ (ρ1 : Nm) q, ((⟨50 * i, true, te, [i], .rows e (fun _ => d1.x ())⟩ : FE).foot (ρ1.setS (50 * i) s Z) q → f.foot ρ q) ∧ ((⟨50 * i, true, te, [i], .rows e (fun _ => d1.x ())⟩ : FE).excl (ρ1.setS (50 * i) s Z) q → f.excl ρ q)) →
             StartOk (callEnvT w may z0 lo hi ρ) ρ G w (allIds ((d1.ids, d1.bs) :: per')) (tkIds (some te :: tk) ((d1.ids, d1.bs) :: per')) (allBs ((d1.ids, d1.bs) :: per')) (.fv (50 * i) :: vs1) (SV.dens ρ (v :: l)) ([⟨50 * i, true, te, [i], .rows e (fun _ => d1.x ())⟩] ++ b1) := by
          intro s Z hv hho hfo
          have hgs : ∀ g ∈ b1, ∀ q, ((⟨50 * i, true, te, [i], .rows e (fun _ => d1.x ())⟩ : FE).excl (ρc.setS (50 * i) s Z) q → ¬ g.foot ρc q) ∧ (g.excl ρc q → ¬ (⟨50 * i, true, te, [i], .rows e (fun _ => d1.x ())⟩ : FE).foot (ρc.setS (50 * i) s Z) q) := by
           intro g hg q
           rcases hfo with h0 | ⟨id, f, hf, hids, hni, hfx⟩
           ·exact ⟨fun hx => absurd (FE.excl_foot hx) (h0 ρc q), fun _ => h0 ρc q⟩
           ·refine ⟨fun hx hgf => sepd hf hni hbs' q ((hfx ρc q).2 hx) ((k3 g hg).1 q hgf), fun hx hff => ?_⟩
            obtain ⟨j, hj, f', hf', hx'⟩ := (k3 g hg).2.1 q hx
            rcases hh.sep (findE_mem hf).1 f' (findE_mem hf').1 q hx' with h | h
            ·exact h ((hfx ρc q).1 hff)
            ·apply hni
             rw [← (findE_mem hf).2, ← h, (findE_mem hf').2]
             exact tkIds_all hj
          obtain ⟨r1, r2⟩ := k1.add ⟨50 * i, true, te, [i], .rows e (fun _ => d1.x ())⟩ hfr1 s Z (fun T => by simp) (hho ρc) (fun e' x' he => by cases he; exact hpos) (fun e' he => by cases he) hgs
           (fun q hx => by
            rcases hfo with h0 | ⟨id, f, hf, hids, hni, hfx⟩
            ·exact absurd (FE.excl_foot hx) (h0 ρc q)
            ·exact .inl (hmay q ⟨id, by simp only [tkIds, catN_eq, hids]; simp, f, hf, (hfx ρc q).2 hx⟩))
           (fun q hq => by
            rcases hfo with h0 | ⟨id, f, hf, hids, hni, hfx⟩
            ·exact absurd hq (h0 ρc q)
            ·exact .inr ⟨i, List.mem_singleton_self _, hz00 q (.inl ⟨id, by rw [hids]; exact List.mem_singleton_self _, f, hf, (hfx ρc q).1 hq⟩)⟩)
          refine ⟨_, r1, fun ρ'' hr => ?_, fun f' hf' => ?_⟩
          ·obtain ⟨p1, p2⟩ := r2 ρ'' hr
           simp only [SV.dens, SV.den, k2 ρ'' p1, hv]
           rw [show ρ''.s (50 * i) = s from p2]
          ·rcases List.mem_append.1 hf' with hf' | hf'
           ·rw [List.mem_singleton] at hf'
            subst hf'
            rcases hfo with h0 | ⟨id, f, hf, hids, hni, hfx⟩
            ·exact ⟨fun q hq => absurd hq (h0 ρc q), fun q hq => absurd (FE.excl_foot hq) (h0 ρc q), fun T => by simp⟩
            ·refine ⟨fun q hq => .inl ⟨id, by simp only [allIds, catN_eq, hids]; simp, f, hf, (hfx ρc q).1 hq⟩, fun q hq => ⟨id, by simp only [tkIds, catN_eq, hids]; simp, f, hf, (hfx ρc q).2 hq⟩, fun T => by simp⟩
           ·have hne : f'.id ≠ 50 * i := hfr1.G f' hf'
            rw [FE.foot_names (ρ := ρc) (by rfl) (by simp [Nm.setS, hne]) (by simp [Nm.setS, hne]), FE.excl_names (ρ := ρc) (by rfl) (by simp [Nm.setS, hne])]
            exact up f' hf'
         refine ⟨?_, hbs⟩
         rcases decL_cases hd1 with ⟨rfl, hids, hx⟩ | ⟨id, g, x, rfl, hg, hgc, hx, hids, _⟩ | hb
         ·refine finish ⟨none, 0, 0⟩ (fun _ => False) (by simp only [SV.den, Sl.val]) (fun ρ1 => ?_) (.inl fun ρ1 q hq => ?_)
          ·unfold FE.holds
           simp only [Nm.setS, if_true, hx]
           exact ⟨fun k hk => hk.elim, ⟨rfl, by simp, by simp, by simp⟩, ⟨[], World.ownsRow_nil w 0 te e.size, fun i hi => by simp at hi⟩, fun x hx => by simp at hx⟩
          ·unfold FE.foot FE.top at hq
           simp only [Nm.setS, if_true] at hq
           rcases hq with hq | ⟨_, y, hy, _⟩
           ·exact hq
           ·cases hy
         ·rw [hids] at ht1
          simp only [hg, Bool.and_eq_true, Bool.not_eq_true'] at ht1
          obtain ⟨⟨⟨o1, o2⟩, o3⟩, o4⟩ := ht1
          have o2 := nBeq_eq o2
          have hni : id ∉ allIds per' := fun hm => by rw [memN_mem.2 hm] at o3; cases o3
          have hgid := (findE_mem hg).2
          have as9 : ∀ ρ1 : Nm, AsF (ρ1.setS (50 * i) (ρ.s id) (ρ.z id)) ⟨50 * i, true, te, [i], .rows e (fun _ => d1.x ())⟩ ρ g := fun ρ1 => ⟨o1.symm, o2.symm, by rw [hgid]; simp [Nm.setS], by rw [hgid]; simp [Nm.setS], fun ⟨T, hT⟩ => (by rw [hgc] at hT; cases hT), .inr (.inl ⟨e, _, x, rfl, hgc, hx⟩), fun k => by rw [hgc]; rfl⟩
          exact finish (ρ.s id) (ρ.z id) (by simp only [SV.den]) (fun ρ1 => (as9 ρ1).holds (hh.facts g (findE_mem hg).1)) (.inr ⟨id, g, hg, hids, hni, fun ρ1 q => ⟨((as9 ρ1).foot q).1, ((as9 ρ1).excl q).1⟩⟩)
         ·exfalso
          split at ht1
          ·cases hbb : d1.bs with
           | nil => exact hb hbb
           | cons _ _ => rw [hbb] at ht1; cases ht1
          ·simp only [Bool.and_eq_true] at ht1
           cases hbb : d1.bs with
           | nil => exact hb hbb
           | cons _ _ => rw [hbb] at ht1; cases ht1.2
          ·cases ht1
        ·cases h1
      | _ => simp [svArg1] at h1
   ·cases hs
end args
def okResT (G : List FE) (tl ls : List Nat) : List SV → List Bool → List RO → List Nat → Bool
 | [], [], _, _ => true
 | _ :: l, false :: k, ros, u => okResT G tl ls l k ros u
 | v :: l, true :: k, ro :: ros, u => match v with
   | .fv i => (match findE G i with
     | some f => (match ro with
       | .own t => f.own && subN f.al (catN tl ls) && nBeq f.t t
       | .sh => subN f.al ls) && !memN i u
     | none => false) && okResT G tl ls l k ros (i :: u)
   | .val (.slice none 0 0) => okResT G tl ls l k ros u
   | _ => false
 | _, _, _, _ => false
def retPostT (rs : List Shp) (ros : List RO) (tl ls : List Nat) (post : Shp.Ds rs → Prop) (v : SV) (s : St) : Prop :=
 match retC rs v with
 | some l => match decArgs s.heap s.ents rs l, flatC rs l with
   | some d, some cs => (okResT s.ents tl ls cs (kindss rs) ros [] && isNilN d.bs) = true ∧ obsK d.ob (Fin fun u => post (d.x u))
   | _, _ => False
 | none => False
def lfRT (alT alS : List Nat) : Lf → List RO → Nat → Option (SV × List FE × List RO)
 | .int k f, ros, _ => some (.int k (.t f), [], ros)
 | .byte f, ros, _ => some (.int .u8 (.t fun u => Int.ofNat (f u).toNat), [], ros)
 | .bool f, ros, _ => some (.bool (.t f), [], ros)
 | .str f, ros, _ => some (.str f, [], ros)
 | .sl e f, ro :: ros, n => match nBlt 0 e.size with
   | true => match ro with
     | .own t => some (.fv n, [⟨n, true, t, catN alT alS, .rows e f⟩], ros)
     | .sh => some (.fv n, [⟨n, false, 0, alS, .rows e f⟩], ros)
   | false => none
 | _, _, _ => none
def lfRsT (alT alS : List Nat) : List Lf → List RO → Nat → Option (List SV × List FE)
 | [], _, _ => some ([], [])
 | l :: r, ros, n => match lfRT alT alS l ros n with
   | some (v, a, ros') => match lfRsT alT alS r ros' (n + 1) with
     | some (vs, b) => some (v :: vs, catE a b)
     | none => none
   | none => none
section ret
variable {E : Env} {ρ : Nm} {w : World} {H : List Ent} {G : List FE}
theorem lfRT_kinds (alT alS : List Nat) : ∀ {l : Lf}, (∃ e f, l = .sl e f) ∨ (isSl l = false ∧ ∀ ts n, ∃ v, lfRT alT alS l ts n = some (v, [], ts) ∧ ∀ ρ, ∀ G v', RL ρ G v' l → ∀ ρ', v.den ρ' = v'.den ρ) := by
 intro l
 cases l with
 | sl e f => exact .inl ⟨e, f, rfl⟩
 | int k f => exact .inr ⟨rfl, fun ts n => ⟨_, rfl, fun ρ G v' h ρ' => by rw [show v'.den ρ = _ from h]; simp only [SV.den, den_t]⟩⟩
 | byte f => exact .inr ⟨rfl, fun ts n => ⟨_, rfl, fun ρ G v' h ρ' => by rw [show v'.den ρ = _ from h]; simp only [SV.den, den_t, Int.ofNat_eq_natCast]⟩⟩
 | bool f => exact .inr ⟨rfl, fun ts n => ⟨_, rfl, fun ρ G v' h ρ' => by rw [show v'.den ρ = _ from h]; simp only [SV.den, bden_t]⟩⟩
 | str f => exact .inr ⟨rfl, fun ts n => ⟨_, rfl, fun ρ G v' h ρ' => by rw [show v'.den ρ = _ from h]; simp only [SV.den]⟩⟩
structure Places (E : Env) (ρ : Nm) (H : List Ent) (G : List FE) (Ec : Env) (w : World) (tl ls alT alS : List Nat) (TF TX LF : Nat → Prop) : Prop where
 B : E.B ≤ Ec.B
 Hb : ∀ e ∈ H, ρ.b e.id < Ec.B ∧ ¬ TF (ρ.b e.id) ∧ ¬ LF (ρ.b e.id)
 Gb : ∀ g ∈ G, ∀ k, g.foot ρ k → k < Ec.B
 Gt : ∀ g ∈ G, ∀ k, (TX k → ¬ g.foot ρ k) ∧ (g.excl ρ k → ¬ TF k) ∧ (g.excl ρ k → ¬ LF k)
 tl : ∀ j ∈ tl, ∀ k, Ec.z0 j k → TF k
 ls : ∀ j ∈ ls, ∀ k, Ec.z0 j k → LF k
 may : ∀ k, Ec.may k → TX k
 tx : ∀ k, TX k → E.may k ∨ E.B ≤ k
 alT : ∀ k, TF k → E.B ≤ k ∨ ∃ j ∈ alT, E.z0 j k
 alS : ∀ k, LF k → E.B ≤ k ∨ ∃ j ∈ alS, E.z0 j k
 lt : ∀ k, TF k ∨ LF k → k < w.heap.size
theorem lfRsT_sound {Ec : Env} {ρc : Nm} {Hc : List Ent} {Gc : List FE} {lo hi : Nat} {tl ls alT alS : List Nat} {TF TX LF : Nat → Prop} (hlo : E.lo = lo) (hhi : E.hi = hi) (hc : Hp Ec ρc Hc Gc w) (hp : Places E ρ H G Ec w tl ls alT alS TF TX LF) (hh : Hp E ρ H G w) :
    ∀ (L : List Lf) (cs : List SV) (ros : List RO) (used : List Nat) (n : Nat) (svs : List SV) (news : List FE), lfRsT alT alS L ros n = some (svs, news) → All2 (RL ρc Gc) cs L → okResT Gc tl ls cs (kindsL L) ros used = true → freshL lo hi H G news = true →
    ∃ ρ', Hp E ρ' H (news ++ G) w ∧ (∀ ρ'', Agr ρ' ρ'' H (news ++ G) → Agr ρ ρ'' H G ∧ SV.dens ρ'' svs = SV.dens ρc cs) ∧ (∀ g ∈ G, ρ'.z g.id = ρ.z g.id) ∧
      ∀ f ∈ news, (∀ k, ¬ f.foot ρ' k) ∨ ∃ j g, findE Gc j = some g ∧ j ∉ used ∧ ∀ k, (f.foot ρ' k → g.foot ρc k) ∧ (f.excl ρ' k → g.excl ρc k)
 | [], cs, ros, used, n, svs, news, h, ha, hk, hf => by
   unfold lfRsT at h
   cases h
   match cs, ha with
   | [], _ => exact ⟨ρ, hh, fun ρ'' hr => ⟨hr, rfl⟩, fun _ _ => rfl, fun f hf => by cases hf⟩
   | _ :: _, ha => exact ha.elim
 | l :: r, cs, ros, used, n, svs, news, h, ha, hk, hf => by
   unfold lfRsT at h
   match cs, ha with
   | [], ha => exact ha.elim
   | v' :: cs, ha =>
   obtain ⟨hl, hta⟩ := ha
   split at h
   ·rename_i v a ros' h1
    split at h
    ·rename_i vs b h2
     cases h
     rw [catE_eq] at hf ⊢
     obtain ⟨f1, f2⟩ := freshL_append hf
     rcases lfRT_kinds alT alS (l := l) with ⟨e, f, rfl⟩ | ⟨hisl, hsimple⟩
     ·match ros, h1, hk with
      | [], h1, _ => simp [lfRT] at h1
      | ro :: ros, h1, hk =>
      simp only [lfRT] at h1
      cases hpos : nBlt 0 e.size with
      | false => rw [hpos] at h1; cases h1
      | true =>
      rw [hpos] at h1
      rw [nBlt_iff] at hpos
      simp only [kindsL, isSl] at hk
      -- what all ways have in common
      obtain ⟨fe, hfe, hv1, hros, hfid, hfc, hkind⟩ : ∃ fe : FE, a = [fe] ∧ v = .fv n ∧ ros' = ros ∧ fe.id = n ∧ fe.c = .rows e f ∧ ((∃ t, ro = .own t ∧ fe.own = true ∧ fe.t = t ∧ fe.al = catN alT alS) ∨ (ro = .sh ∧ fe.own = false ∧ fe.al = alS)) := by
       cases ro with
       | own t => cases h1; exact ⟨_, rfl, rfl, rfl, rfl, rfl, .inl ⟨t, rfl, rfl, rfl, rfl⟩⟩
       | sh => cases h1; exact ⟨_, rfl, rfl, rfl, rfl, rfl, .inr ⟨rfl, rfl, rfl⟩⟩
      subst hfe hv1 hros
      have ffr : Fresh E n H (b ++ G) := by
       simp only [freshL, Bool.and_eq_true, nBlt_iff, hfid] at f2
       exact ⟨by rw [hlo]; exact nBle_le f2.1.1.1.1.1, by rw [hhi]; exact f2.1.1.1.1.2, freshE_mem f2.1.1.1.2, freshG_mem f2.1.1.2, freshG_nms f2.1.1.2⟩
      have sepc : ∀ j g j' g', findE Gc j = some g → findE Gc j' = some g' → j ≠ j' → ∀ k, (g.excl ρc k → ¬ g'.foot ρc k) := by
       intro j g j' g' h1 h2 hne k hx
       rcases hc.sep (findE_mem h2).1 g (findE_mem h1).1 k hx with h | h
       ·exact h
       ·exfalso
        apply hne
        rw [← (findE_mem h1).2, ← (findE_mem h2).2, h]
      have go : ∀ (used' : List Nat) (s : Sl), okResT Gc tl ls cs (kindsL r) ros' used' = true → (∀ j, j ∉ used' → j ∉ used) → v'.den ρc = s.val →
          (∀ ρ', Hp E ρ' H (b ++ G) w → Agr ρ ρ' H G → (∀ g ∈ G, ρ'.z g.id = ρ.z g.id) → (∀ f' ∈ b, (∀ k, ¬ f'.foot ρ' k) ∨ ∃ j g, findE Gc j = some g ∧ j ∉ used' ∧ ∀ k, (f'.foot ρ' k → g.foot ρc k) ∧ (f'.excl ρ' k → g.excl ρc k)) →
           ∃ Z, Hp E (ρ'.setS n s Z) H (fe :: (b ++ G)) w ∧ (∀ ρ'', Agr (ρ'.setS n s Z) ρ'' H (fe :: (b ++ G)) → Agr ρ' ρ'' H (b ++ G) ∧ ρ''.s n = s) ∧ ((∀ k, ¬ fe.foot (ρ'.setS n s Z) k) ∨ ∃ j g, findE Gc j = some g ∧ j ∉ used ∧ ∀ k, (fe.foot (ρ'.setS n s Z) k → g.foot ρc k) ∧ (fe.excl (ρ'.setS n s Z) k → g.excl ρc k))) →
          ∃ ρ', Hp E ρ' H ([fe] ++ b ++ G) w ∧ (∀ ρ'', Agr ρ' ρ'' H ([fe] ++ b ++ G) → Agr ρ ρ'' H G ∧ SV.dens ρ'' (.fv n :: vs) = SV.dens ρc (v' :: cs)) ∧ (∀ g ∈ G, ρ'.z g.id = ρ.z g.id) ∧
            ∀ f' ∈ [fe] ++ b, (∀ k, ¬ f'.foot ρ' k) ∨ ∃ j g, findE Gc j = some g ∧ j ∉ used ∧ ∀ k, (f'.foot ρ' k → g.foot ρc k) ∧ (f'.excl ρ' k → g.excl ρc k) := by
       intro used' s hk' hsub hv' hadd
       obtain ⟨ρ', q1, q2, q3, q4⟩ := lfRsT_sound hlo hhi hc hp hh r cs ros' used' (n + 1) vs b h2 hta hk' f1
       obtain ⟨Z, k1, k2, k3⟩ := hadd ρ' q1 (q2 ρ' (Agr.refl _ _ _)).1 q3 q4
       refine ⟨_, k1, fun ρ'' hr => ?_, fun g hg => ?_, fun f' hf' => ?_⟩
       ·obtain ⟨p1, p2⟩ := k2 ρ'' hr
        obtain ⟨p3, p4⟩ := q2 ρ'' p1
        exact ⟨p3, by simp only [SV.dens, SV.den, p4, hv', p2]⟩
       ·have hne : g.id ≠ n := ffr.G g (List.mem_append_right _ hg)
        rw [← q3 g hg]
        simp [Nm.setS, hne]
       ·rcases List.mem_append.1 hf' with hf' | hf'
        ·rw [List.mem_singleton] at hf'
         subst hf'
         exact k3
        ·have hne : f'.id ≠ n := ffr.G f' (List.mem_append_left _ hf')
         have e1 : f'.foot (ρ'.setS n s Z) = f'.foot ρ' := FE.foot_names rfl (by simp [Nm.setS, hne]) (by simp [Nm.setS, hne])
         have e2 : f'.excl (ρ'.setS n s Z) = f'.excl ρ' := FE.excl_names rfl (by simp [Nm.setS, hne])
         rcases q4 f' hf' with h0 | ⟨j, g, h1, h2, h3⟩
         ·exact .inl fun k => by rw [e1]; exact h0 k
         ·exact .inr ⟨j, g, h1, hsub j h2, fun k => by rw [e1, e2]; exact h3 k⟩
      rcases hl with ⟨rfl, hnil⟩ | ⟨j, g, x, rfl, hg, hgc, hx⟩
      ·-- nil
       simp only [okResT] at hk
       refine go used ⟨none, 0, 0⟩ hk (fun j h => h) (by simp only [SV.den, Sl.val]) fun ρ' q1 q2 q3 q4 => ⟨fun _ => False, ?_⟩
       have foot0 : ∀ k, ¬ fe.foot (ρ'.setS n ⟨none, 0, 0⟩ (fun _ => False)) k := by
        intro k hk1
        unfold FE.foot FE.top at hk1
        rw [hfc, hfid] at hk1
        simp only [Nm.setS, if_true] at hk1
        rcases hk1 with hk1 | ⟨_, y, hy, _⟩
        ·exact hk1
        ·cases hy
       have hho : fe.holds (ρ'.setS n ⟨none, 0, 0⟩ (fun _ => False)) w := by
        unfold FE.holds
        rw [hfc]
        simp only [hfid, Nm.setS, if_true, hnil]
        refine ⟨fun k hk => hk.elim, ?_⟩
        rcases hkind with ⟨t, _, ho, ht, _⟩ | ⟨_, ho, _⟩
        ·rw [ho]
         exact ⟨⟨rfl, by simp, by simp, by simp⟩, ⟨[], World.ownsRow_nil w 0 fe.t e.size, fun i hi => by simp at hi⟩, fun x hx => by simp at hx⟩
        ·rw [ho]
         exact ⟨⟨rfl, by simp, by simp, by simp⟩, [], by simp, .inl rfl, fun i hi => by simp at hi⟩
       have := q1.add fe (by rw [hfid]; exact ffr) ⟨none, 0, 0⟩ (fun _ => False) (fun T => by rw [hfc]; simp) (by rw [hfid]; exact hho) (fun e' x' he => by rw [hfc] at he; cases he; exact hpos)
        (fun e' he hk1 => foot0 _ (by rw [hfid] at hk1; exact hk1)) (fun g hg k => by rw [hfid]; exact ⟨fun hx => absurd (FE.excl_foot hx) (foot0 k), fun _ => foot0 k⟩) (fun k hx => by rw [hfid] at hx; exact absurd (FE.excl_foot hx) (foot0 k)) (fun k hk1 => by rw [hfid] at hk1; exact absurd hk1 (foot0 k))
       rw [hfid] at this
       exact ⟨this.1, this.2, .inl foot0⟩
      ·simp only [okResT, hg, Bool.and_eq_true, Bool.not_eq_true'] at hk
       obtain ⟨⟨hro, hju⟩, hk⟩ := hk
       have hju : j ∉ used := fun h0 => by rw [memN_mem.2 h0] at hju; cases hju
       have hgid := (findE_mem hg).2
       have hgm := (findE_mem hg).1
       refine go (j :: used) (ρc.s j) hk (fun i hi h0 => hi (List.mem_cons_of_mem _ h0)) (by simp only [SV.den]) fun ρ' q1 q2 q3 q4 => ?_
       have gfoot : ∀ g' ∈ G, g'.foot ρ' = g'.foot ρ := fun g' hg' => FE.foot_names (q2.2 g' hg').1 (q2.2 g' hg').2 (q3 g' hg')
       have gexcl : ∀ g' ∈ G, g'.excl ρ' = g'.excl ρ := fun g' hg' => FE.excl_names (q2.2 g' hg').1 (q2.2 g' hg').2
       rcases hkind with ⟨t, rfl, ho, ht, hal⟩ | ⟨rfl, ho, hal⟩
       ·-- its own
        simp only [Bool.and_eq_true] at hro
        obtain ⟨⟨o1, o2⟩, o3⟩ := hro
        have o3 := nBeq_eq o3
        have o2 := subN_mem o2
        have as9 : AsF (ρ'.setS n (ρc.s j) (ρc.z j)) fe ρc g := ⟨by rw [ho, o1], by rw [ht, o3], by rw [hfid, hgid]; simp [Nm.setS], by rw [hfid, hgid]; simp [Nm.setS], fun ⟨T, hT⟩ => (by rw [hgc] at hT; cases hT), .inr (.inl ⟨e, f, x, hfc, hgc, hx.symm⟩), fun k => by rw [hgc]; rfl⟩
        have gf : ∀ k, g.foot ρc k → Ec.B ≤ k ∨ (TF k ∨ LF k) := fun k hk => (hc.al g hgm k hk).imp (fun h => h) fun ⟨q, hq, h⟩ => by
         have := o2 q hq
         rw [catN_eq] at this
         exact (List.mem_append.1 this).imp (fun hq => hp.tl q hq k h) fun hq => hp.ls q hq k h
        have gx : ∀ k, g.excl ρc k → Ec.B ≤ k ∨ TX k := fun k hk => (hc.exB g hgm k hk).elim (fun h => .inr (hp.may k h)) .inl
        have hadd := q1.add fe (by rw [hfid]; exact ffr) (ρc.s j) (ρc.z j) (fun T => by rw [hfc]; simp) (by rw [hfid]; exact as9.holds (hc.facts g hgm)) (fun e' x' he => by rw [hfc] at he; cases he; exact hpos)
         (fun e' he hk1 => by
          rw [hfid, as9.foot] at hk1
          rw [q2.1 e' he] at hk1
          have := hp.Hb e' he
          rcases gf _ hk1 with h | h
          ·omega
          ·exact h.elim this.2.1 this.2.2)
         (fun g' hg' k => by
          rw [hfid, as9.foot, as9.excl]
          rcases List.mem_append.1 hg' with hg' | hg'
          ·rcases q4 g' hg' with h0 | ⟨j', g2, hj1, hj2, hh'⟩
           ·exact ⟨fun _ hk1 => h0 k hk1, fun hx _ => h0 k (FE.excl_foot hx)⟩
           ·have hne : j ≠ j' := fun e0 => hj2 (e0 ▸ List.mem_cons_self)
            exact ⟨fun hx hk1 => sepc j g j' g2 hg hj1 hne k hx ((hh' k).1 hk1), fun hx hk1 => sepc j' g2 j g hj1 hg (Ne.symm hne) k ((hh' k).2 hx) hk1⟩
          ·rw [gfoot g' hg', gexcl g' hg']
           refine ⟨fun hx hk1 => ?_, fun hx hk1 => ?_⟩
           ·rcases gx k hx with h | h
            ·have := hp.Gb g' hg' k hk1; omega
            ·exact (hp.Gt g' hg' k).1 h hk1
           ·rcases gf k hk1 with h | h
            ·have := hp.Gb g' hg' k (FE.excl_foot hx); omega
            ·exact h.elim ((hp.Gt g' hg' k).2.1 hx) ((hp.Gt g' hg' k).2.2 hx))
         (fun k hx => by
          rw [hfid, as9.excl] at hx
          rcases gx k hx with h | h
          ·exact .inr (by have := hp.B; omega)
          ·exact hp.tx k h)
         (fun k hk1 => by
          rw [hfid, as9.foot] at hk1
          rw [hal]
          rcases gf k hk1 with h | h
          ·exact .inl (by have := hp.B; omega)
          ·rcases h with h | h
           ·exact (hp.alT k h).imp (fun h => h) fun ⟨j, hj, h⟩ => ⟨j, by rw [catN_eq]; exact List.mem_append_left _ hj, h⟩
           ·exact (hp.alS k h).imp (fun h => h) fun ⟨j, hj, h⟩ => ⟨j, by rw [catN_eq]; exact List.mem_append_right _ hj, h⟩)
        rw [hfid] at hadd
        exact ⟨ρc.z j, hadd.1, hadd.2, .inr ⟨j, g, hg, hju, fun k => ⟨(as9.foot k).1, (as9.excl k).1⟩⟩⟩
       ·-- read only
        have o2 := subN_mem hro
        have gf : ∀ k, g.foot ρc k → Ec.B ≤ k ∨ LF k := fun k hk => (hc.al g hgm k hk).imp (fun h => h) fun ⟨q, hq, h⟩ => hp.ls q (o2 q hq) k h
        have hrd := FE.reads (hc.facts g hgm) hgc
        rw [hgid, hx] at hrd
        have hz : Zok E ρ' H (b ++ G) w fe.al (g.foot ρc) := by
         refine ⟨fun k hk => hc.foot_lt hgm hk, fun e' he hk => ?_, fun g' hg' k hx' hk => ?_, fun k hk => ?_⟩
         ·rw [q2.1 e' he] at hk
          have := hp.Hb e' he
          rcases gf _ hk with h | h
          ·omega
          ·exact this.2.2 h
         ·rcases List.mem_append.1 hg' with hg' | hg'
          ·rcases q4 g' hg' with h0 | ⟨j', g2, hj1, hj2, hh'⟩
           ·exact h0 k (FE.excl_foot hx')
           ·exact sepc j' g2 j g hj1 hg (fun e0 => hj2 (e0 ▸ List.mem_cons_self)) k ((hh' k).2 hx') hk
          ·rw [gexcl g' hg'] at hx'
           rcases gf k hk with h | h
           ·have := hp.Gb g' hg' k (FE.excl_foot hx'); omega
           ·exact (hp.Gt g' hg' k).2.2 hx' h
         ·rw [hal]
          rcases gf k hk with h | h
          ·exact .inl (by have := hp.B; omega)
          ·exact hp.alS k h
        have hsh := q1.share (f := fe) (by rw [hfid]; exact ffr) ho hfc hpos hz hrd
        rw [hfid] at hsh
        refine ⟨g.foot ρc, hsh.1, hsh.2.1, .inr ⟨j, g, hg, hju, fun k => ⟨hsh.2.2 k, fun hx' => ?_⟩⟩⟩
        unfold FE.excl at hx'
        rw [hfc, ho] at hx'
        cases hx'.1
     ·-- a number or so
      obtain ⟨v0, h3, h4⟩ := hsimple ros n
      rw [h3] at h1
      cases h1
      simp only [kindsL, hisl, okResT] at hk
      obtain ⟨ρ', q1, q2, q3, q4⟩ := lfRsT_sound hlo hhi hc hp hh r cs ros used (n + 1) vs b h2 hta hk f1
      refine ⟨ρ', q1, fun ρ'' hr => ?_, q3, q4⟩
      obtain ⟨p1, p2⟩ := q2 ρ'' hr
      exact ⟨p1, by simp only [SV.dens, p2, h4 ρc Gc v' hl ρ'']⟩
    ·cases h
   ·cases h
end ret
def tkNo : List (Option TypeId) → Nat → List Nat
 | [], _ => []
 | some _ :: tk, i => i :: tkNo tk (i + 1)
 | none :: tk, i => tkNo tk (i + 1)
def idsAt (ls : List Nat) : List (List Nat × List Nat) → Nat → List Nat
 | [], _ => []
 | p :: l, i => match memN i ls with
   | true => catN p.1 (idsAt ls l (i + 1))
   | false => idsAt ls l (i + 1)
def bsAt (ls : List Nat) : List (List Nat × List Nat) → Nat → Bool
 | [], _ => true
 | p :: l, i => (match memN i ls with
   | true => isNilN p.2
   | false => true) && bsAt ls l (i + 1)
def killE : List FE → List Nat → List FE
 | G, [] => G
 | G, i :: l => match findE G i with
   | some f => killE (replE G (deadE f)) l
   | none => killE G l
def fnSpecI (as9 : List Shp) (tk : List (Option TypeId)) (rs : List Shp) (ros : List RO) (ls : List Nat) (pre : Shp.Ds as9 → Prop) (post : Shp.Ds as9 → Shp.Ds rs → Prop) (lo hi id : Nat) (args : List SV) (s : St) (K : SV → St → Prop) : Prop :=
 match decArgs s.heap s.ents as9 args with
 | some d => match argIds s.heap s.ents as9 args with
   | some per => (tkOk s.ents tk per && bsAt ls per 0 && allSh s.ents (idsAt ls per 0)) = true ∧
     obsK d.ob (Ob (fun u => pre (d.x u)) (AllT (fun y => post (d.x ()) y ∧ Shp.lims rs y) fun y => match lfRsT (alsOf s.ents (tkIds tk per)) (alsOf s.ents (idsAt ls per 0)) (leavess rs fun _ => y) ros id with
     | some (vs, news) => match packR rs vs with
       | some us => freshL lo hi s.heap (killE s.ents (tkIds tk per)) news = true ∧ K (tupR us) ⟨s.fr, s.n, s.heap, catE news (killE s.ents (tkIds tk per)), s.next⟩
       | none => False
     | none => False))
   | none => False
 | none => False
def fnSpecT (as9 : List Shp) (tk : List (Option TypeId)) (rs : List Shp) (ros : List RO) (ls : List Nat) (pre : Shp.Ds as9 → Prop) (post : Shp.Ds as9 → Shp.Ds rs → Prop) : Spec := fun lo hi id args s K =>
 match argIds s.heap s.ents as9 args with
 | some p => fnSpecI as9 tk rs ros ls pre post lo hi id args (s.withE (frzIds s.ents (idsAt ls p 0))) K
 | none => False
def vcWT (C : Cx) (fn : Func) (as9 : List Shp) (tk : List (Option TypeId)) (rs : List Shp) (ros : List RO) (ls : List Nat) (x : Shp.Ds as9) (post : Shp.Ds rs → Prop) : Prop :=
 match svArgsT as9 tk (fun _ => x) 0 with
 | some (svs, ents) => freshL C.lo C.hi [] [] ents = true ∧ vcFL C fn svs [] ents 1000 (retPostT rs ros (tkNo tk 0) ls post)
 | none => False
section kill
variable {E : Env} {ρ : Nm} {w : World} {H : List Ent} {G : List FE}
theorem frz_mem {g : FE} {k : Nat} : ∀ (ids : List Nat) (G : List FE), g ∈ frzIds G ids → g.excl ρ k → g ∈ G
 | [], G, hg, _ => hg
 | i :: l, G, hg, hx => by
   unfold frzIds at hg
   split at hg
   ·rename_i f hf
    split at hg
    ·rename_i e x hc
     rcases mem_replE (frz_mem l _ hg hx) with rfl | h
     ·unfold FE.excl V.freeze at hx
      simp only [hc] at hx
      cases hx.1
     ·exact h
    ·exact frz_mem l G hg hx
   ·exact frz_mem l G hg hx
theorem kill_mem {g : FE} : ∀ (ids : List Nat) (G : List FE), g ∈ killE G ids → g.c = .dead ∨ g ∈ G
 | [], G, hg => .inr hg
 | i :: l, G, hg => by
   unfold killE at hg
   split at hg
   ·rename_i f hf
    rcases kill_mem l _ hg with h | h
    ·exact .inl h
    ·rcases mem_replE h with rfl | h
     ·exact .inl rfl
     ·exact .inr h
   ·exact kill_mem l G hg
theorem kill_sound : ∀ (ids : List Nat) (G : List FE), Hp E ρ H G w → Hp E ρ H (killE G ids) w ∧ ∀ ρ'', Agr ρ ρ'' H (killE G ids) → Agr ρ ρ'' H G
 | [], G, hh => ⟨hh, fun _ h => h⟩
 | i :: l, G, hh => by
   unfold killE
   split
   ·rename_i f hf
    obtain ⟨k1, k2⟩ := repl_dead hh hf
    obtain ⟨k3, k4⟩ := kill_sound l _ k1
    exact ⟨k3, fun ρ'' hr => k2 ρ'' (k4 ρ'' hr)⟩
   ·exact kill_sound l G hh
theorem kill_find : ∀ (ids : List Nat) (G : List FE) (id : Nat) (f0 : FE), findE G id = some f0 → ∃ f', findE (killE G ids) id = some f' ∧ (f'.c = .dead ∨ (f' = f0 ∧ id ∉ ids))
 | [], G, id, f0, h => ⟨f0, h, .inr ⟨rfl, by simp⟩⟩
 | i :: l, G, id, f0, h => by
   unfold killE
   split
   ·rename_i f hf
    have hid := (findE_mem hf).2
    by_cases hi : i = id
    ·subst hi
     rw [h] at hf
     cases hf
     have h2 : findE (replE G (deadE f0)) i = some (deadE f0) := by
      have := find_repl (f := deadE f0) (f0 := f0) (l := G) (by rw [show (deadE f0).id = f0.id from rfl, hid]; exact h)
      rw [show (deadE f0).id = f0.id from rfl, hid] at this
      exact this
     obtain ⟨f', h3, h4⟩ := kill_find l _ i _ h2
     refine ⟨f', h3, .inl ?_⟩
     rcases h4 with h4 | h4
     ·exact h4
     ·rw [h4.1]; rfl
    ·have h2 : findE (replE G (deadE f)) id = some f0 := by
       rw [find_repl_ne (by rw [show (deadE f).id = f.id from rfl, hid]; exact hi)]; exact h
     obtain ⟨f', h3, h4⟩ := kill_find l _ id f0 h2
     refine ⟨f', h3, h4.imp (fun h => h) fun h => ⟨h.1, ?_⟩⟩
     simp only [List.mem_cons, not_or]
     exact ⟨Ne.symm hi, h.2⟩
   ·rename_i hf
    obtain ⟨f', h3, h4⟩ := kill_find l G id f0 h
    refine ⟨f', h3, h4.imp (fun h => h) fun h' => ⟨h'.1, ?_⟩⟩
    simp only [List.mem_cons, not_or]
    refine ⟨fun e0 => ?_, h'.2⟩
    subst e0
    rw [h] at hf; cases hf
theorem kill_may {k : Nat} : ∀ (ids : List Nat) (G : List FE), Hp E ρ H G w → mayOf ρ G ids k → ∀ g ∈ killE G ids, ¬ g.foot ρ k
 | [], G, hh, ⟨i, hi, _⟩, _, _ => by cases hi
 | i :: l, G, hh, ⟨j, hj, f, hf, hx⟩, g, hg => by
   have gone : ∀ (l : List Nat) (f : FE) (i : Nat), findE G i = some f → f.excl ρ k → g ∈ killE (replE G (deadE f)) l → ¬ g.foot ρ k := by
    intro l f i hf hx hg hk
    rcases kill_mem l _ hg with h | h
    ·exact dead_foot h ρ k hk
    ·rcases mem_replE_ne hx hh.alone (by rw [show (deadE f).id = f.id from rfl, (findE_mem hf).2]; exact hf) h with rfl | ⟨h1, h2⟩
     ·exact dead_foot rfl ρ k hk
     ·rcases hh.sep h1 f (findE_mem hf).1 k hx with h | h
      ·exact h hk
      ·exact h2 h.symm
   unfold killE at hg
   by_cases hi : i = j
   ·subst hi
    rw [hf] at hg
    exact gone l f i hf hx hg
   ·have hjl : j ∈ l := (List.mem_cons.1 hj).resolve_left (Ne.symm hi)
    split at hg
    ·rename_i f' hf'
     exact kill_may l _ (repl_dead hh hf').1 ⟨j, hjl, f, by rw [find_repl_ne (by rw [show (deadE f').id = f'.id from rfl, (findE_mem hf').2]; exact hi)]; exact hf, hx⟩ g hg
    ·exact kill_may l G hh ⟨j, hjl, f, hf, hx⟩ g hg
theorem tk_at : ∀ {tk : List (Option TypeId)} {per : List (List Nat × List Nat)} {i j : Nat} {p : List Nat × List Nat}, j ∈ tkNo tk i → per[j - i]? = some p → tkOk G tk per = true → i ≤ j ∧ p.2 = [] ∧ ∀ id ∈ p.1, id ∈ tkIds tk per
 | [], _, i, j, p, hj, _, _ => by simp [tkNo] at hj
 | k :: tk, [], i, j, p, _, hp, _ => by simp at hp
 | none :: tk, q :: per, i, j, p, hj, hp, ht => by
   simp only [tkNo] at hj
   simp only [tkOk, Bool.and_eq_true] at ht
   have hle : i + 1 ≤ j := by
    have le : ∀ (tk : List (Option TypeId)) (i : Nat), j ∈ tkNo tk i → i ≤ j := by
     intro tk
     induction tk with
     | nil => intro i h; simp [tkNo] at h
     | cons k tk ih =>
       intro i h
       cases k with
       | none => simp only [tkNo] at h; have := ih _ h; omega
       | some t =>
         simp only [tkNo, List.mem_cons] at h
         rcases h with h | h
         ·omega
         ·have := ih _ h; omega
    exact le tk _ hj
   have hp' : per[j - (i + 1)]? = some p := by
    rw [show j - i = (j - (i + 1)) + 1 by omega, List.getElem?_cons_succ] at hp
    exact hp
   obtain ⟨_, h2, h3⟩ := tk_at hj hp' ht.2
   exact ⟨by omega, h2, fun id hid => by simp only [tkIds]; exact h3 id hid⟩
 | some t :: tk, q :: per, i, j, p, hj, hp, ht => by
   simp only [tkNo, List.mem_cons] at hj
   simp only [tkOk, Bool.and_eq_true] at ht
   by_cases hji : j = i
   ·subst hji
    simp only [Nat.sub_self, List.getElem?_cons_zero, Option.some.injEq] at hp
    subst hp
    refine ⟨Nat.le_refl _, ?_, fun id hid => by simp only [tkIds, catN_eq]; exact List.mem_append_left _ hid⟩
    have h1 := ht.1
    have nil : ∀ {l : List Nat}, isNilN l = true → l = [] := by
     intro l h
     cases l with
     | nil => rfl
     | cons _ _ => cases h
    split at h1
    ·exact nil h1
    ·simp only [Bool.and_eq_true] at h1; exact nil h1.2
    ·cases h1
   ·have hj := hj.resolve_left hji
    have le : ∀ (tk : List (Option TypeId)) (i : Nat), j ∈ tkNo tk i → i ≤ j := by
     intro tk
     induction tk with
     | nil => intro i h; simp [tkNo] at h
     | cons k tk ih =>
       intro i h
       cases k with
       | none => simp only [tkNo] at h; have := ih _ h; omega
       | some t =>
         simp only [tkNo, List.mem_cons] at h
         rcases h with h | h
         ·omega
         ·have := ih _ h; omega
    have hle := le tk _ hj
    have hp' : per[j - (i + 1)]? = some p := by
     rw [show j - i = (j - (i + 1)) + 1 by omega, List.getElem?_cons_succ] at hp
     exact hp
    obtain ⟨_, h2, h3⟩ := tk_at hj hp' ht.2
    exact ⟨by omega, h2, fun id hid => by simp only [tkIds, catN_eq]; exact List.mem_append_right _ (h3 id hid)⟩
theorem ls_at {ls : List Nat} : ∀ {per : List (List Nat × List Nat)} {i j : Nat} {p : List Nat × List Nat}, i + j ∈ ls → per[j]? = some p → bsAt ls per i = true → p.2 = [] ∧ ∀ id ∈ p.1, id ∈ idsAt ls per i
 | [], i, j, p, _, hp, _ => by simp at hp
 | q :: per, i, 0, p, hj, hp, hb => by
   simp only [List.getElem?_cons_zero, Option.some.injEq] at hp
   subst hp
   simp only [bsAt, memN_mem.2 hj, Nat.add_zero, Bool.and_eq_true] at hb
   refine ⟨?_, fun id hid => ?_⟩
   ·have h1 := hb.1
    rw [show memN i ls = true from memN_mem.2 hj] at h1
    cases hq : q.2 with
    | nil => rfl
    | cons _ _ => simp only [hq] at h1; cases h1
   ·simp only [idsAt, show memN i ls = true from memN_mem.2 hj, catN_eq]
    exact List.mem_append_left _ hid
 | q :: per, i, j + 1, p, hj, hp, hb => by
   simp only [bsAt, Bool.and_eq_true] at hb
   obtain ⟨h1, h2⟩ := ls_at (i := i + 1) (j := j) (by rw [show i + 1 + j = i + (j + 1) by omega]; exact hj) (by simpa using hp) hb.2
   refine ⟨h1, fun id hid => ?_⟩
   simp only [idsAt]
   split
   ·rw [catN_eq]; exact List.mem_append_right _ (h2 id hid)
   ·exact h2 id hid
end kill
section spec
variable {E : Env} {ρ : Nm} {w : World} {H : List Ent} {G : List FE}
theorem spec_of_vcTG {P : Program} {C : Cx} {f : FuncId} (hn : hasFn P f) {as9 : List Shp} {tk : List (Option TypeId)} {rs : List Shp} {ros : List RO} {ls : List Nat} {pre : Shp.Ds as9 → Prop} {post : Shp.Ds as9 → Shp.Ds rs → Prop}
    (hW : ∀ (E : Env) (x : Shp.Ds as9), E.ok → E.lo = C.lo → E.hi = C.hi → E.df = [] → Shp.lims as9 x → pre x → ∃ svs ents, svArgsT as9 tk (fun _ => x) 0 = some (svs, ents) ∧ freshL C.lo C.hi [] [] ents = true ∧ ∀ (ρc : Nm) (w : World) (xs : Array Value), Hp E ρc [] ents w → (∀ ρ', Agr ρc ρ' [] ents → (SV.dens ρ' svs).toArray = xs) →
     Calls P f xs w fun e w' => ∃ (v : SV) (s : St) (ρ : Nm) (a : Act), e = .returned (v.den ρ) ∧ Fit E ρ s a w' ∧ (∀ ρ', Agr ρ ρ' s.heap s.ents → v.den ρ' = v.den ρ) ∧ retPostT rs ros (tkNo tk 0) ls (post x) v s)
    {E : Env} (hE : E.ok) : SpecOk P E f (fnSpecT as9 tk rs ros ls pre post) := by
 refine ⟨hn, ?_⟩
 intro lo hi id args s K hlo hhi hs ρ w hhG hargs
 unfold fnSpecT at hs
 split at hs
 rotate_left
 ·exact hs.elim
 rename_i p0 hp0
 obtain ⟨hh, hagr0⟩ := frz_sound (idsAt ls p0 0) s.ents hhG
 have hfrm : ∀ g k, g ∈ frzIds s.ents (idsAt ls p0 0) → g.excl ρ k → g ∈ s.ents := fun g k hg hx => frz_mem _ _ hg hx
 have hfrf := fun i f hf => find_frz (idsAt ls p0 0) s.ents i f hf
 unfold fnSpecI at hs
 simp only [St.withE] at hs
 revert hs hh hagr0 hfrm hfrf
 generalize frzIds s.ents (idsAt ls p0 0) = G0
 intro hs hh hagr0 hfrm hfrf
 split at hs
 rotate_left
 ·exact hs.elim
 rename_i d hd
 split at hs
 rotate_left
 ·exact hs.elim
 rename_i per hper
 obtain ⟨hchk, hs⟩ := hs
 simp only [Bool.and_eq_true] at hchk
 obtain ⟨⟨htk, hbsA⟩, hsh⟩ := hchk
 obtain ⟨hob, hs⟩ := obsK_spec hs
 have hpre := hs.ob ()
 have hall := hs.k.all
 have hE1 := callEnvT_ok w (mayOf ρ G0 (tkIds tk per)) (fun j k => ∃ p, per[j]? = some p ∧ DFoot ρ G0 p.1 p.2 k) C.lo C.hi ρ
 obtain ⟨svs, ents, hsv, hfr, hv⟩ := hW _ _ hE1 rfl rfl rfl (decArgs_lims hh as9 args d hd hob) hpre
 -- the callee
 obtain ⟨⟨ρc, c1, c2, c3⟩, hbsall⟩ := svArgsT_sound hh (mayOf ρ G0 (tkIds tk per)) (fun j k => ∃ p, per[j]? = some p ∧ DFoot ρ G0 p.1 p.2 k) C.lo C.hi as9 tk args d 0 per svs ents hd hob hper htk hsv hfr
  (fun j p hj k hk => by rw [Nat.zero_add]; exact ⟨p, hj, hk⟩) (fun k hk => hk)
 refine (hv ρc w (SV.dens ρ args).toArray c1 fun ρ' hr => by rw [c2 ρ' hr]).mono ?_
 rintro e w1 ⟨v, s1, ρ1, a1, rfl, hf1, hinv, hpost⟩
 unfold retPostT at hpost
 split at hpost
 rotate_left
 ·exact hpost.elim
 rename_i l hl
 split at hpost
 rotate_left
 ·exact hpost.elim
 rename_i d1 cs hd1 hcs
 obtain ⟨hok, hpost⟩ := hpost
 simp only [Bool.and_eq_true] at hok
 obtain ⟨hok, hbs⟩ := hok
 obtain ⟨hob1, hfin⟩ := obsK_spec hpost
 have hbs : d1.bs = [] := by
  cases hb : d1.bs with
  | nil => rfl
  | cons _ _ => rw [hb] at hbs; cases hbs
 have hs2 := hall _ ⟨hfin.ok, decArgs_lims hf1.hp rs l d1 hd1 hob1⟩
 split at hs2
 rotate_left
 ·exact hs2.elim
 rename_i vs news hlf
 split at hs2
 rotate_left
 ·exact hs2.elim
 rename_i us hus
 obtain ⟨hfr2, hk⟩ := hs2
 -- the caller's memory
 have hbel : BelowX w.heap.size (mayOf ρ G0 (tkIds tk per)) w w1 := hf1.hp.keep
 obtain ⟨hhk, hagrk⟩ := kill_sound (tkIds tk per) G0 hh
 have hmayfoot : ∀ k, mayOf ρ G0 (tkIds tk per) k → ∃ f ∈ G0, f.excl ρ k := fun k ⟨i, _, f, hf, hx⟩ => ⟨f, (findE_mem hf).1, hx⟩
 have hgone := fun k hk => kill_may (k := k) (tkIds tk per) G0 hh hk
 have hh1 : Hp E ρ s.heap (killE G0 (tkIds tk per)) w1 := by
  refine hhk.change (hE.keepX w w1 hhk.keep ⟨hbel.os, hbel.tape, hbel.output, hbel.size, fun k hk hm => hbel.block k (by have := hhk.size; omega) fun hm' => ?_⟩) hbel.size (fun e he => hbel.block _ (hh.lt he) fun hm' => ?_) fun g hg k hk => hbel.block k (hhk.foot_lt hg hk) fun hm' => hgone k hm' g hg hk
  ·obtain ⟨f, hf, hx⟩ := hmayfoot k hm'
   rcases hh.exB f hf k hx with h | h
   ·exact hm h
   ·omega
  ·obtain ⟨f, hf, hx⟩ := hmayfoot _ hm'
   exact hh.apart e he f hf (FE.excl_foot hx)
 have tfoot : ∀ k, (∃ j ∈ tkNo tk 0, ∃ p, per[j]? = some p ∧ DFoot ρ G0 p.1 p.2 k) → ∃ i ∈ tkIds tk per, ∃ f, findE G0 i = some f ∧ f.foot ρ k := by
  rintro k ⟨j, hj, p, hp, hk⟩
  obtain ⟨_, h2, h3⟩ := tk_at hj (by simpa using hp) htk
  rcases hk with ⟨i, hi, f, hf, hk⟩ | ⟨b, hb, _⟩
  ·exact ⟨i, h3 i hi, f, hf, hk⟩
  ·rw [h2] at hb; cases hb
 have lfoot : ∀ k, (∃ j ∈ ls, ∃ p, per[j]? = some p ∧ DFoot ρ G0 p.1 p.2 k) → DFoot ρ G0 (idsAt ls per 0) [] k := by
  rintro k ⟨j, hj, p, hp, hk⟩
  obtain ⟨h2, h3⟩ := ls_at (i := 0) (j := j) (by rw [Nat.zero_add]; exact hj) hp hbsA
  rcases hk with ⟨i, hi, f, hf, hk⟩ | ⟨b, hb, _⟩
  ·exact .inl ⟨i, h3 i hi, f, hf, hk⟩
  ·rw [h2] at hb; cases hb
 have hz := zok_ids hh hsh
 have kmem : ∀ {g k}, g ∈ killE G0 (tkIds tk per) → g.foot ρ k → g ∈ G0 := fun hg hk => (kill_mem _ _ hg).resolve_left fun h => dead_foot h ρ _ hk
 have places : Places E ρ s.heap (killE G0 (tkIds tk per)) (callEnvT w (mayOf ρ G0 (tkIds tk per)) (fun j k => ∃ p, per[j]? = some p ∧ DFoot ρ G0 p.1 p.2 k) C.lo C.hi ρ) w1 (tkNo tk 0) ls (alsOf G0 (tkIds tk per)) (alsOf G0 (idsAt ls per 0))
     (fun k => ∃ j ∈ tkNo tk 0, ∃ p, per[j]? = some p ∧ DFoot ρ G0 p.1 p.2 k) (mayOf ρ G0 (tkIds tk per)) (fun k => ∃ j ∈ ls, ∃ p, per[j]? = some p ∧ DFoot ρ G0 p.1 p.2 k) := by
  refine ⟨hh.size, fun e he => ⟨hh.lt he, fun ht => ?_, fun ht => hz.H e he (lfoot _ ht)⟩, fun g hg k hk => hhk.foot_lt hg hk, fun g hg k => ⟨fun hm hk => hgone k hm g hg hk, fun hx ht => ?_, fun hx ht => hz.G g (kmem hg (FE.excl_foot hx)) k hx (lfoot k ht)⟩,
   fun j hj k hk => ⟨j, hj, hk⟩, fun j hj k hk => ⟨j, hj, hk⟩, fun k hk => hk, fun k hk => ?_, fun k hk => ?_, fun k hk => hz.al k (lfoot k hk), fun k hk => ?_⟩
  ·obtain ⟨i, _, f, hf, hk⟩ := tfoot _ ht
   exact hh.apart e he f (findE_mem hf).1 hk
  ·obtain ⟨i, hi, f, hf, hk⟩ := tfoot k ht
   have hg0 := kmem hg (FE.excl_foot hx)
   rcases hh.sep (findE_mem hf).1 g hg0 k hx with h | h
   ·exact h hk
   ·subst h
    exact hgone k ⟨i, hi, _, hf, hx⟩ _ hg (FE.excl_foot hx)
  ·obtain ⟨f, hf, hx⟩ := hmayfoot k hk
   exact hh.exB f hf k hx
  ·obtain ⟨i, hi, f, hf, hk⟩ := tfoot k hk
   rcases hh.al f (findE_mem hf).1 k hk with h | ⟨j, hj, h⟩
   ·exact .inl h
   ·exact .inr ⟨j, mem_alsOf hi hf hj, h⟩
  ·have := hbel.size
   rcases hk with hk | hk
   ·obtain ⟨i, hi, f, hf, hk⟩ := tfoot k hk
    have := hh.foot_lt (findE_mem hf).1 hk
    omega
   ·have := hz.lt k (lfoot k hk)
    omega
 have hlv := decArgs_leaves hf1.hp rs l cs d1 hd1 hcs hob1 hbs
 rw [← kindss_leaves rs (fun _ => d1.x ())] at hok
 obtain ⟨ρ', r1, r2, r3, r4⟩ := lfRsT_sound hlo hhi hf1.hp places hh1 _ cs ros [] id vs news hlf hlv hok hfr2
 have val : ∀ ρ'', Agr ρ' ρ'' s.heap (news ++ killE G0 (tkIds tk per)) → (tupR us).den ρ'' = v.den ρ1 := fun ρ'' hr => tupR_den hl (decArgs_length rs l d1 hd1) (packR_den hf1.hp rs l cs vs us d1 hd1 hob1 hcs (r2 ρ'' hr).2 hus)
 have r0 := (r2 ρ' (Agr.refl _ _ _)).1
 refine ⟨tupR us, _, ρ', by rw [val ρ' (Agr.refl _ _ _)], hk, by simp only [catE_eq]; exact r1, fun ρ'' hr => ?_, ?_⟩
 ·simp only [catE_eq] at hr
  exact ⟨hagr0 _ (hagrk _ (r2 ρ'' hr).1), by rw [val ρ'' hr, val ρ' (Agr.refl _ _ _)]⟩
 ·have rG := hagr0 _ (hagrk _ r0)
  refine ⟨fun e he _ => ⟨he, r0.1 e he, hhG.cells_agree rG he⟩, fun id' f _ hf hal => ?_⟩
  simp only [catE_eq] at hal ⊢
  obtain ⟨f0, hf0, hf01⟩ := hfrf id' f hf
  obtain ⟨f1, hf1', hf12⟩ := kill_find (tkIds tk per) G0 id' f0 hf0
  have hfid : f1.id = id' := (findE_mem hf1').2
  have hfind : findE (news ++ killE G0 (tkIds tk per)) id' = some f1 := by
   rw [find_append_ne fun g hg e0 => freshL_ne hfr2 g hg f1 (findE_mem hf1').1 (by rw [e0, hfid])]
   exact hf1'
  unfold aliveE at hal
  rw [hfind] at hal
  rcases hf12 with hdead | ⟨rfl, hni⟩
  ·simp only [hdead] at hal; cases hal
  ·refine ⟨f1, hfind, ?_, ?_, fun k hk => ?_⟩
   ·rcases hf01 with rfl | rfl <;> rfl
   ·have hfk : Fk ρ f ρ f1 := by
      rcases hf01 with rfl | rfl
      ·exact Fk.refl _ _
      ·exact Fk.freeze _ _
    exact hfk.names (FE.foot_names (r0.2 f1 (findE_mem hf1').1).1 (r0.2 f1 (findE_mem hf1').1).2 (r3 f1 (findE_mem hf1').1))
   ·refine hbel.block k (hhG.foot_lt (findE_mem hf).1 hk) fun hm => ?_
    obtain ⟨i, hi, g, hg, hx⟩ := hm
    rcases hhG.sep (findE_mem hf).1 g (hfrm g k (findE_mem hg).1 hx) k hx with h | h
    ·exact h hk
    ·subst h
     apply hni
     rw [← (findE_mem hf).2, (findE_mem hg).2]
     exact hi
theorem spec_of_vcT {P : Program} {C : Cx} {f : FuncId} {fn : Func} (hn : hasFn P f) (hfn : P.funcs[f]? = some fn) (hcalm : calmF fn = true) {as9 : List Shp} {tk : List (Option TypeId)} {rs : List Shp} {ros : List RO} {ls : List Nat} {pre : Shp.Ds as9 → Prop} {post : Shp.Ds as9 → Shp.Ds rs → Prop}
    (hC : ∀ E : Env, E.ok → E.lo = C.lo → E.hi = C.hi → C.ok P E) (h : ∀ x, Shp.lims as9 x → pre x → vcWT C fn as9 tk rs ros ls x (post x)) {E : Env} (hE : E.ok) (hnp : ∀ s, ¬ C.x.pan s := by exact fun _ h => h) : SpecOk P E f (fnSpecT as9 tk rs ros ls pre post) := by
 refine spec_of_vcTG (C := C) hn (fun E x hE hlo hhi hdf hl hp => ?_) hE
 have hv := h x hl hp
 unfold vcWT at hv
 split at hv
 ·rename_i svs ents hsv
  exact ⟨svs, ents, hsv, hv.1, fun ρc w xs hh hx => calls_of_vcL (hC E hE hlo hhi) hfn hcalm svs hx w hh hv.2 (fun v s ρ a w' h1 h2 h3 => ⟨v, s, ρ, a, rfl, h1, h2, h3⟩) hdf fun s ρ w' _ h => (hnp s h).elim⟩
 ·exact hv.elim
end spec
end
end Go.Proofs.YtkifmppmfkpfbaaGreat.V
