import Derived.Test.YtkifmppmfkpfbaaGreatW12
set_option linter.unusedVariables false
set_option linter.unusedSimpArgs false
namespace Go.Proofs.YtkifmppmfkpfbaaGreat.V
open Go.RowKit
section
structure Un where
 z : Nat → Int
 b : Nat → Bool
 t : Nat → ByteArray
 u : Nat → Value
 y : Nat → (e : Shp) → List e.D
def okV (ib is_ : List Nat) : SV → Bool
 | .ptr b _ => memN b ib
 | .osl b _ _ _ => memN b ib
 | .ep b _ _ _ _ => memN b ib
 | .fv b => memN b is_
 | .fp b _ _ _ => memN b is_
 | .agg cs => okVs cs
 | .tup cs => okVs cs
 | .fnv _ cs => okVs cs
 | .fbv _ cs => okVs cs
 | .mp b => memN b ib
 | _ => true
where okVs : List SV → Bool
 | [] => true
 | c :: cs => okV ib is_ c && okVs cs
mutual
theorem okV_den {ib is_ : List Nat} {ρ ρ' : Nm} (hr : ∀ i ∈ ib, ρ'.b i = ρ.b i) (hs : ∀ i ∈ is_, ρ'.s i = ρ.s i) : ∀ {v : SV}, okV ib is_ v = true → v.den ρ' = v.den ρ
 | .int _ _, _ => rfl
 | .bool _, _ => rfl
 | .str _, _ => rfl
 | .val _, _ => rfl
 | .ptr b o, h => by simp only [SV.den, hr b (memN_mem.1 h)]
 | .osl b _ _ _, h => by simp only [SV.den, hr b (memN_mem.1 h)]
 | .ep b _ _ _ _, h => by simp only [SV.den, hr b (memN_mem.1 h)]
 | .fv b, h => by simp only [SV.den, hs b (memN_mem.1 h)]
 | .fp b _ _ _, h => by simp only [SV.den, hs b (memN_mem.1 h)]
 | .agg cs, h => by simp only [SV.den, okVs_den hr hs (l := cs) h]
 | .tup cs, h => by simp only [SV.den, okVs_den hr hs (l := cs) h]
 | .fnv f cs, h => by simp only [SV.den, okVs_den hr hs (l := cs) h]
 | .fbv f cs, h => by simp only [SV.den, okVs_den hr hs (l := cs) h]
 | .mp b, h => by simp only [SV.den, hr b (memN_mem.1 h)]
theorem okVs_den {ib is_ : List Nat} {ρ ρ' : Nm} (hr : ∀ i ∈ ib, ρ'.b i = ρ.b i) (hs : ∀ i ∈ is_, ρ'.s i = ρ.s i) : ∀ {l : List SV}, okV.okVs ib is_ l = true → SV.dens ρ' l = SV.dens ρ l
 | [], _ => rfl
 | c :: cs, h => by
   simp only [okV.okVs, Bool.and_eq_true] at h
   simp only [SV.dens, okV_den hr hs h.1, okVs_den hr hs h.2]
end
def hvC (U : Un) (k : Nat) : SV → SV
 | .int kd _ => .int kd (.x (U.z k))
 | .bool _ => .bool (.x (U.b k))
 | .str _ => .str (fun _ => U.t k)
 | .fv i => .fv i
 | .ptr i o => .ptr i o
 | _ => .val (U.u k)
def hvCs (U : Un) : Nat → List SV → List SV
 | _, [] => []
 | k, v :: l => hvC U k v :: hvCs U (k + 1) l
def hvH (U : Un) (HB : List Nat) : List Ent → List Ent
 | [] => []
 | e :: l => (match memN e.id HB with | true => ⟨e.id, e.ty, hvCs U (4096 + e.id * 64) e.cells⟩ | false => e) :: hvH U HB l
def hvK (U : Un) (HF : List Nat) (f : FE) : CK → FE
 | .mp ke ve _ => match memN f.id HF with
   | true => ⟨f.id, f.own, f.t, f.al, .codes (.mp ke ve (fun _ => U.y f.id (.st [ke, ve])))⟩
   | false => f
 | .cd _ => f
 | .ob _ => f
 | .hl _ _ _ _ _ _ => f
theorem hvK_id (U : Un) (HF : List Nat) (f : FE) (T : CK) : (hvK U HF f T).id = f.id := by
 cases T with
 | mp ke ve x => simp only [hvK]; cases memN f.id HF <;> rfl
 | cd T => rfl
 | ob o => rfl
 | hl e x i o l T => rfl
def hvG (U : Un) (HF : List Nat) : List FE → List FE
 | [] => []
 | f :: l => match f.c with
   | .dead => hvG U HF l
   | .rows e x => (match memN f.id HF with | true => ⟨f.id, f.own, f.t, f.al, .rows e (fun _ => U.y f.id e)⟩ | false => f) :: hvG U HF l
   | .codes T => hvK U HF f T :: hvG U HF l
def hvF (U : Un) (X W : List Nat) (f : Fr) : List Nat → Fr → Fr
 | [], g => g
 | t :: l, g => hvF U X W f l (Fr.set (match memN t X with | true => .val (U.u t) | false => hvC U t (f.get t)) 12 g t)
def catW (X W : List Nat) : List Nat := catN X W
def hv (U : Un) (X W HB HF : List Nat) (s : St) : St := ⟨hvF U X W s.fr (catW X W) s.fr, s.n, hvH U HB s.heap, hvG U HF s.ents, s.next⟩
def atI : SV → Int
 | .int _ e => e.den
 | _ => 0
def atB : SV → Bool
 | .bool b => b.den
 | _ => false
def atT : SV → ByteArray
 | .str f => f ()
 | .val (.string s) => s
 | _ => ByteArray.empty
def getC : List SV → Nat → SV
 | [], _ => .val undef
 | v :: _, 0 => v
 | _ :: l, n + 1 => getC l n
def atS (s : St) (k : Nat) : SV := match nBlt k 4096 with
 | true => s.fr.get k
 | false => match cellsE s.heap ((k - 4096) / 64) with
   | some cs => getC cs ((k - 4096) % 64)
   | none => .val undef
def renA (ren : List (Nat × Nat)) (i : Nat) : Nat := match ren with
 | [] => i
 | (a, b) :: l => match nBeq a i with
   | true => b
   | false => renA l i
def atY (f : Option FE) (e : Shp) : List e.D := match f with
 | some f => match f.c with
   | .rows e' x => convL e' e (x ())
   | .codes (.mp ke ve x) => convL (.st [ke, ve]) e (x ())
   | _ => []
 | none => []
def atR (rb : List (Nat × Nat)) (s : St) (k : Nat) : SV := match nBlt k 4096 with
 | true => s.fr.get k
 | false => match cellsE s.heap (renA rb ((k - 4096) / 64)) with
   | some cs => getC cs ((k - 4096) % 64)
   | none => .val undef
def renC (v v' : SV) : List (Nat × Nat) := match v, v' with
 | .fv i, .fv j => match nBeq i j with
   | true => []
   | false => [(i, j)]
 | _, _ => []
def catR (l m : List (Nat × Nat)) : List (Nat × Nat) := match l with
 | [] => m
 | x :: l => x :: catR l m
def renCs : List SV → List SV → List (Nat × Nat)
 | v :: l, v' :: l' => catR (renC v v') (renCs l l')
 | _, _ => []
def renF (X : List Nat) (f g : Fr) : List Nat → List (Nat × Nat)
 | [] => []
 | t :: l => match memN t X with
   | true => renF X f g l
   | false => catR (renC (f.get t) (g.get t)) (renF X f g l)
def renP (v v' : SV) : List (Nat × Nat) := match v, v' with
 | .ptr i _, .ptr j _ => match nBeq i j with
   | true => []
   | false => [(i, j)]
 | _, _ => []
def renB (X : List Nat) (f g : Fr) : List Nat → List (Nat × Nat)
 | [] => []
 | t :: l => match memN t X with
   | true => renB X f g l
   | false => catR (renP (f.get t) (g.get t)) (renB X f g l)
def entOf : List Ent → Nat → Option Ent
 | [], _ => none
 | x :: l, b => (match nBeq x.id b with | true => some x | false => entOf l b)
def renH (HB : List Nat) (rb : List (Nat × Nat)) (H : List Ent) : List Ent → List (Nat × Nat)
 | [] => []
 | e :: l => match memN e.id HB, entOf H (renA rb e.id) with
   | true, some e' => catR (renCs e.cells e'.cells) (renH HB rb H l)
   | _, _ => renH HB rb H l
def rbOf (X W : List Nat) (s s1 : St) : List (Nat × Nat) := renB X s.fr s1.fr W
def renOf (X W HB : List Nat) (s s1 : St) : List (Nat × Nat) := catR (renF X s.fr s1.fr W) (renH HB (rbOf X W s s1) s1.heap s.heap)
def shC (ren rb : List (Nat × Nat)) : SV → SV → Bool
 | .int k _, .int k' _ => nBeq (kNat k) (kNat k')
 | .int _ _, _ => false
 | .bool _, .bool _ => true
 | .bool _, _ => false
 | .str _, .str _ => true
 | .str _, .val (.string _) => true
 | .str _, _ => false
 | .fv i, .fv j => nBeq (renA ren i) j
 | .fv _, _ => false
 | .ptr i o, .ptr j o' => nBeq (renA rb i) j && nBeq o o'
 | .ptr _ _, _ => false
 | _, _ => true
def shCs (ren rb : List (Nat × Nat)) : List SV → List SV → Bool
 | [], [] => true
 | v :: l, v' :: l' => shC ren rb v v' && shCs ren rb l l'
 | _, _ => false
def fvIn (L LB : List Nat) : SV → Bool
 | .fv i => memN i L
 | .ptr i _ => memN i LB
 | _ => true
def fvIns (L LB : List Nat) : List SV → Bool
 | [] => true
 | v :: l => fvIn L LB v && fvIns L LB l
theorem fvIns_mem {L LB : List Nat} : ∀ {l : List SV}, fvIns L LB l = true → (∀ i, .fv i ∈ l → i ∈ L) ∧ ∀ i o, .ptr i o ∈ l → i ∈ LB
 | [], _ => ⟨fun i h => (by cases h), fun i o h => (by cases h)⟩
 | v :: l, h => by
   simp only [fvIns, Bool.and_eq_true] at h
   obtain ⟨k1, k2⟩ := fvIns_mem h.2
   refine ⟨fun i hi => ?_, fun i o hi => ?_⟩
   ·rcases List.mem_cons.1 hi with rfl | hi
    ·exact memN_mem.1 h.1
    ·exact k1 i hi
   ·rcases List.mem_cons.1 hi with rfl | hi
    ·exact memN_mem.1 h.1
    ·exact k2 i o hi
def idsL : List FE → List Nat
 | [] => []
 | f :: l => match f.c with
   | .dead => idsL l
   | _ => f.id :: idsL l
theorem mem_idsL {i : Nat} : ∀ {l : List FE}, i ∈ idsL l → ∃ f ∈ l, f.c ≠ .dead ∧ f.id = i
 | [], h => by cases h
 | f :: l, h => by
   simp only [idsL] at h
   split at h
   ·obtain ⟨g, hg, h⟩ := mem_idsL h
    exact ⟨g, List.mem_cons_of_mem _ hg, h⟩
   ·rename_i hc
    rcases List.mem_cons.1 h with rfl | h
    ·exact ⟨f, List.mem_cons_self, hc, rfl⟩
    ·obtain ⟨g, hg, h⟩ := mem_idsL h
     exact ⟨g, List.mem_cons_of_mem _ hg, h⟩
def idsE : List Ent → List Nat
 | [] => []
 | e :: l => e.id :: idsE l
theorem mem_idsE {l : List Ent} {i : Nat} : i ∈ idsE l ↔ ∃ e ∈ l, e.id = i := by
 induction l with
 | nil => simp [idsE]
 | cons x l ih => simp [idsE, ih, eq_comm]
def idsK (ren : List (Nat × Nat)) : List FE → List Nat
 | [] => []
 | f :: l => match f.c with
   | .dead => idsK ren l
   | _ => match nBeq (renA ren f.id) f.id with
     | true => f.id :: idsK ren l
     | false => idsK ren l
def idsB (rb : List (Nat × Nat)) : List Ent → List Nat
 | [] => []
 | e :: l => match nBeq (renA rb e.id) e.id with
   | true => e.id :: idsB rb l
   | false => idsB rb l
theorem mem_idsB {rb : List (Nat × Nat)} {i : Nat} : ∀ {l : List Ent}, i ∈ idsB rb l → (∃ e ∈ l, e.id = i) ∧ renA rb i = i
 | [], h => by cases h
 | e :: l, h => by
   simp only [idsB] at h
   cases hb : nBeq (renA rb e.id) e.id <;> rw [hb] at h
   ·obtain ⟨⟨g, hg, h1⟩, h2⟩ := mem_idsB h
    exact ⟨⟨g, List.mem_cons_of_mem _ hg, h1⟩, h2⟩
   ·rcases List.mem_cons.1 h with rfl | h
    ·exact ⟨⟨e, List.mem_cons_self, rfl⟩, nBeq_eq hb⟩
    ·obtain ⟨⟨g, hg, h1⟩, h2⟩ := mem_idsB h
     exact ⟨⟨g, List.mem_cons_of_mem _ hg, h1⟩, h2⟩
def slotsOk (X W L LB ib is_ : List Nat) (ren rb : List (Nat × Nat)) (f g : Fr) : Nat → Prop
 | 0 => True
 | t + 1 => (match memN t X with
   | true => True
   | false => match memN t W with
     | true => (shC ren rb (f.get t) (g.get t) && fvIn L LB (f.get t)) = true
     | false => g.get t = f.get t ∧ okV ib is_ (f.get t) = true) ∧ slotsOk X W L LB ib is_ ren rb f g t
def heapOk (HB L LB ib is_ : List Nat) (ren rb : List (Nat × Nat)) (H : List Ent) : List Ent → Prop
 | [] => True
 | e :: l => (match entOf H (renA rb e.id) with
   | some e' => nBeq e'.ty e.ty = true ∧ (match memN e.id HB with
     | true => (shCs ren rb e.cells e'.cells && fvIns L LB e.cells && nBle (lenL e.cells) 64) = true
     | false => e'.cells = e.cells ∧ okV.okVs ib is_ e.cells = true)
   | none => False) ∧ heapOk HB L LB ib is_ ren rb H l
def subN : List Nat → List Nat → Bool
 | [], _ => true
 | x :: l, m => memN x m && subN l m
theorem subN_mem {m : List Nat} : ∀ {l : List Nat}, subN l m = true → ∀ x ∈ l, x ∈ m
 | [], _, x, h => by cases h
 | y :: l, h, x, hx => by
   simp only [subN, Bool.and_eq_true] at h
   rcases List.mem_cons.1 hx with rfl | hx
   ·exact memN_mem.1 h.1
   ·exact subN_mem h.2 x hx
def okK (HF : List Nat) (G : List FE) (f : FE) : CK → Prop
 | .mp ke ve _ => match memN f.id HF with
   | true => match findE G f.id with
     | some f' => (eqB f'.own f.own && nBeq f'.t f.t && subN f'.al f.al) = true ∧ (match f'.c with | .codes (.mp ke' ve' _) => (shEq ke' ke && shEq ve' ve) = true | _ => False)
     | none => False
   | false => findE G f.id = some f
 | .cd _ => findE G f.id = some f
 | .ob _ => findE G f.id = some f
 | .hl _ _ _ _ _ _ => False
def entsOk (HF : List Nat) (ren : List (Nat × Nat)) (G : List FE) : List FE → Prop
 | [] => True
 | f :: l => (match f.c with
   | .dead => True
   | .codes T => nBeq (renA ren f.id) f.id = true ∧ okK HF G f T
   | .rows e x => match findE G (renA ren f.id) with
     | some f' => (eqB f'.own f.own && nBeq f'.t f.t && subN f'.al f.al) = true ∧ (match memN f.id HF with
       | true => (match f'.c with | .rows e' _ => shEq e' e = true | _ => False)
       | false => f'.c = .rows e x)
     | none => False) ∧ entsOk HF ren G l
def shF (f : FE) : Bool := !f.own && (match f.c with | .rows _ _ => true | _ => false)
def onceG : List (Nat × Nat) → List FE → Bool
 | _, [] => true
 | ren, f :: l => (match f.c with
   | .dead => true
   | _ => onceI ren (shF f) (renA ren f.id) f.id l) && onceG ren l
where onceI (ren : List (Nat × Nat)) (sh : Bool) (j i : Nat) : List FE → Bool
 | [] => true
 | g :: l => (match g.c with | .dead => true | _ => (!nBeq (renA ren g.id) j || (sh && shF g)) && !nBeq g.id i) && onceI ren sh j i l
def allLt (n : Nat) : List Nat → Bool
 | [] => true
 | t :: l => nBlt t n && allLt n l
def renLo (lo hi : Nat) : List (Nat × Nat) → Bool
 | [] => true
 | (a, _) :: l => nBle lo a && nBlt a hi && renLo lo hi l
def noneIn (H : List Ent) : List (Nat × Nat) → Bool
 | [] => true
 | (a, _) :: l => freshE a H && noneIn H l
def noneG (G : List FE) : List (Nat × Nat) → Bool
 | [] => true
 | (a, _) :: l => freshG a G && noneG G l
theorem noneG_mem {G : List FE} : ∀ {ren : List (Nat × Nat)}, noneG G ren = true → ∀ p ∈ ren, ∀ f ∈ G, f.id ≠ p.1
 | [], _, p, hp => by cases hp
 | (a, b) :: l, h, p, hp => by
   simp only [noneG, Bool.and_eq_true] at h
   rcases List.mem_cons.1 hp with rfl | hp
   ·exact freshG_mem h.1
   ·exact noneG_mem h.2 p hp
def freshR (rb : List (Nat × Nat)) (j i : Nat) : List Ent → Bool
 | [] => true
 | e :: l => (match nBeq (renA rb e.id) j with | true => nBeq e.id i | false => true) && freshR rb j i l
def onceH (rb : List (Nat × Nat)) (H : List Ent) : List Ent → Bool
 | [] => true
 | e :: l => freshR rb (renA rb e.id) e.id H && onceH rb H l
theorem freshR_mem {rb : List (Nat × Nat)} {j i : Nat} : ∀ {l : List Ent}, freshR rb j i l = true → ∀ e ∈ l, renA rb e.id = j → e.id = i
 | [], _, e, he, _ => by cases he
 | x :: l, h, e, he, hj => by
   simp only [freshR, Bool.and_eq_true] at h
   rcases List.mem_cons.1 he with rfl | he
   ·have := h.1
    rw [beq_true' hj] at this
    exact nBeq_eq this
   ·exact freshR_mem h.2 e he hj
theorem onceH_mem {rb : List (Nat × Nat)} {H : List Ent} : ∀ {l : List Ent}, onceH rb H l = true → ∀ e ∈ l, ∀ e' ∈ H, renA rb e'.id = renA rb e.id → e'.id = e.id
 | [], _, e, he, _, _, _ => by cases he
 | x :: l, h, e, he, e', he', hj => by
   simp only [onceH, Bool.and_eq_true] at h
   rcases List.mem_cons.1 he with rfl | he
   ·exact freshR_mem h.1 e' he' hj
   ·exact onceH_mem h.2 e he e' he' hj
structure EndOk (lo hi : Nat) (X W HB HF : List Nat) (ren rb : List (Nat × Nat)) (s s1 : St) : Prop where
 n : nBeq s1.n s.n = true
 rok : (renLo lo hi ren && noneIn s.heap ren && onceG ren s.ents && (renLo lo hi rb && noneG s.ents rb && onceH rb s.heap s.heap)) = true
 slots : slotsOk X W (idsL s.ents) (idsE s.heap) (catN (idsB rb s.heap) (idsK ren s.ents)) (idsK ren s.ents) ren rb s.fr s1.fr s.n
 heap : heapOk HB (idsL s.ents) (idsE s.heap) (catN (idsB rb s.heap) (idsK ren s.ents)) (idsK ren s.ents) ren rb s1.heap s.heap
 ents : entsOk HF ren s1.ents s.ents
theorem EndOk.au {lo hi : Nat} {X W HB HF : List Nat} {ren rb : List (Nat × Nat)} {s s1 : St} (h1 : nBeq s1.n s.n = true := by cbv)
    (h2 : (renLo lo hi ren && noneIn s.heap ren && onceG ren s.ents && (renLo lo hi rb && noneG s.ents rb && onceH rb s.heap s.heap)) = true := by cbv)
    (h3 : slotsOk X W (idsL s.ents) (idsE s.heap) (catN (idsB rb s.heap) (idsK ren s.ents)) (idsK ren s.ents) ren rb s.fr s1.fr s.n := by cbv; repeat' (first | exact True.intro | exact rfl | with_reducible refine And.intro ?_ ?_))
    (h4 : heapOk HB (idsL s.ents) (idsE s.heap) (catN (idsB rb s.heap) (idsK ren s.ents)) (idsK ren s.ents) ren rb s1.heap s.heap := by cbv; repeat' (first | exact True.intro | exact rfl | with_reducible refine And.intro ?_ ?_))
    (h5 : entsOk HF ren s1.ents s.ents := by cbv; repeat' (first | exact True.intro | exact rfl | with_reducible refine And.intro ?_ ?_)) : EndOk lo hi X W HB HF ren rb s s1 := ⟨h1, h2, h3, h4, h5⟩
section hv
variable {U : Un}
theorem hvF_get (X W : List Nat) (f : Fr) {n : Nat} (hn : n ≤ 4000) : ∀ {l : List Nat} {g : Fr}, allLt n l = true → ∀ t, (hvF U X W f l g).get t = if memN t l then (match memN t X with | true => .val (U.u t) | false => hvC U t (f.get t)) else g.get t
 | [], g, _, t => by simp [hvF, memN]
 | k :: l, g, h, t => by
   simp only [allLt, Bool.and_eq_true, nBlt_iff] at h
   simp only [hvF]
   rw [hvF_get X W f hn h.2 t]
   have := h.1
   rw [Fr.get_set _ 12 _ _ _ (by omega)]
   by_cases hm : memN t l = true
   ·simp [hm, memN]
   ·simp only [hm, memN, Bool.or_false]
    by_cases ht : t = k
    ·subst ht
     simp
    ·have : nBeq k t = false := beq_false' (Ne.symm ht)
     simp [this, ht]
theorem hvH_ids (HB : List Nat) (l : List Ent) : idsE (hvH U HB l) = idsE l := by
 induction l with
 | nil => rfl
 | cons e l ih =>
   simp only [hvH, idsE, ih]
   cases memN e.id HB <;> rfl
theorem hvH_mem {HB : List Nat} {l : List Ent} {e' : Ent} (h : e' ∈ hvH U HB l) : ∃ e ∈ l, e' = (match memN e.id HB with | true => ⟨e.id, e.ty, hvCs U (4096 + e.id * 64) e.cells⟩ | false => e) := by
 induction l with
 | nil => cases h
 | cons x l ih =>
   simp only [hvH] at h
   rcases List.mem_cons.1 h with rfl | h
   ·exact ⟨x, List.mem_cons_self, rfl⟩
   ·obtain ⟨e, he, h⟩ := ih h
    exact ⟨e, List.mem_cons_of_mem _ he, h⟩
theorem entOf_mem {l : List Ent} {i : Nat} {e : Ent} (h : entOf l i = some e) : e ∈ l ∧ e.id = i := by
 induction l with
 | nil => cases h
 | cons x l ih =>
   simp only [entOf] at h
   cases hb : nBeq x.id i with
   | true =>
     rw [hb] at h
     cases h
     exact ⟨List.mem_cons_self, nBeq_eq hb⟩
   | false =>
     rw [hb] at h
     exact ⟨List.mem_cons_of_mem _ (ih h).1, (ih h).2⟩
theorem entOf_cells {l : List Ent} {i : Nat} {e : Ent} (h : entOf l i = some e) : cellsE l i = some e.cells := by
 induction l with
 | nil => cases h
 | cons x l ih =>
   simp only [entOf] at h
   simp only [cellsE]
   cases hb : nBeq x.id i with
   | true => rw [hb] at h; cases h; rfl
   | false => rw [hb] at h; exact ih h
theorem slotsOk_at {X W L LB ib is_ : List Nat} {ren rb : List (Nat × Nat)} {f g : Fr} : ∀ {n : Nat}, slotsOk X W L LB ib is_ ren rb f g n → ∀ t, t < n → (match memN t X with
    | true => True
    | false => match memN t W with
      | true => (shC ren rb (f.get t) (g.get t) && fvIn L LB (f.get t)) = true
      | false => g.get t = f.get t ∧ okV ib is_ (f.get t) = true)
 | 0, _, t, h => by omega
 | n + 1, h, t, ht => by
   by_cases e : t = n
   ·subst e; exact h.1
   ·exact slotsOk_at h.2 t (by omega)
theorem heapOk_at {HB L LB ib is_ : List Nat} {ren rb : List (Nat × Nat)} {H : List Ent} {l : List Ent} (h : heapOk HB L LB ib is_ ren rb H l) : ∀ e ∈ l, ∃ e', entOf H (renA rb e.id) = some e' ∧ e'.ty = e.ty ∧ (match memN e.id HB with
      | true => (shCs ren rb e.cells e'.cells && fvIns L LB e.cells && nBle (lenL e.cells) 64) = true
      | false => e'.cells = e.cells ∧ okV.okVs ib is_ e.cells = true) := by
 induction l with
 | nil => intro e he; cases he
 | cons x l ih =>
   intro e he
   obtain ⟨h1, h2⟩ := h
   rcases List.mem_cons.1 he with rfl | he
   ·cases hx : entOf H (renA rb e.id) with
    | none => rw [hx] at h1; exact h1.elim
    | some e' =>
      rw [hx] at h1
      exact ⟨e', rfl, nBeq_eq h1.1, h1.2⟩
   ·exact ih h2 e he
def unOf (ren rb : List (Nat × Nat)) (s : St) (ρ : Nm) : Un := ⟨fun k => atI (atR rb s k), fun k => atB (atR rb s k), fun k => atT (atR rb s k), fun k => (atR rb s k).den ρ, fun i e => atY (findE s.ents (renA ren i)) e⟩
theorem hvC_den {ren rb : List (Nat × Nat)} {k : Nat} {v v' : SV} {ρ ρ' : Nm} (h : shC ren rb v v' = true) (hz : U.z k = atI v') (hb : U.b k = atB v') (ht : U.t k = atT v') (hu : U.u k = v'.den ρ) (hs : ∀ i, v = .fv i → ρ'.s i = ρ.s (renA ren i)) (hp : ∀ i o, v = .ptr i o → ρ'.b i = ρ.b (renA rb i)) : (hvC U k v).den ρ' = v'.den ρ := by
 cases v with
 | int k1 e1 =>
   cases v' with
   | int k2 e2 =>
     have := kNat_inj (show nBeq (kNat k1) (kNat k2) = true from h)
     subst this
     simp only [hvC, SV.den, den_x, hz, atI]
   | _ => exact absurd h (by simp [shC])
 | bool b1 =>
   cases v' with
   | bool b2 => simp only [hvC, SV.den, bden_x, hb, atB]
   | _ => exact absurd h (by simp [shC])
 | str f1 =>
   cases v' with
   | str f2 => simp only [hvC, SV.den, ht, atT]
   | val v2 =>
     cases v2 with
     | string s2 => simp only [hvC, SV.den, ht, atT]
     | _ => exact absurd h (by simp [shC])
   | _ => exact absurd h (by simp [shC])
 | fv i =>
   cases v' with
   | fv j =>
     have := nBeq_eq (show nBeq (renA ren i) j = true from h)
     simp only [hvC, SV.den, hs i rfl, this]
   | _ => exact absurd h (by simp [shC])
 | ptr i o =>
   cases v' with
   | ptr j o' =>
     have h' : (nBeq (renA rb i) j && nBeq o o') = true := h
     simp only [Bool.and_eq_true] at h'
     have h1 := nBeq_eq h'.1
     have h2 := nBeq_eq h'.2
     simp only [hvC, SV.den, hp i o rfl, h1, h2]
   | _ => exact absurd h (by simp [shC])
 | _ => simp only [hvC, SV.den, hu]
theorem hvCs_den {ren rb : List (Nat × Nat)} {ρ ρ' : Nm} : ∀ {l l' : List SV} {k : Nat}, shCs ren rb l l' = true → (∀ c, c < l.length → U.z (k + c) = atI (getC l' c) ∧ U.b (k + c) = atB (getC l' c) ∧ U.t (k + c) = atT (getC l' c) ∧ U.u (k + c) = (getC l' c).den ρ) → (∀ i, .fv i ∈ l → ρ'.s i = ρ.s (renA ren i)) → (∀ i o, .ptr i o ∈ l → ρ'.b i = ρ.b (renA rb i)) → SV.dens ρ' (hvCs U k l) = SV.dens ρ l'
 | [], [], _, _, _, _, _ => rfl
 | [], _ :: _, _, h, _, _, _ => by simp [shCs] at h
 | _ :: _, [], _, h, _, _, _ => by simp [shCs] at h
 | v :: l, v' :: l', k, h, hz, hs, hp => by
   simp only [shCs, Bool.and_eq_true] at h
   obtain ⟨h1, h2, h3, h4⟩ := hz 0 (by simp)
   simp only [hvCs, SV.dens]
   rw [Nat.add_zero] at h1 h2 h3 h4
   rw [hvC_den (ρ := ρ) h.1 h1 h2 h3 h4 (fun i hi => hs i (by rw [hi]; exact List.mem_cons_self)) (fun i o hi => hp i o (by rw [hi]; exact List.mem_cons_self)), hvCs_den h.2 (ρ := ρ) (fun c hc => ?_) (fun i hi => hs i (List.mem_cons_of_mem _ hi)) fun i o hi => hp i o (List.mem_cons_of_mem _ hi)]
   have := hz (c + 1) (by simpa using hc)
   rw [show k + 1 + c = k + (c + 1) from by omega]
   exact this
theorem renA_id {ren : List (Nat × Nat)} {i : Nat} (h : ∀ p ∈ ren, p.1 ≠ i) : renA ren i = i := by
 induction ren with
 | nil => rfl
 | cons p l ih =>
   obtain ⟨a, b⟩ := p
   simp only [renA, beq_false' (h _ List.mem_cons_self)]
   exact ih fun q hq => h q (List.mem_cons_of_mem _ hq)
theorem renLo_mem {lo hi : Nat} : ∀ {ren : List (Nat × Nat)}, renLo lo hi ren = true → ∀ p ∈ ren, lo ≤ p.1 ∧ p.1 < hi
 | [], _, p, hp => by cases hp
 | (a, b) :: l, h, p, hp => by
   simp only [renLo, Bool.and_eq_true, nBlt_iff] at h
   rcases List.mem_cons.1 hp with rfl | hp
   ·exact ⟨nBle_le h.1.1, h.1.2⟩
   ·exact renLo_mem h.2 p hp
theorem noneIn_mem {H : List Ent} : ∀ {ren : List (Nat × Nat)}, noneIn H ren = true → ∀ p ∈ ren, ∀ e ∈ H, e.id ≠ p.1
 | [], _, p, hp => by cases hp
 | (a, b) :: l, h, p, hp => by
   simp only [noneIn, Bool.and_eq_true] at h
   rcases List.mem_cons.1 hp with rfl | hp
   ·exact freshE_mem h.1
   ·exact noneIn_mem h.2 p hp
theorem mem_idsK {ren : List (Nat × Nat)} {i : Nat} : ∀ {l : List FE}, i ∈ idsK ren l → ∃ f ∈ l, f.c ≠ .dead ∧ f.id = i ∧ renA ren i = i
 | [], h => by cases h
 | f :: l, h => by
   simp only [idsK] at h
   split at h
   ·obtain ⟨g, hg, h⟩ := mem_idsK h
    exact ⟨g, List.mem_cons_of_mem _ hg, h⟩
   ·rename_i hc
    cases hb : nBeq (renA ren f.id) f.id <;> rw [hb] at h
    ·obtain ⟨g, hg, h⟩ := mem_idsK h
     exact ⟨g, List.mem_cons_of_mem _ hg, h⟩
    ·rcases List.mem_cons.1 h with rfl | h
     ·exact ⟨f, List.mem_cons_self, hc, rfl, nBeq_eq hb⟩
     ·obtain ⟨g, hg, h⟩ := mem_idsK h
      exact ⟨g, List.mem_cons_of_mem _ hg, h⟩
theorem onceI_mem {ren : List (Nat × Nat)} {sh : Bool} {j i : Nat} : ∀ {l : List FE}, onceG.onceI ren sh j i l = true → ∀ f ∈ l, f.c ≠ .dead → (renA ren f.id ≠ j ∨ (sh = true ∧ shF f = true)) ∧ f.id ≠ i
 | [], _, f, hf, _ => by cases hf
 | g :: l, h, f, hf, hd => by
   simp only [onceG.onceI, Bool.and_eq_true] at h
   rcases List.mem_cons.1 hf with rfl | hf
   ·have h1 := h.1
    split at h1
    ·rename_i hc; exact absurd hc hd
    ·simp only [Bool.and_eq_true, Bool.or_eq_true] at h1
     exact ⟨h1.1.imp ne_of_beq id, ne_of_beq h1.2⟩
   ·exact onceI_mem h.2 f hf hd
structure AsF (ρ' : Nm) (g : FE) (ρ : Nm) (f : FE) : Prop where
 own : g.own = f.own
 t : g.t = f.t
 s : ρ'.s g.id = ρ.s f.id
 z : ρ'.z g.id = ρ.z f.id
 b : (∃ T, f.c = .codes T) → ρ'.b g.id = ρ.b f.id
 c : g.c = f.c ∨ (∃ e x x', g.c = .rows e x ∧ f.c = .rows e x' ∧ x () = x' ()) ∨ ∃ ke ve x x', g.c = .codes (.mp ke ve x) ∧ f.c = .codes (.mp ke ve x') ∧ x () = x' ()
 n : ∀ k, noN k f.c = true
theorem AsF.foot {ρ' ρ : Nm} {g f : FE} (h : AsF ρ' g ρ f) (k : Nat) : g.foot ρ' k ↔ f.foot ρ k := by
 unfold FE.foot FE.top
 rw [h.s, h.z, h.own]
 rcases h.c with hc | ⟨e, x, x', hg, hf, _⟩ | ⟨ke, ve, x, x', hg, hf, _⟩
 ·rw [hc]
  cases hf : f.c with
  | codes T => simp only [h.b ⟨T, hf⟩]
  | _ => exact Iff.rfl
 ·rw [hg, hf]
 ·rw [hg, hf]
  simp only [h.b ⟨_, hf⟩]
theorem AsF.excl {ρ' ρ : Nm} {g f : FE} (h : AsF ρ' g ρ f) (k : Nat) : g.excl ρ' k ↔ f.excl ρ k := by
 unfold FE.excl FE.top
 rw [h.s, h.own]
 rcases h.c with hc | ⟨e, x, x', hg, hf, _⟩ | ⟨ke, ve, x, x', hg, hf, _⟩
 ·rw [hc]
  cases hf : f.c with
  | codes T => simp only [h.b ⟨T, hf⟩]
  | _ => exact Iff.rfl
 ·rw [hg, hf]
 ·rw [hg, hf]
  simp only [h.b ⟨_, hf⟩]
theorem AsF.holds {ρ' ρ : Nm} {g f : FE} {w : World} (h : AsF ρ' g ρ f) (hf : f.holds ρ w) : g.holds ρ' w := by
 have hfo : g.foot ρ' = f.foot ρ := funext fun k => propext (h.foot k)
 unfold FE.holds at hf ⊢
 rw [h.s, h.z, h.own, h.t, hfo]
 rcases h.c with hc | ⟨e, x, x', hg, hff, hx⟩ | ⟨ke, ve, x, x', hg, hff, hx⟩
 ·rw [hc]
  cases hff : f.c with
  | codes T =>
    rw [hff] at hf
    simp only [h.b ⟨T, hff⟩]
    have hn := h.n
    rw [hff] at hn
    cases T with
    | hl e x i o l T => have := hn l; simp [noN] at this
    | _ => exact hf
  | _ => rw [hff] at hf; exact hf
 ·rw [hg]
  rw [hff] at hf
  simp only [hx]
  exact hf
 ·rw [hg]
  rw [hff] at hf
  simp only [hx, h.b ⟨_, hff⟩]
  exact hf
theorem hvG_mem {HF : List Nat} {l : List FE} {g : FE} (h : g ∈ hvG U HF l) : ∃ f ∈ l, f.c ≠ .dead ∧ g.id = f.id ∧ g.own = f.own ∧ g.t = f.t ∧ g.al = f.al ∧ ((g.c = f.c ∧ (memN f.id HF = false ∨ ∃ T, f.c = .codes T ∧ ∀ ke ve x, T ≠ .mp ke ve x)) ∨ (∃ e x, f.c = .rows e x ∧ memN f.id HF = true ∧ g.c = .rows e (fun _ => U.y f.id e)) ∨ ∃ ke ve x, f.c = .codes (.mp ke ve x) ∧ memN f.id HF = true ∧ g.c = .codes (.mp ke ve (fun _ => U.y f.id (.st [ke, ve])))) := by
 induction l with
 | nil => cases h
 | cons x l ih =>
   have rest : g ∈ hvG U HF l → ∃ f ∈ x :: l, f.c ≠ .dead ∧ g.id = f.id ∧ g.own = f.own ∧ g.t = f.t ∧ g.al = f.al ∧ ((g.c = f.c ∧ (memN f.id HF = false ∨ ∃ T, f.c = .codes T ∧ ∀ ke ve x, T ≠ .mp ke ve x)) ∨ (∃ e x, f.c = .rows e x ∧ memN f.id HF = true ∧ g.c = .rows e (fun _ => U.y f.id e)) ∨ ∃ ke ve x, f.c = .codes (.mp ke ve x) ∧ memN f.id HF = true ∧ g.c = .codes (.mp ke ve (fun _ => U.y f.id (.st [ke, ve])))) := fun h => by
    obtain ⟨f, hf, h⟩ := ih h
    exact ⟨f, List.mem_cons_of_mem _ hf, h⟩
   simp only [hvG] at h
   split at h
   ·exact rest h
   ·rename_i e y hc
    rcases List.mem_cons.1 h with rfl | h
    ·refine ⟨x, List.mem_cons_self, by rw [hc]; simp, ?_⟩
     cases hm : memN x.id HF with
     | true => exact ⟨rfl, rfl, rfl, rfl, .inr (.inl ⟨e, y, hc, rfl, rfl⟩)⟩
     | false => exact ⟨rfl, rfl, rfl, rfl, .inl ⟨rfl, .inl rfl⟩⟩
    ·exact rest h
   ·rename_i T hc
    rcases List.mem_cons.1 h with rfl | h
    ·refine ⟨x, List.mem_cons_self, by rw [hc]; simp, ?_⟩
     cases T with
     | cd T => exact ⟨rfl, rfl, rfl, rfl, .inl ⟨rfl, .inr ⟨_, hc, fun _ _ _ h => by cases h⟩⟩⟩
     | ob o => exact ⟨rfl, rfl, rfl, rfl, .inl ⟨rfl, .inr ⟨_, hc, fun _ _ _ h => by cases h⟩⟩⟩
     | hl e x i o l T => exact ⟨rfl, rfl, rfl, rfl, .inl ⟨rfl, .inr ⟨_, hc, fun _ _ _ h => by cases h⟩⟩⟩
     | mp ke ve y =>
       simp only [hvK]
       cases hm : memN x.id HF with
       | true => exact ⟨rfl, rfl, rfl, rfl, .inr (.inr ⟨ke, ve, y, hc, rfl, rfl⟩)⟩
       | false => exact ⟨rfl, rfl, rfl, rfl, .inl ⟨rfl, .inl rfl⟩⟩
    ·exact rest h
theorem mem_hvG {HF : List Nat} : ∀ {l : List FE} {f : FE}, f ∈ l → f.c ≠ .dead → ∃ g ∈ hvG U HF l, g.id = f.id
 | x :: l, f, hf, hd => by
   simp only [hvG]
   rcases List.mem_cons.1 hf with rfl | hf
   ·split
    ·rename_i hc; exact absurd hc hd
    ·refine ⟨_, List.mem_cons_self, ?_⟩
     cases memN f.id HF <;> rfl
    ·exact ⟨_, List.mem_cons_self, hvK_id _ _ _ _⟩
   ·obtain ⟨g, hg, e⟩ := mem_hvG hf hd
    split
    ·exact ⟨g, hg, e⟩
    ·exact ⟨g, List.mem_cons_of_mem _ hg, e⟩
    ·exact ⟨g, List.mem_cons_of_mem _ hg, e⟩
theorem entsOk_at {HF : List Nat} {ren : List (Nat × Nat)} {G : List FE} : ∀ {l : List FE}, entsOk HF ren G l → ∀ f ∈ l, (match f.c with
    | .dead => True
    | .codes T => nBeq (renA ren f.id) f.id = true ∧ okK HF G f T
    | .rows e x => match findE G (renA ren f.id) with
      | some f' => (eqB f'.own f.own && nBeq f'.t f.t && subN f'.al f.al) = true ∧ (match memN f.id HF with
        | true => (match f'.c with | .rows e' _ => shEq e' e = true | _ => False)
        | false => f'.c = .rows e x)
      | none => False)
 | [], _, f, hf => by cases hf
 | g :: l, h, f, hf => by
   rcases List.mem_cons.1 hf with rfl | hf
   ·exact h.1
   ·exact entsOk_at h.2 f hf
theorem onceG_ids {ren : List (Nat × Nat)} {l : List FE} (h : onceG ren l = true) {f f' : FE} (hf : f ∈ l) (hf' : f' ∈ l) (hd : f.c ≠ .dead) (hd' : f'.c ≠ .dead) (hne : f ≠ f') : f.id ≠ f'.id := by
 induction l with
 | nil => cases hf
 | cons x l ih =>
   simp only [onceG, Bool.and_eq_true] at h
   obtain ⟨h1, h2⟩ := h
   have go : ∀ (f : FE), f ∈ l → f.c ≠ .dead → x.c ≠ .dead → f.id ≠ x.id := by
    intro f hf hd hx
    split at h1
    ·rename_i hc; exact absurd hc hx
    ·exact (onceI_mem h1 f hf hd).2
   rcases List.mem_cons.1 hf with e1 | hf
   ·rcases List.mem_cons.1 hf' with e2 | hf'
    ·exact absurd (e1.trans e2.symm) hne
    ·rw [e1]
     exact Ne.symm (go f' hf' hd' (by rw [← e1]; exact hd))
   ·rcases List.mem_cons.1 hf' with e2 | hf'
    ·rw [e2]
     exact go f hf hd (by rw [← e2]; exact hd')
    ·exact ih h2 hf hf'
theorem hvG_pair {R : FE → FE → Prop} {HF : List Nat} {ren : List (Nat × Nat)} : ∀ {l : List FE}, onceG ren l = true → (∀ f ∈ l, ∀ f' ∈ l, f.c ≠ .dead → f'.c ≠ .dead → (renA ren f.id ≠ renA ren f'.id ∨ (shF f = true ∧ shF f' = true)) → ∀ g g', g ∈ hvG U HF l → g' ∈ hvG U HF l → g.id = f.id → g'.id = f'.id → R g g') → (hvG U HF l).Pairwise R
 | [], _, _ => List.Pairwise.nil
 | x :: l, h, hR => by
   simp only [onceG, Bool.and_eq_true] at h
   have tail := hvG_pair h.2 fun f hf f' hf' hd hd' hne g g' hg hg' e e' => hR f (List.mem_cons_of_mem _ hf) f' (List.mem_cons_of_mem _ hf') hd hd' hne g g' (by
    simp only [hvG]; split
    ·exact hg
    ·exact List.mem_cons_of_mem _ hg
    ·exact List.mem_cons_of_mem _ hg) (by
    simp only [hvG]; split
    ·exact hg'
    ·exact List.mem_cons_of_mem _ hg'
    ·exact List.mem_cons_of_mem _ hg') e e'
   have head : ∀ (hd : x.c ≠ .dead) (y : FE), hvG U HF (x :: l) = y :: hvG U HF l → y.id = x.id → (hvG U HF (x :: l)).Pairwise R := by
    intro hd y he hy
    rw [he]
    refine List.pairwise_cons.2 ⟨fun g hg => ?_, tail⟩
    obtain ⟨f, hf, hfd, hgi, _⟩ := hvG_mem hg
    have h1 := h.1
    split at h1
    ·rename_i hc; exact absurd hc hd
    ·have := onceI_mem h1 f hf hfd
     exact hR x List.mem_cons_self f (List.mem_cons_of_mem _ hf) hd hfd (this.1.imp Ne.symm id) y g (by rw [he]; exact List.mem_cons_self) (by rw [he]; exact List.mem_cons_of_mem _ hg) hy hgi
   cases hc : x.c with
   | dead => simp only [hvG, hc]; exact tail
   | rows e y => exact head (by rw [hc]; simp) (match memN x.id HF with | true => ⟨x.id, x.own, x.t, x.al, .rows e (fun _ => U.y x.id e)⟩ | false => x) (by simp only [hvG, hc]) (by cases memN x.id HF <;> rfl)
   | codes T => exact head (by rw [hc]; simp) (hvK U HF x T) (by simp only [hvG, hc]) (hvK_id _ _ _ _)
theorem endOk_fit {E : Env} {lo hi : Nat} (hlo : E.lo = lo) (hhi : E.hi = hi) {ρ : Nm} {X W HB HF : List Nat} {ren rb : List (Nat × Nat)} {s s1 : St} {a : Act} {w : World} (hW : allLt s.n (catW X W) = true) (h : EndOk lo hi X W HB HF ren rb s s1) (hf : Fit E ρ s1 a w) :
    ∃ ρ', Fit E ρ' (hv (unOf ren rb s1 ρ) X W HB HF s) a w := by
 have hn := nBeq_eq h.n
 have hn4 : s.n ≤ 4000 := hn ▸ hf.lim
 have hrok := h.rok
 simp only [Bool.and_eq_true] at hrok
 obtain ⟨⟨⟨r1, r2⟩, r3⟩, ⟨⟨b1, b2⟩, b3⟩⟩ := hrok
 have renH : ∀ e ∈ s.heap, renA ren e.id = e.id := fun e he => renA_id fun p hp e0 => noneIn_mem r2 p hp e he e0.symm
 obtain ⟨ρ', hρ⟩ : ∃ ρ' : Nm, ρ' = ⟨fun i => ρ.b (renA rb i), fun i => ρ.s (renA ren i), fun i => ρ.z (renA ren i)⟩ := ⟨_, rfl⟩
 have hb : ∀ i, ρ'.b i = ρ.b (renA rb i) := fun i => by rw [hρ]
 have hbg : ∀ f ∈ s.ents, renA rb f.id = f.id := fun f hf => renA_id fun p hp e0 => noneG_mem b2 p hp f hf e0.symm
 have hs : ∀ i, ρ'.s i = ρ.s (renA ren i) := fun i => by rw [hρ]
 have hz : ∀ i, ρ'.z i = ρ.z (renA ren i) := fun i => by rw [hρ]
 -- each entry has its like
 have like : ∀ g ∈ hvG (unOf ren rb s1 ρ) HF s.ents, ∃ f1, findE s1.ents (renA ren g.id) = some f1 ∧ AsF ρ' g ρ f1 ∧ (∀ j ∈ f1.al, j ∈ g.al) ∧ ∃ f ∈ s.ents, f.c ≠ .dead ∧ g.id = f.id := by
  intro g hg
  obtain ⟨f, hfm, hd, hid, ho, ht, hal, hc⟩ := hvG_mem hg
  have he := entsOk_at h.ents f hfm
  cases hfc : f.c with
  | dead => exact absurd hfc hd
  | codes T =>
    rw [hfc] at he
    obtain ⟨h1, h2⟩ := he
    have h1 := nBeq_eq h1
    have same : findE s1.ents f.id = some f → g.c = f.c → (∀ k, noN k f.c = true) → ∃ f1, findE s1.ents (renA ren g.id) = some f1 ∧ AsF ρ' g ρ f1 ∧ (∀ j ∈ f1.al, j ∈ g.al) ∧ ∃ f ∈ s.ents, f.c ≠ .dead ∧ g.id = f.id := fun h2 hgc hno =>
     ⟨f, by rw [hid, h1]; exact h2, ⟨ho, ht, by rw [hs, hid, h1], by rw [hz, hid, h1], fun _ => by rw [hb, hid, hbg f hfm], .inl hgc, hno⟩, fun j hj => by rw [hal]; exact hj, f, hfm, hd, hid⟩
    cases T with
    | cd T =>
      refine same h2 ?_ (fun k => by rw [hfc]; rfl)
      rcases hc with hc | ⟨e, x, hx, _⟩ | ⟨ke, ve, x, hx, _⟩
      ·exact hc.1
      ·rw [hfc] at hx; cases hx
      ·rw [hfc] at hx; cases hx
    | ob o =>
      refine same h2 ?_ (fun k => by rw [hfc]; rfl)
      rcases hc with hc | ⟨e, x, hx, _⟩ | ⟨ke, ve, x, hx, _⟩
      ·exact hc.1
      ·rw [hfc] at hx; cases hx
      ·rw [hfc] at hx; cases hx
    | hl e x i o l T => exact h2.elim
    | mp ke ve y =>
      unfold okK at h2
      cases hm : memN f.id HF with
      | false =>
        rw [hm] at h2
        refine same h2 ?_ (fun k => by rw [hfc]; rfl)
        rcases hc with hc | ⟨e, x, hx, _⟩ | ⟨ke', ve', x, hx, hm', _⟩
        ·exact hc.1
        ·rw [hfc] at hx; cases hx
        ·rw [hm] at hm'; cases hm'
      | true =>
        rw [hm] at h2
        simp only at h2
        split at h2
        ·rename_i f1 hf1
         obtain ⟨q, h3⟩ := h2
         simp only [Bool.and_eq_true] at q
         obtain ⟨⟨q1, q2⟩, q3⟩ := q
         split at h3
         ·rename_i ke' ve' x' hc1
          simp only [Bool.and_eq_true] at h3
          have e1 := shEq_eq h3.1
          have e2 := shEq_eq h3.2
          subst e1
          subst e2
          have hid1 := (findE_mem hf1).2
          rcases hc with ⟨_, hc | ⟨T, hT, hT2⟩⟩ | ⟨e2, x2, hx2, _⟩ | ⟨ke2, ve2, x2, hx2, _, hc⟩
          ·rw [hm] at hc; cases hc
          ·rw [hfc] at hT; cases hT; exact absurd rfl (hT2 _ _ _)
          ·rw [hfc] at hx2; cases hx2
          ·rw [hfc] at hx2
           cases hx2
           refine ⟨f1, by rw [hid, h1]; exact hf1, ⟨by rw [ho, eqB_eq q1], by rw [ht, nBeq_eq q2], by rw [hs, hid, h1, hid1], by rw [hz, hid, h1, hid1], fun _ => by rw [hb, hid, hbg f hfm, hid1], .inr (.inr ⟨ke', ve', _, x', hc, hc1, ?_⟩), fun k => by rw [hc1]; rfl⟩, fun j hj => by rw [hal]; exact subN_mem q3 j hj, f, hfm, hd, hid⟩
           simp only [unOf, h1, atY, hf1, hc1, convL_self]
         ·exact h3.elim
        ·exact h2.elim
  | rows e x =>
    rw [hfc] at he
    simp only at he
    split at he
    ·rename_i f1 hf1
     obtain ⟨h1, h2⟩ := he
     simp only [Bool.and_eq_true] at h1
     obtain ⟨⟨q1, q2⟩, q3⟩ := h1
     have hid1 := (findE_mem hf1).2
     refine ⟨f1, by rw [hid]; exact hf1, ⟨by rw [ho, eqB_eq q1], by rw [ht, nBeq_eq q2], by rw [hs, hid, hid1], by rw [hz, hid, hid1], fun ⟨T, hT⟩ => ?_, ?_, fun k => ?_⟩, fun j hj => by rw [hal]; exact subN_mem q3 j hj, f, hfm, hd, hid⟩
     rotate_right 1
     ·cases hm : memN f.id HF <;> rw [hm] at h2
      ·simp only at h2
       rw [h2]; rfl
      ·simp only at h2
       split at h2
       ·rename_i hc1
        rw [hc1]; rfl
       ·exact h2.elim
     ·exfalso
      cases hm : memN f.id HF <;> rw [hm] at h2
      ·simp only at h2
       rw [hT] at h2; cases h2
      ·simp only [hT] at h2
     ·cases hm : memN f.id HF <;> rw [hm] at h2
      ·simp only at h2
       left
       rcases hc with hc | ⟨_, _, _, hm', _⟩ | ⟨_, _, _, hx, _⟩
       ·rw [hc.1, h2, hfc]
       ·rw [hm] at hm'; cases hm'
       ·rw [hfc] at hx; cases hx
      ·simp only at h2
       split at h2
       ·rename_i e' x' hc1
        have := shEq_eq h2
        subst this
        rcases hc with ⟨_, hc | ⟨T, hT, _⟩⟩ | ⟨e2, x2, hx2, _, hc⟩ | ⟨_, _, _, hx2, _⟩
        ·rw [hm] at hc; cases hc
        ·rw [hfc] at hT; cases hT
        ·rw [hfc] at hx2
         cases hx2
         refine .inr (.inl ⟨e', _, x', hc, hc1, ?_⟩)
         simp only [unOf, atY, hf1, hc1, convL_self]
        ·rw [hfc] at hx2; cases hx2
       ·exact h2.elim
    ·exact he.elim
 have hm1 : ∀ {g : FE} {f1 : FE}, findE s1.ents (renA ren g.id) = some f1 → f1 ∈ s1.ents := fun h => (findE_mem h).1
 have upb : ∀ {ρ''}, Agr ρ' ρ'' (hvH (unOf ren rb s1 ρ) HB s.heap) (hvG (unOf ren rb s1 ρ) HF s.ents) → (∀ i ∈ idsE s.heap, ρ''.b i = ρ.b (renA rb i)) ∧ ∀ f ∈ s.ents, f.c ≠ .dead → ρ''.b f.id = ρ.b f.id ∧ ρ''.s f.id = ρ.s (renA ren f.id) := by
  intro ρ'' hr
  refine ⟨fun i hi => ?_, fun f hfm hd => ?_⟩
  ·rw [← hvH_ids (U := unOf ren rb s1 ρ) HB s.heap, mem_idsE] at hi
   obtain ⟨e, he, rfl⟩ := hi
   rw [hr.1 e he, hb]
  ·obtain ⟨g, hg, hid⟩ := mem_hvG (U := unOf ren rb s1 ρ) (HF := HF) hfm hd
   have := hr.2 g hg
   rw [hid, hb, hs, hbg f hfm] at this
   exact this
 have okb : ∀ {ρ''}, Agr ρ' ρ'' (hvH (unOf ren rb s1 ρ) HB s.heap) (hvG (unOf ren rb s1 ρ) HF s.ents) → (∀ i ∈ catN (idsB rb s.heap) (idsK ren s.ents), ρ''.b i = ρ.b i) ∧ ∀ i ∈ idsK ren s.ents, ρ''.s i = ρ.s i := by
  intro ρ'' hr
  obtain ⟨u1, u2⟩ := upb hr
  refine ⟨fun i hi => ?_, fun i hi => ?_⟩
  ·rw [catN_eq] at hi
   rcases List.mem_append.1 hi with hi | hi
   ·obtain ⟨⟨e, he, h1⟩, h2⟩ := mem_idsB hi
    rw [u1 i (mem_idsE.2 ⟨e, he, h1⟩), h2]
   ·obtain ⟨f, hfm, hd, rfl, _⟩ := mem_idsK hi
    exact (u2 f hfm hd).1
  ·obtain ⟨f, hfm, hd, rfl, hre⟩ := mem_idsK hi
   rw [(u2 f hfm hd).2, hre]
 have fvs : ∀ {ρ''}, Agr ρ' ρ'' (hvH (unOf ren rb s1 ρ) HB s.heap) (hvG (unOf ren rb s1 ρ) HF s.ents) → ∀ i ∈ idsL s.ents, ρ''.s i = ρ.s (renA ren i) := by
  intro ρ'' hr i hi
  obtain ⟨f, hfm, hd, rfl⟩ := mem_idsL hi
  exact ((upb hr).2 f hfm hd).2
 have old : ∀ {e}, e ∈ hvH (unOf ren rb s1 ρ) HB s.heap → ∃ e1 ∈ s1.heap, e1.id = renA rb e.id ∧ e1.ty = e.ty ∧ ∀ ρ'', Agr ρ' ρ'' (hvH (unOf ren rb s1 ρ) HB s.heap) (hvG (unOf ren rb s1 ρ) HF s.ents) → SV.dens ρ'' e.cells = SV.dens ρ e1.cells := by
  intro e he
  obtain ⟨e0, he0, rfl⟩ := hvH_mem he
  obtain ⟨e1, h1, ht, hc⟩ := heapOk_at h.heap e0 he0
  obtain ⟨hm, hid⟩ := entOf_mem h1
  have hce := entOf_cells h1
  cases hbb : memN e0.id HB with
  | false =>
    rw [hbb] at hc
    exact ⟨e1, hm, hid, ht, fun ρ'' hr => by simp only [okVs_den (okb hr).1 (okb hr).2 hc.2, hc.1]⟩
  | true =>
    rw [hbb] at hc
    simp only [Bool.and_eq_true] at hc
    refine ⟨e1, hm, hid, ht, fun ρ'' hr => ?_⟩
    refine hvCs_den (ρ := ρ) hc.1.1 (fun c hcl => ?_) (fun i hi => fvs hr i ((fvIns_mem hc.1.2).1 i hi)) fun i o hi => (upb hr).1 i ((fvIns_mem hc.1.2).2 i o hi)
    have h64 := nBle_le hc.2
    rw [lenL_eq] at h64
    have hat : atR rb s1 (4096 + e0.id * 64 + c) = getC e1.cells c := by
     unfold atR
     have e1' : nBlt (4096 + e0.id * 64 + c) 4096 = false := by simp [nBlt]; omega
     have e2 : (4096 + e0.id * 64 + c - 4096) / 64 = e0.id := by omega
     have e3 : (4096 + e0.id * 64 + c - 4096) % 64 = c := by omega
     rw [e1']
     simp only [e2, e3, hce]
    exact ⟨by simp only [unOf, hat], by simp only [unOf, hat], by simp only [unOf, hat], by simp only [unOf, hat]⟩
 have hh := hf.hp
 refine ⟨ρ', by rw [hf.len]; exact hn, hn4, ?_, hf.defers, hh.keep, hh.size, ?_, ?_, ?_, ?_, ?_, ?_, ?_, ?_, ?_, ?_⟩
 ·intro ρ'' hr t ht
  have ht' : t < s.n := ht
  rw [hf.tmps ρ (Agr.refl _ _ _) t (by omega)]
  have hsl := slotsOk_at h.slots t ht'
  have hat : atR rb s1 t = s1.fr.get t := by
   unfold atR
   have : nBlt t 4096 = true := by rw [nBlt_iff]; omega
   rw [this]
  simp only [hv, hvF_get X W s.fr hn4 hW t]
  cases hx : memN t X with
  | true =>
    have : memN t (catW X W) = true := by unfold catW; rw [memN_mem, catN_eq]; exact List.mem_append_left _ (memN_mem.1 hx)
    rw [if_pos this]
    simp only [SV.den, unOf, hat]
  | false =>
    rw [hx] at hsl
    cases hm : memN t W with
    | true =>
      rw [hm] at hsl
      have : memN t (catW X W) = true := by unfold catW; rw [memN_mem, catN_eq]; exact List.mem_append_right _ (memN_mem.1 hm)
      rw [if_pos this]
      simp only [Bool.and_eq_true] at hsl
      simp only
      rw [hvC_den (ρ := ρ) hsl.1 (by simp only [unOf, hat]) (by simp only [unOf, hat]) (by simp only [unOf, hat]) (by simp only [unOf, hat]) (fun i hi => fvs hr i (by
       have := hsl.2
       rw [hi] at this
       exact memN_mem.1 this)) fun i o hi => (upb hr).1 i (by
       have := hsl.2
       rw [hi] at this
       exact memN_mem.1 this)]
    | false =>
      rw [hm] at hsl
      have : memN t (catW X W) = false := by
       unfold catW
       cases hq : memN t (catN X W) with
       | false => rfl
       | true =>
         rw [memN_mem, catN_eq] at hq
         rcases List.mem_append.1 hq with hq | hq
         ·rw [memN_mem.2 hq] at hx; cases hx
         ·rw [memN_mem.2 hq] at hm; cases hm
      rw [this, if_neg (by simp), hsl.1, okV_den (okb hr).1 (okb hr).2 hsl.2]
 ·intro e he
  obtain ⟨e1, hm, hid, _⟩ := old he
  rw [hb, ← hid]
  exact hh.base e1 hm
 ·intro ρ'' hr e he
  obtain ⟨e1, hm, hid, hty, hd⟩ := old he
  rw [hd ρ'' hr, hb, ← hid, ← hty]
  exact hh.block ρ (Agr.refl _ _ _) e1 hm
 ·intro e he e' he' heq
  obtain ⟨e1, hm, hid, _⟩ := old he
  obtain ⟨e1', hm', hid', _⟩ := old he'
  rw [hb, hb, ← hid, ← hid'] at heq
  have h1 := hh.inj e1 hm e1' hm' heq
  rw [hid, hid'] at h1
  obtain ⟨e2, he2, h2⟩ := mem_idsE.1 (show e.id ∈ idsE s.heap from by rw [← hvH_ids (U := unOf ren rb s1 ρ) HB s.heap, mem_idsE]; exact ⟨e, he, rfl⟩)
  obtain ⟨e2', he2', h2'⟩ := mem_idsE.1 (show e'.id ∈ idsE s.heap from by rw [← hvH_ids (U := unOf ren rb s1 ρ) HB s.heap, mem_idsE]; exact ⟨e', he', rfl⟩)
  rw [← h2, ← h2'] at h1 ⊢
  exact onceH_mem b3 e2' he2' e2 he2 h1
 ·intro g hg
  obtain ⟨f1, h1, h2, _⟩ := like g hg
  exact h2.holds (hh.facts f1 (hm1 h1))
 ·intro g hg e x hc
  obtain ⟨f1, h1, h2, _⟩ := like g hg
  rcases h2.c with hcc | ⟨e', x', x'', hg', hf', _⟩ | ⟨_, _, _, _, hg', _⟩
  ·exact hh.pos f1 (hm1 h1) e x (by rw [← hcc, hc])
  ·rw [hg'] at hc
   cases hc
   exact hh.pos f1 (hm1 h1) _ x'' hf'
  ·rw [hg'] at hc; cases hc
 ·intro e he g hg
  obtain ⟨e1, hm, hid, _⟩ := old he
  obtain ⟨f1, h1, h2, _⟩ := like g hg
  rw [h2.foot, hb, ← hid]
  exact hh.apart e1 hm f1 (hm1 h1)
 ·refine hvG_pair (ren := ren) r3 ?_
  intro f hfm f' hfm' hd hd' hne g g' hg hg' e e' k
  obtain ⟨f1, h1, h2, _⟩ := like g hg
  obtain ⟨f1', h1', h2', _⟩ := like g' hg'
  rcases hne with hne | ⟨sf, sf'⟩
  rotate_left
  ·have none : ∀ {f g : FE}, f ∈ s.ents → g ∈ hvG (unOf ren rb s1 ρ) HF s.ents → g.id = f.id → f.c ≠ .dead → shF f = true → ¬ g.excl ρ' k := by
     intro f g hfm hg e hd sf hx
     obtain ⟨f2, hfm2, hd2, hid, ho, _, _, hc⟩ := hvG_mem hg
     have hff : f2 = f := by
      by_cases hff : f2 = f
      ·exact hff
      ·exfalso
       exact onceG_ids r3 hfm2 hfm hd2 hd hff (by rw [← hid, e])
     subst hff
     unfold shF at sf
     simp only [Bool.and_eq_true, Bool.not_eq_true'] at sf
     have hrow : ∃ e x, f2.c = .rows e x := by
      cases hc2 : f2.c with
      | rows e x => exact ⟨e, x, rfl⟩
      | dead => rw [hc2] at sf; cases sf.2
      | codes T => rw [hc2] at sf; cases sf.2
     obtain ⟨e1, x1, hc2⟩ := hrow
     have hgr : ∃ e x, g.c = .rows e x := by
      rcases hc with ⟨hc, _⟩ | ⟨e, x, _, _, hc⟩ | ⟨_, _, _, hc, _⟩
      ·exact ⟨e1, x1, hc.trans hc2⟩
      ·exact ⟨e, _, hc⟩
      ·rw [hc2] at hc; cases hc
     obtain ⟨e3, x3, hc3⟩ := hgr
     unfold FE.excl at hx
     rw [hc3, ho, sf.1] at hx
     cases hx.1
   exact ⟨fun hk => absurd hk (none hfm hg e hd sf), fun hk => absurd hk (none hfm' hg' e' hd' sf')⟩
  rw [h2.excl, h2'.foot, h2'.excl, h2.foot]
  have hnn : f1 ≠ f1' := fun e0 => hne (by rw [← e, ← e', ← (findE_mem h1).2, ← (findE_mem h1').2, e0])
  refine ⟨fun hk => ?_, fun hk => ?_⟩
  ·rcases hh.sep (hm1 h1') f1 (hm1 h1) k hk with h | h
   ·exact h
   ·exact absurd h hnn
  ·rcases hh.sep (hm1 h1) f1' (hm1 h1') k hk with h | h
   ·exact h
   ·exact absurd h.symm hnn
 ·intro g hg k hk
  obtain ⟨f1, h1, h2, _⟩ := like g hg
  rw [h2.excl] at hk
  exact hh.exB f1 (hm1 h1) k hk
 ·intro g hg k hk
  obtain ⟨f1, h1, h2, hal, _⟩ := like g hg
  rw [h2.foot] at hk
  rcases hh.al f1 (hm1 h1) k hk with h | ⟨j, hj, h⟩
  ·exact .inl h
  ·exact .inr ⟨j, hal j hj, h⟩
 ·intro i hi
  have hre : renA ren i = i := renA_id fun p hp e0 => by
   obtain ⟨q1, q2⟩ := renLo_mem r1 p hp
   rw [hlo, hhi] at hi
   omega
  have hrb : renA rb i = i := renA_id fun p hp e0 => by
   obtain ⟨q1, q2⟩ := renLo_mem b1 p hp
   rw [hlo, hhi] at hi
   omega
  rw [hb, hs, hre, hrb]
  exact hh.anc i hi
end hv
def dstsO : List Oper → List Nat
 | [] => []
 | o :: l => match o.dst with
   | some d => d :: dstsO l
   | none => dstsO l
def rangeN (a : Nat) : Nat → List Nat
 | 0 => []
 | n + 1 => a :: rangeN (a + 1) n
def wrC : Code → List Nat
 | .region _ ops _ => dstsO ops.toList
 | .seq a b => catN (wrC a) (wrC b)
 | .cond _ a b => catN (wrC a) (wrC b)
 | .block _ c => wrC c
 | .loop c => wrC c
 | .scope c => wrC c
 | _ => []
structure AtZ (v : SV) (n : Int) : Prop where
 eq : atI v = n
structure AtB (v : SV) (n : Bool) : Prop where
 eq : atB v = n
structure AtT (v : SV) (n : ByteArray) : Prop where
 eq : atT v = n
structure AtY (f : Option FE) (e : Shp) (xs : List e.D) : Prop where
 eq : atY f e = xs
structure AtU (ren rb : List (Nat × Nat)) (s : St) (z : Nat → Int) (b : Nat → Bool) (t : Nat → ByteArray) (y : Nat → (e : Shp) → List e.D) : Prop where
 z : ∀ k, AtZ (atR rb s k) (z k)
 b : ∀ k, AtB (atR rb s k) (b k)
 t : ∀ k, AtT (atR rb s k) (t k)
 y : ∀ i e, AtY (findE s.ents (renA ren i)) e (y i e)
theorem unOf_at (ren rb : List (Nat × Nat)) (s : St) (ρ : Nm) : AtU ren rb s (unOf ren rb s ρ).z (unOf ren rb s ρ).b (unOf ren rb s ρ).t (unOf ren rb s ρ).y := ⟨fun _ => ⟨rfl⟩, fun _ => ⟨rfl⟩, fun _ => ⟨rfl⟩, fun _ _ => ⟨rfl⟩⟩
def putV (s : St) (k : Nat) (v : SV) : St := match nBlt k 4096 with
 | true => ⟨Fr.set v 12 s.fr k, s.n, s.heap, s.ents, s.next⟩
 | false => match cellsE s.heap ((k - 4096) / 64) with
   | some cs => ⟨s.fr, s.n, setE s.heap ((k - 4096) / 64) (setL cs ((k - 4096) % 64) v), s.ents, s.next⟩
   | none => s
def alN (n : Nat) : List Nat := match nBeq (n / 10000 % 100) 90 with
 | true => []
 | false => match nBeq (n / 10000 % 100) 91 with
   | true => [0]
   | false => match nBeq (n / 10000 % 100) 92 with
     | true => [1]
     | false => match nBeq (n / 10000 % 100) 93 with
       | true => [2]
       | false => match nBeq (n / 10000 % 100) 94 with
         | true => [0, 1]
         | false => match nBeq (n / 10000 % 100) 95 with
           | true => [1, 2]
           | false => match nBeq (n / 10000 % 100) 96 with
             | true => [0, 1, 2, 3]
             | false => []
def nameE (n : Nat) (te : TypeId) (e : Shp) (G : List FE) : SV → List FE
 | .fv id => match findE G id with
   | some f => match f.own with
     | true => ⟨n, true, f.t, f.al, f.c⟩ :: replE G (deadE f)
     | false => ⟨n, false, 0, f.al, f.c⟩ :: G
   | none => G
 | _ => ⟨n, true, te, alN n, .rows e (fun _ => [])⟩ :: G
def nil1 (S : TypeId → Option Shp) (t n : Nat) (te : TypeId) (e : Shp) (s : St) : St := match atS s t with
 | .osl b _ m _ => match litE S s.heap s.ents n b m with
   | some (_, G) => ⟨Fr.set (.fv n) 12 s.fr t, s.n, lessE s.heap [b], G, match nBlt s.next (n + 1) with | true => n + 1 | false => s.next⟩
   | none => s
 | v => putV ⟨s.fr, s.n, s.heap, nameE n te e s.ents v, match nBlt s.next (n + 1) with | true => n + 1 | false => s.next⟩ t (.fv n)
def nilSt (S : TypeId → Option Shp) : List (Nat × Nat × TypeId × Shp) → St → St
 | [], s => s
 | (t, n, te, e) :: l, s => nilSt S l (nil1 S t n te e s)
def isNilV : SV → Bool
 | .val (.slice none 0 0) => true
 | _ => false
def isRowsC : Ct → Bool
 | .rows _ _ => true
 | _ => false
def isLitV (S : TypeId → Option Shp) (H : List Ent) (G : List FE) (n t : Nat) : SV → Bool
 | .osl b 0 m cap => nBlt t 4096 && nBeq m cap && (match litE S H G n b m with
   | some ([], _) => true
   | _ => false)
 | .fv id => (match findE G id with
   | some f => isRowsC f.c
   | none => false)
 | v => isNilV v
def slotOk (s : St) (t : Nat) : Bool := match nBlt t 4096 with
 | true => nBlt t s.n
 | false => onceE s.heap
def nilOk (S : TypeId → Option Shp) (lo hi : Nat) : List (Nat × Nat × TypeId × Shp) → St → Bool
 | [], _ => true
 | (t, n, te, e) :: l, s => slotOk s t && isLitV S s.heap s.ents n t (atS s t) && nBlt 0 e.size && fresh lo hi n s.heap s.ents && nilOk S lo hi l (nil1 S t n te e s)
theorem dens_setC (ρ : Nm) {v : SV} : ∀ (l : List SV) (k : Nat), (k < l.length → v.den ρ = (getC l k).den ρ) → SV.dens ρ (setL l k v) = SV.dens ρ l
 | [], _, _ => by simp [setL]
 | x :: l, 0, h => by simp only [setL, SV.dens, h (by simp), getC]
 | x :: l, n + 1, h => by
   simp only [setL, SV.dens]
   rw [dens_setC ρ l n fun hl => by have := h (by simpa using hl); simpa [getC] using this]
theorem Hp.set0 {E : Env} {ρ : Nm} {H : List Ent} {G : List FE} {w : World} (h : Hp E ρ H G w) {e : Ent} (he : e ∈ H) (ho : onceE H = true) (cells : List SV)
    (hn : ∀ ρ', Agr ρ ρ' H G → SV.dens ρ' cells = SV.dens ρ' e.cells) :
    Hp E ρ (setE H e.id cells) G w ∧ ∀ ρ'', Agr ρ ρ'' (setE H e.id cells) G → Agr ρ ρ'' H G := by
 have hE : (⟨fun _ => True, E.B, E.may, E.z0, E.lo, E.hi, E.ρ0, E.df⟩ : Env).ok := ⟨fun _ _ _ _ => trivial⟩
 have h' : Hp ⟨fun _ => True, E.B, E.may, E.z0, E.lo, E.hi, E.ρ0, E.df⟩ ρ H G w := ⟨trivial, h.size, h.base, h.block, h.inj, h.facts, h.pos, h.apart, h.alone, h.exB, h.al, h.anc⟩
 obtain ⟨k1, k2⟩ := h'.set hE he ho cells (w' := w) (fun _ _ => rfl) (Below.refl _ _) (fun ρ' hr => by rw [hn ρ' hr]; exact h.block ρ' hr e he)
 exact ⟨⟨h.keep, k1.size, k1.base, k1.block, k1.inj, k1.facts, k1.pos, k1.apart, k1.alone, k1.exB, k1.al, k1.anc⟩, k2⟩
theorem cellsE_mem {b : Nat} {cs : List SV} : ∀ {l : List Ent}, cellsE l b = some cs → ∃ e ∈ l, e.id = b ∧ e.cells = cs
 | [], h => by cases h
 | x :: l, h => by
   unfold cellsE at h
   split at h
   ·rename_i hb
    cases h
    exact ⟨x, List.mem_cons_self, nBeq_eq hb, rfl⟩
   ·obtain ⟨e, h1, h2⟩ := cellsE_mem h
    exact ⟨e, List.mem_cons_of_mem _ h1, h2⟩
theorem putV_fit {E : Env} {ρ : Nm} {s : St} {a : Act} {w : World} {k : Nat} {v : SV} (hf : Fit E ρ s a w) (hs : slotOk s k = true) (hv : ∀ ρ', Agr ρ ρ' s.heap s.ents → v.den ρ' = (atS s k).den ρ') : Fit E ρ (putV s k v) a w := by
 have hlim := hf.lim
 unfold slotOk at hs
 unfold putV
 unfold atS at hv
 cases hb : nBlt k 4096 with
 | true =>
   rw [hb] at hs hv
   simp only [nBlt_iff] at hs hv ⊢
   refine ⟨hf.len, hf.lim, fun ρ' hr q hq => ?_, hf.defers, hf.hp⟩
   show a.tmps[q]? = some (((Fr.set v 12 s.fr k).get q).den ρ')
   rw [Fr.get_set _ 12 s.fr k q (by omega), hf.tmps ρ' hr q hq]
   by_cases hqt : q = k
   ·subst hqt
    rw [if_pos rfl, hv ρ' hr]
   ·rw [if_neg hqt]
 | false =>
   rw [hb] at hs hv
   simp only [] at hs hv ⊢
   cases hc : cellsE s.heap ((k - 4096) / 64) with
   | none => exact hf
   | some cs =>
     rw [hc] at hv
     simp only [] at hv ⊢
     obtain ⟨e, he, hid, hcs⟩ := cellsE_mem hc
     obtain ⟨k1, k2⟩ := hf.hp.set0 he hs (setL cs ((k - 4096) % 64) v) fun ρ' hr => by
      rw [hcs]
      exact dens_setC ρ' cs _ fun _ => hv ρ' hr
     rw [hid] at k1 k2
     exact ⟨hf.len, hf.lim, fun ρ' hr q hq => hf.tmps ρ' (k2 ρ' hr) q hq, hf.defers, k1⟩
theorem Fit.ents {E : Env} {ρ ρ1 : Nm} {s : St} {a : Act} {w : World} {G : List FE} (nx : Nat) (hf : Fit E ρ s a w) (hp : Hp E ρ1 s.heap G w) (hr : ∀ ρ'', Agr ρ1 ρ'' s.heap G → Agr ρ ρ'' s.heap s.ents) : Fit E ρ1 ⟨s.fr, s.n, s.heap, G, nx⟩ a w :=
 ⟨hf.len, hf.lim, fun ρ'' hg => hf.tmps ρ'' (hr ρ'' hg), hf.defers, hp⟩
theorem name_sound {E : Env} {ρ : Nm} {H : List Ent} {G : List FE} {w : World} {S : TypeId → Option Shp} {n t : Nat} {te : TypeId} {e : Shp} {v : SV} (h2 : isLitV S H G n t v = true) (hno : ∀ b o m cap, v ≠ .osl b o m cap) (h3 : 0 < e.size) (hfr : Fresh E n H G) (hh : Hp E ρ H G w) :
    ∃ ρ1, Hp E ρ1 H (nameE n te e G v) w ∧ ∀ ρ'', Agr ρ1 ρ'' H (nameE n te e G v) → Agr ρ ρ'' H G ∧ (SV.fv n).den ρ'' = v.den ρ'' := by
 have nilCase : (∀ ρ'' : Nm, v.den ρ'' = .slice none 0 0) → nameE n te e G v = ⟨n, true, te, alN n, .rows e (fun _ => [])⟩ :: G → ∃ ρ1, Hp E ρ1 H (nameE n te e G v) w ∧ ∀ ρ'', Agr ρ1 ρ'' H (nameE n te e G v) → Agr ρ ρ'' H G ∧ (SV.fv n).den ρ'' = v.den ρ'' := by
  intro hnv hq
  rw [hq]
  have top0 : ∀ k, ¬ (⟨n, true, te, alN n, .rows e (fun _ => [])⟩ : FE).top (ρ.setS n ⟨none, 0, 0⟩ (fun _ => False)) k := by
   rintro k ⟨x, hx, _⟩
   simp [Nm.setS] at hx
  have foot0 : ∀ k, ¬ (⟨n, true, te, alN n, .rows e (fun _ => [])⟩ : FE).foot (ρ.setS n ⟨none, 0, 0⟩ (fun _ => False)) k := by
   intro k hk
   unfold FE.foot at hk
   rcases hk with hk | ⟨_, hk⟩
   ·simp [Nm.setS] at hk
   ·exact top0 k hk
  obtain ⟨k1, k2⟩ := hh.add ⟨n, true, te, alN n, .rows e (fun _ => [])⟩ hfr ⟨none, 0, 0⟩ (fun _ => False) (fun T => by simp) (by
   unfold FE.holds
   simp only [Nm.setS, if_true]
   exact ⟨fun k hk => hk.elim, ⟨rfl, by simp, by simp, by simp⟩, ⟨[], World.ownsRow_nil w 0 te e.size, fun i hi => by simp at hi⟩, fun x hx => by simp at hx⟩) (fun e' x' he => by cases he; exact h3) (fun e' he hk => foot0 _ hk) (fun g hg k => ⟨fun hk => absurd (FE.excl_foot hk) (foot0 k), fun _ hk => foot0 k hk⟩) (fun k hk => absurd (FE.excl_foot hk) (foot0 k)) (fun k hk => absurd hk (foot0 k))
  refine ⟨_, k1, fun ρ'' hr => ?_⟩
  obtain ⟨q1, q2⟩ := k2 ρ'' hr
  refine ⟨q1, ?_⟩
  rw [hnv]
  simp only [SV.den]
  rw [show ρ''.s n = ⟨none, 0, 0⟩ from q2]
  rfl
 unfold isLitV at h2
 split at h2
 ·exact absurd rfl (hno _ _ _ _)
 ·rename_i id
  split at h2
  ·rename_i f hf
   obtain ⟨hm, hid⟩ := findE_mem hf
   obtain ⟨e', x, hc⟩ : ∃ e' x, f.c = .rows e' x := by
    unfold isRowsC at h2
    split at h2
    ·rename_i e' x hc; exact ⟨e', x, hc⟩
    ·cases h2
   have hpos := hh.pos f hm e' x hc
   cases hown : f.own with
   | true =>
     have hq : nameE n te e G (.fv id) = ⟨n, true, f.t, f.al, f.c⟩ :: replE G (deadE f) := by simp only [nameE, hf, hown]
     rw [hq]
     obtain ⟨d1, d2⟩ := repl_dead hh hf
     have ids : ∀ g ∈ replE G (deadE f), g.id ≠ n ∧ noN n g.c = true := fun g hg => by
      rcases mem_replE hg with rfl | hg
      ·exact ⟨hfr.G f hm, rfl⟩
      ·exact hfr.g2 g hg
     have hfo : ∀ k, (⟨n, true, f.t, f.al, f.c⟩ : FE).foot (ρ.setS n (ρ.s f.id) (ρ.z f.id)) k → f.foot ρ k := by
      intro k hk
      unfold FE.foot FE.top at hk ⊢
      rw [hc] at hk ⊢
      simp only [Nm.setS, if_true, hown, true_or, true_and] at hk ⊢
      exact hk
     have hex : ∀ k, (⟨n, true, f.t, f.al, f.c⟩ : FE).excl (ρ.setS n (ρ.s f.id) (ρ.z f.id)) k → f.excl ρ k := by
      intro k hk
      unfold FE.excl FE.top at hk ⊢
      rw [hc] at hk ⊢
      simp only [Nm.setS, if_true, hown, true_and] at hk ⊢
      exact hk
     obtain ⟨k1, k2⟩ := d1.add ⟨n, true, f.t, f.al, f.c⟩ (hfr.to ids) (ρ.s f.id) (ρ.z f.id) (fun T h => by rw [hc] at h; cases h) (by
      have := hh.facts f hm
      unfold FE.holds at this ⊢
      rw [hc] at this ⊢
      simp only [Nm.setS, if_true, hown] at this ⊢
      exact this) (fun e2 x2 h => hh.pos f hm e2 x2 h) (fun e2 he2 hk => hh.apart e2 he2 f hm (hfo _ hk)) (fun g hg k => by
      by_cases hx : ∃ k, f.excl ρ k
      ·obtain ⟨k0, hx0⟩ := hx
       rcases mem_replE_ne hx0 hh.alone (by rw [show (deadE f).id = f.id from rfl, hid]; exact hf) hg with rfl | ⟨hg, hne⟩
       ·exact ⟨fun _ => dead_foot rfl ρ k, fun hk => absurd (FE.excl_foot hk) (dead_foot rfl ρ k)⟩
       ·refine ⟨fun hk hk2 => ?_, fun hk hk2 => ?_⟩
        ·rcases hh.sep hg f hm k (hex k hk) with h | h
         ·exact h hk2
         ·exact hne h.symm
        ·rcases hh.sep hm g hg k hk with h | h
         ·exact h (hfo k hk2)
         ·exact hne h
      ·refine ⟨fun hk => absurd ⟨k, hex k hk⟩ hx, fun hk hk2 => ?_⟩
       rcases mem_replE hg with rfl | hg
       ·exact dead_foot rfl ρ k (FE.excl_foot hk)
       ·rcases hh.sep hm g hg k hk with h | h
        ·exact h (hfo k hk2)
        ·subst h; exact hx ⟨k, hk⟩) (fun k hk => hh.exB f hm k (hex k hk)) (fun k hk => hh.al f hm k (hfo k hk))
     refine ⟨_, k1, fun ρ'' hr => ?_⟩
     obtain ⟨q1, q2⟩ := k2 ρ'' hr
     have q3 := d2 ρ'' q1
     refine ⟨q3, ?_⟩
     simp only [SV.den]
     rw [show ρ''.s n = ρ.s f.id from q2, ← hid, (q3.2 f hm).2]
   | false =>
     have hq : nameE n te e G (.fv id) = ⟨n, false, 0, f.al, f.c⟩ :: G := by simp only [nameE, hf, hown]
     rw [hq]
     have hz := hh.zok hm hc (hh.sep hm)
     rw [hown] at hz
     obtain ⟨k1, k2, k3⟩ := hh.share (f := ⟨n, false, 0, f.al, f.c⟩) hfr rfl hc hpos hz (FE.reads (hh.facts f hm) hc)
     refine ⟨_, k1, fun ρ'' hr => ?_⟩
     obtain ⟨q1, q2⟩ := k2 ρ'' hr
     refine ⟨q1, ?_⟩
     simp only [SV.den]
     rw [show ρ''.s n = ρ.s f.id from q2, ← hid, (q1.2 f hm).2]
  ·cases h2
 ·rename_i v' h1 h1'
  refine nilCase ?_ ?_
  ·unfold isNilV at h2
   split at h2
   ·intro ρ''; simp only [SV.den]
   ·cases h2
  ·unfold isNilV at h2
   split at h2
   ·rfl
   ·cases h2
theorem nil1_fit {S : TypeId → Option Shp} {E : Env} {a : Act} {w : World} {t n : Nat} {te : TypeId} {e : Shp} {s : St} {ρ : Nm} (h1 : slotOk s t = true) (h2 : isLitV S s.heap s.ents n t (atS s t) = true) (h3 : 0 < e.size) (hfr : Fresh E n s.heap s.ents) (hf : Fit E ρ s a w) : ∃ ρ', Fit E ρ' (nil1 S t n te e s) a w := by
 have hlim := hf.lim
 by_cases ho : ∃ b o m cap, atS s t = .osl b o m cap
 ·obtain ⟨b, o, m, cap, hv⟩ := ho
  rw [hv] at h2
  unfold isLitV at h2
  split at h2
  ·rename_i b' m' cap' hq
   cases hq
   simp only [Bool.and_eq_true] at h2
   obtain ⟨⟨ht, hmc⟩, h2⟩ := h2
   have hmc := nBeq_eq hmc
   subst hmc
   have hsl : s.fr.get t = .osl b 0 m m := by
    unfold atS at hv
    rw [ht] at hv
    exact hv
   have h1 : t < s.n := by
    unfold slotOk at h1
    rw [ht] at h1
    simpa [nBlt_iff] using h1
   split at h2
   ·rename_i G hl
    obtain ⟨ρ', k1, k2, _⟩ := lit_sound hf.hp hl (fun p hp => by cases hp) hfr
    unfold nil1
    rw [hv]
    simp only [hl]
    refine ⟨ρ', hf.len, hf.lim, fun ρ'' hr q hq => ?_, hf.defers, k1⟩
    obtain ⟨q1, q2⟩ := k2 ρ'' hr
    show a.tmps[q]? = some (((Fr.set (.fv n) 12 s.fr t).get q).den ρ'')
    rw [Fr.get_set _ 12 s.fr t q (by omega), hf.tmps ρ'' q1 q hq]
    by_cases hqt : q = t
    ·subst hqt
     rw [if_pos rfl, hsl, q2]
     have := hf.tmps ρ (Agr.refl _ _ _) q hq
     rw [hf.tmps ρ'' q1 q hq, hsl] at this
     exact this
    ·rw [if_neg hqt]
   ·cases h2
  ·rename_i hq
   cases hq
  ·simp [isNilV] at h2
 ·have hno : ∀ b o m cap, atS s t ≠ .osl b o m cap := fun b o m cap h => ho ⟨b, o, m, cap, h⟩
  obtain ⟨ρ1, k1, k2⟩ := name_sound (te := te) h2 hno h3 hfr hf.hp
  have hnil : nil1 S t n te e s = putV ⟨s.fr, s.n, s.heap, nameE n te e s.ents (atS s t), match nBlt s.next (n + 1) with | true => n + 1 | false => s.next⟩ t (.fv n) := by
   unfold nil1
   split
   ·rename_i b o m cap hv
    exact absurd hv (hno _ _ _ _)
   ·rfl
  rw [hnil]
  refine ⟨ρ1, putV_fit (hf.ents _ k1 fun ρ'' hr => (k2 ρ'' hr).1) ?_ fun ρ'' hr => (k2 ρ'' hr).2⟩
  exact h1
theorem nil_fit {S : TypeId → Option Shp} {E : Env} {lo hi : Nat} (hlo : E.lo = lo) (hhi : E.hi = hi) {a : Act} {w : World} : ∀ (l : List (Nat × Nat × TypeId × Shp)) (s : St) (ρ : Nm), nilOk S lo hi l s = true → Fit E ρ s a w → ∃ ρ', Fit E ρ' (nilSt S l s) a w
 | [], s, ρ, _, hf => ⟨ρ, hf⟩
 | (t, n, te, e) :: l, s, ρ, h, hf => by
   simp only [nilOk, Bool.and_eq_true, nBlt_iff] at h
   obtain ⟨⟨⟨⟨h1, h2⟩, h3⟩, h4⟩, h5⟩ := h
   obtain ⟨ρ1, hf1⟩ := nil1_fit (te := te) h1 h2 h3 (fresh_spec h4 hlo hhi) hf
   exact nil_fit hlo hhi l _ ρ1 h5 hf1
theorem loop_hv0 {C : Cx} {body : Code} {s : St} {K : Exit → St → Prop} (N : List (Nat × Nat × TypeId × Shp)) (X HB HF : List Nat) (P : (Nat → Int) → (Nat → Bool) → (Nat → ByteArray) → (Nat → (e : Shp) → List e.D) → Prop) (m : (Nat → Int) → (Nat → Bool) → (Nat → ByteArray) → (Nat → (e : Shp) → List e.D) → Nat)
    (hN : nilOk C.shp C.lo C.hi N s = true) (hW : allLt (nilSt C.shp N s).n (catW X (wrC body)) = true) (h0 : EndOk C.lo C.hi X (wrC body) HB HF [] [] (nilSt C.shp N s) (nilSt C.shp N s)) (hP : ∀ z b t y, AtU [] [] (nilSt C.shp N s) z b t y → P z b t y)
    (hb : ∀ z b t u y (R : St → Prop), P z b t y → (∀ s1, EndOk C.lo C.hi X (wrC body) HB HF (renOf X (wrC body) HB (nilSt C.shp N s) s1) (rbOf X (wrC body) (nilSt C.shp N s) s1) (nilSt C.shp N s) s1 → (∀ z' b' t' y', AtU (renOf X (wrC body) HB (nilSt C.shp N s) s1) (rbOf X (wrC body) (nilSt C.shp N s) s1) s1 z' b' t' y' → P z' b' t' y' ∧ m z' b' t' y' < m z b t y) → Goes C.lo C.hi s1 R) →
     vc C body (hv ⟨z, b, t, u, y⟩ X (wrC body) HB HF (nilSt C.shp N s)) (seqK (fun s1 => Goes C.lo C.hi s1 R) K)) :
    UnrI C.lo C.hi (fun s K => vc C body s K) K s := by
 refine ⟨fun n s' => ∃ z b t u y, s' = hv ⟨z, b, t, u, y⟩ X (wrC body) HB HF (nilSt C.shp N s) ∧ P z b t y ∧ m z b t y = n, ⟨?_⟩, ?_⟩
 ·intro E ρ a w e1 e2 hf
  obtain ⟨ρ1, hf1⟩ := nil_fit e1 e2 N s ρ hN hf
  obtain ⟨ρ2, hf2⟩ := endOk_fit e1 e2 hW h0 hf1
  exact ⟨_, ρ2, hf2, _, _, _, _, _, _, rfl, hP _ _ _ _ (unOf_at _ _ _ ρ1), rfl⟩
 ·rintro n s' ⟨z, b, t, u, y, rfl, hp, rfl⟩
  refine hb z b t u y _ hp fun s1 he h1 => ⟨fun E ρ a w e1 e2 hf => ?_⟩
  obtain ⟨h1, h2⟩ := h1 _ _ _ _ (unOf_at _ _ _ ρ)
  obtain ⟨ρ2, hf2⟩ := endOk_fit e1 e2 hW he hf
  exact ⟨_, ρ2, hf2, _, h2, _, _, _, _, _, rfl, h1, rfl⟩
theorem loop_hvZ {C : Cx} {lo hi : Nat} {body : Code} {s : St} {K : Exit → St → Prop} (N : List (Nat × Nat × TypeId × Shp)) (X HB HF : List Nat) (P : (Nat → Int) → (Nat → Bool) → (Nat → ByteArray) → (Nat → (e : Shp) → List e.D) → Prop) (m : (Nat → Int) → (Nat → Bool) → (Nat → ByteArray) → (Nat → (e : Shp) → List e.D) → Nat) (e1 : C.lo = lo) (e2 : C.hi = hi)
    (hN : nilOk C.shp C.lo C.hi N s = true) (hW : allLt (nilSt C.shp N s).n (catW X (wrC body)) = true) (h0 : EndOk C.lo C.hi X (wrC body) HB HF [] [] (nilSt C.shp N s) (nilSt C.shp N s)) (hP : ∀ z b t y, AtU [] [] (nilSt C.shp N s) z b t y → P z b t y)
    (hb : ∀ z b t u y (R : St → Prop), P z b t y → (∀ s1, EndOk C.lo C.hi X (wrC body) HB HF (renOf X (wrC body) HB (nilSt C.shp N s) s1) (rbOf X (wrC body) (nilSt C.shp N s) s1) (nilSt C.shp N s) s1 → (∀ z' b' t' y', AtU (renOf X (wrC body) HB (nilSt C.shp N s) s1) (rbOf X (wrC body) (nilSt C.shp N s) s1) s1 z' b' t' y' → P z' b' t' y' ∧ m z' b' t' y' < m z b t y) → Goes C.lo C.hi s1 R) →
     vc C body (hv ⟨z, b, t, u, y⟩ X (wrC body) HB HF (nilSt C.shp N s)) (seqK (fun s1 => Goes C.lo C.hi s1 R) K)) :
    UnrI lo hi (fun s K => vc C body s K) K s := by
 subst e1
 subst e2
 exact loop_hv0 N X HB HF P m hN hW h0 hP hb
theorem loop_hv {C : Cx} {body : Code} {s : St} {K : Exit → St → Prop} (N : List (Nat × Nat × TypeId × Shp)) (X HB HF : List Nat) (P : (Nat → Int) → (Nat → Bool) → (Nat → ByteArray) → (Nat → (e : Shp) → List e.D) → Prop) (m : (Nat → Int) → (Nat → Bool) → (Nat → ByteArray) → (Nat → (e : Shp) → List e.D) → Nat)
    (hN : nilOk C.shp C.lo C.hi N s = true) (hW : allLt (nilSt C.shp N s).n (catW X (wrC body)) = true) (h0 : EndOk C.lo C.hi X (wrC body) HB HF [] [] (nilSt C.shp N s) (nilSt C.shp N s)) (hP : ∀ z b t y, AtU [] [] (nilSt C.shp N s) z b t y → P z b t y)
    (hb : ∀ z b t u y (R : St → Prop), P z b t y → (∀ s1, EndOk C.lo C.hi X (wrC body) HB HF (renOf X (wrC body) HB (nilSt C.shp N s) s1) (rbOf X (wrC body) (nilSt C.shp N s) s1) (nilSt C.shp N s) s1 → (∀ z' b' t' y', AtU (renOf X (wrC body) HB (nilSt C.shp N s) s1) (rbOf X (wrC body) (nilSt C.shp N s) s1) s1 z' b' t' y' → P z' b' t' y' ∧ m z' b' t' y' < m z b t y) → Goes C.lo C.hi s1 R) →
     vc C body (hv ⟨z, b, t, u, y⟩ X (wrC body) HB HF (nilSt C.shp N s)) (seqK (fun s1 => Goes C.lo C.hi s1 R) K)) :
    ∃ k, unr C.lo C.hi (fun s K => vc C body s K) K k s := ⟨0, loop_hv0 N X HB HF P m hN hW h0 hP hb⟩
theorem join_hv {C : Cx} {a b : Code} {s : St} {K : Exit → St → Prop} (X W HB HF : List Nat) (P : (Nat → Int) → (Nat → Bool) → (Nat → ByteArray) → (Nat → (e : Shp) → List e.D) → Prop)
    (hW : allLt s.n (catW X W) = true)
    (h1 : ∀ R : St → Prop, (∀ s1, EndOk C.lo C.hi X W HB HF (renOf X W HB s s1) (rbOf X W s s1) s s1 → (∀ z b t y, AtU (renOf X W HB s s1) (rbOf X W s s1) s1 z b t y → P z b t y) → Goes C.lo C.hi s1 R) → vc C a s (seqK (fun s1 => Goes C.lo C.hi s1 R) K))
    (h2 : ∀ z b' t u y, P z b' t y → vc C b (hv ⟨z, b', t, u, y⟩ X W HB HF s) K) : JoinT (fun s K => vc C a s K) (fun s K => vc C b s K) C.lo C.hi s K (fun K => dpC C a s K) := by
 refine ⟨.inr <| .inl ⟨fun s' => ∃ z b t u y, s' = hv ⟨z, b, t, u, y⟩ X W HB HF s ∧ P z b t y, h1 _ fun s1 he hp => ⟨fun E ρ a w e1 e2 hf => ?_⟩, ?_⟩⟩
 ·have := hp _ _ _ _ (unOf_at _ _ _ ρ)
  obtain ⟨ρ2, hf2⟩ := endOk_fit e1 e2 hW he hf
  exact ⟨_, ρ2, hf2, _, _, _, _, _, rfl, this⟩
 ·rintro s' ⟨z, b, t, u, y, rfl, hp⟩
  exact h2 z b t u y hp
end
end Go.Proofs.YtkifmppmfkpfbaaGreat.V
