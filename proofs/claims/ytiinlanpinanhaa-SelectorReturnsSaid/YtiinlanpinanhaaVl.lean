/- The walker: loops. What a loop writes is taken as unknown, but for a relation. -/
import Derived.Test.YtiinlanpinanhaaVm
set_option linter.unusedVariables false
set_option linter.unusedSimpArgs false
namespace Go.Proofs.Ytiinlanpinanhaa.V
open Go.RowKit

/-- What is unknown at a loop's head: numbers, truth values, texts and other values at a slot k (or in cell c of block i: 4096 + i * 64 + c), and the data of the slice named i. -/
structure Un where
  z : Nat → Int
  b : Nat → Bool
  t : Nat → ByteArray
  u : Nat → Value
  y : Nat → (e : Shp) → List e.D
/-- The names that a value mentions: blocks of one's own, slices. -/
def okV (ib is_ : List Nat) : SV → Bool
  | .ptr b _ => memN b ib
  | .osl b _ _ _ => memN b ib
  | .ep b _ _ _ _ => memN b ib
  | .fv b => memN b is_
  | .fp b _ _ _ => memN b is_
  | .agg cs => okVs cs
  | .tup cs => okVs cs
  | _ => true
where okVs : List SV → Bool
  | [] => true
  | c :: cs => okV ib is_ c && okVs cs
mutual
theorem okV_den {ib is_ : List Nat} {ρ ρ' : Nm} (hr : ∀ i ∈ ib, ρ'.b i = ρ.b i) (hs : ∀ i ∈ is_, ρ'.s i = ρ.s i) : ∀ {v : SV}, okV ib is_ v = true → v.den ρ' = v.den ρ
  | .int _ _, _ => rfl
  | .bool _, _ => rfl
  | .str _, _ => rfl
  | .val _, _ => rfl
  | .ptr b o, h => by simp only [SV.den, hr b (memN_mem.1 h)]
  | .osl b _ _ _, h => by simp only [SV.den, hr b (memN_mem.1 h)]
  | .ep b _ _ _ _, h => by simp only [SV.den, hr b (memN_mem.1 h)]
  | .fv b, h => by simp only [SV.den, hs b (memN_mem.1 h)]
  | .fp b _ _ _, h => by simp only [SV.den, hs b (memN_mem.1 h)]
  | .agg cs, h => by simp only [SV.den, okVs_den hr hs (l := cs) h]
  | .tup cs, h => by simp only [SV.den, okVs_den hr hs (l := cs) h]
theorem okVs_den {ib is_ : List Nat} {ρ ρ' : Nm} (hr : ∀ i ∈ ib, ρ'.b i = ρ.b i) (hs : ∀ i ∈ is_, ρ'.s i = ρ.s i) : ∀ {l : List SV}, okV.okVs ib is_ l = true → SV.dens ρ' l = SV.dens ρ l
  | [], _ => rfl
  | c :: cs, h => by
    simp only [okV.okVs, Bool.and_eq_true] at h
    simp only [SV.dens, okV_den hr hs h.1, okVs_den hr hs h.2]
end
def hvC (U : Un) (k : Nat) : SV → SV
  | .int kd _ => .int kd (.x (U.z k))
  | .bool _ => .bool (.x (U.b k))
  | .str _ => .str (fun _ => U.t k)
  | .fv i => .fv i
  | _ => .val (U.u k)
def hvCs (U : Un) : Nat → List SV → List SV
  | _, [] => []
  | k, v :: l => hvC U k v :: hvCs U (k + 1) l
def hvH (U : Un) (HB : List Nat) : List Ent → List Ent
  | [] => []
  | e :: l => (match memN e.id HB with | true => ⟨e.id, e.ty, hvCs U (4096 + e.id * 64) e.cells⟩ | false => e) :: hvH U HB l
def hvG (U : Un) (HF : List Nat) : List FE → List FE
  | [] => []
  | f :: l => match f.c with
    | .dead => hvG U HF l
    | .rows e x => (match memN f.id HF with | true => ⟨f.id, f.own, f.t, f.al, .rows e (fun _ => U.y f.id e)⟩ | false => f) :: hvG U HF l
    | .codes T => f :: hvG U HF l
/-- Slots: X are forgotten, W hold something of the same kind. -/
def hvF (U : Un) (X W : List Nat) (f : Fr) : List Nat → Fr → Fr
  | [], g => g
  | t :: l, g => hvF U X W f l (Fr.set (match memN t X with | true => .val (U.u t) | false => hvC U t (f.get t)) 12 g t)
def catW (X W : List Nat) : List Nat := catN X W
def hv (U : Un) (X W HB HF : List Nat) (s : St) : St := ⟨hvF U X W s.fr (catW X W) s.fr, s.n, hvH U HB s.heap, hvG U HF s.ents, s.next⟩
def atI : SV → Int
  | .int _ e => e.den
  | _ => 0
def atB : SV → Bool
  | .bool b => b.den
  | _ => false
def atT : SV → ByteArray
  | .str f => f ()
  | .val (.string s) => s
  | _ => ByteArray.empty
def getC : List SV → Nat → SV
  | [], _ => .val undef
  | v :: _, 0 => v
  | _ :: l, n + 1 => getC l n
def atS (s : St) (k : Nat) : SV := match nBlt k 4096 with
  | true => s.fr.get k
  | false => match cellsE s.heap ((k - 4096) / 64) with
    | some cs => getC cs ((k - 4096) % 64)
    | none => .val undef
def renA (ren : List (Nat × Nat)) (i : Nat) : Nat := match ren with
  | [] => i
  | (a, b) :: l => match nBeq a i with
    | true => b
    | false => renA l i
def atY (f : Option FE) (e : Shp) : List e.D := match f with
  | some f => match f.c with
    | .rows e' x => convL e' e (x ())
    | _ => []
  | none => []
/-- What replaces what. -/
def renC (v v' : SV) : List (Nat × Nat) := match v, v' with
  | .fv i, .fv j => match nBeq i j with
    | true => []
    | false => [(i, j)]
  | _, _ => []
def catR (l m : List (Nat × Nat)) : List (Nat × Nat) := match l with
  | [] => m
  | x :: l => x :: catR l m
def renCs : List SV → List SV → List (Nat × Nat)
  | v :: l, v' :: l' => catR (renC v v') (renCs l l')
  | _, _ => []
def renF (X : List Nat) (f g : Fr) : List Nat → List (Nat × Nat)
  | [] => []
  | t :: l => match memN t X with
    | true => renF X f g l
    | false => catR (renC (f.get t) (g.get t)) (renF X f g l)
def entOf : List Ent → Nat → Option Ent
  | [], _ => none
  | x :: l, b => (match nBeq x.id b with | true => some x | false => entOf l b)
def renH (HB : List Nat) (H : List Ent) : List Ent → List (Nat × Nat)
  | [] => []
  | e :: l => match memN e.id HB, entOf H e.id with
    | true, some e' => catR (renCs e.cells e'.cells) (renH HB H l)
    | _, _ => renH HB H l
def renOf (X W HB : List Nat) (s s1 : St) : List (Nat × Nat) := catR (renF X s.fr s1.fr W) (renH HB s1.heap s.heap)
/-- The one value is of the other's kind. -/
def shC (ren : List (Nat × Nat)) : SV → SV → Bool
  | .int k _, .int k' _ => nBeq (kNat k) (kNat k')
  | .int _ _, _ => false
  | .bool _, .bool _ => true
  | .bool _, _ => false
  | .str _, .str _ => true
  | .str _, .val (.string _) => true
  | .str _, _ => false
  | .fv i, .fv j => nBeq (renA ren i) j
  | .fv _, _ => false
  | _, _ => true
def shCs (ren : List (Nat × Nat)) : List SV → List SV → Bool
  | [], [] => true
  | v :: l, v' :: l' => shC ren v v' && shCs ren l l'
  | _, _ => false
/-- A slice's name is one that stands. -/
def fvIn (L : List Nat) : SV → Bool
  | .fv i => memN i L
  | _ => true
def fvIns (L : List Nat) : List SV → Bool
  | [] => true
  | v :: l => fvIn L v && fvIns L l
theorem fvIns_mem {L : List Nat} : ∀ {l : List SV}, fvIns L l = true → ∀ i, .fv i ∈ l → i ∈ L
  | [], _, i, h => by cases h
  | v :: l, h, i, hi => by
    simp only [fvIns, Bool.and_eq_true] at h
    rcases List.mem_cons.1 hi with rfl | hi
    · exact memN_mem.1 h.1
    · exact fvIns_mem h.2 i hi
def idsL : List FE → List Nat
  | [] => []
  | f :: l => match f.c with
    | .dead => idsL l
    | _ => f.id :: idsL l
theorem mem_idsL {i : Nat} : ∀ {l : List FE}, i ∈ idsL l → ∃ f ∈ l, f.c ≠ .dead ∧ f.id = i
  | [], h => by cases h
  | f :: l, h => by
    simp only [idsL] at h
    split at h
    · obtain ⟨g, hg, h⟩ := mem_idsL h
      exact ⟨g, List.mem_cons_of_mem _ hg, h⟩
    · rename_i hc
      rcases List.mem_cons.1 h with rfl | h
      · exact ⟨f, List.mem_cons_self, hc, rfl⟩
      · obtain ⟨g, hg, h⟩ := mem_idsL h
        exact ⟨g, List.mem_cons_of_mem _ hg, h⟩
def idsE : List Ent → List Nat
  | [] => []
  | e :: l => e.id :: idsE l
theorem mem_idsE {l : List Ent} {i : Nat} : i ∈ idsE l ↔ ∃ e ∈ l, e.id = i := by
  induction l with
  | nil => simp [idsE]
  | cons x l ih => simp [idsE, ih, eq_comm]
/-- The slices' names that stay. -/
def idsK (ren : List (Nat × Nat)) : List FE → List Nat
  | [] => []
  | f :: l => match f.c with
    | .dead => idsK ren l
    | _ => match nBeq (renA ren f.id) f.id with
      | true => f.id :: idsK ren l
      | false => idsK ren l
def slotsOk (X W L ib is_ : List Nat) (ren : List (Nat × Nat)) (f g : Fr) : Nat → Prop
  | 0 => True
  | t + 1 => (match memN t X with
    | true => True
    | false => match memN t W with
      | true => (shC ren (f.get t) (g.get t) && fvIn L (f.get t)) = true
      | false => g.get t = f.get t ∧ okV ib is_ (f.get t) = true) ∧ slotsOk X W L ib is_ ren f g t
def heapOk (HB L ib is_ : List Nat) (ren : List (Nat × Nat)) (H : List Ent) : List Ent → Prop
  | [] => True
  | e :: l => (match entOf H e.id with
    | some e' => nBeq e'.ty e.ty = true ∧ (match memN e.id HB with
      | true => (shCs ren e.cells e'.cells && fvIns L e.cells && nBle (lenL e.cells) 64) = true
      | false => e'.cells = e.cells ∧ okV.okVs ib is_ e.cells = true)
    | none => False) ∧ heapOk HB L ib is_ ren H l
def subN : List Nat → List Nat → Bool
  | [], _ => true
  | x :: l, m => memN x m && subN l m
theorem subN_mem {m : List Nat} : ∀ {l : List Nat}, subN l m = true → ∀ x ∈ l, x ∈ m
  | [], _, x, h => by cases h
  | y :: l, h, x, hx => by
    simp only [subN, Bool.and_eq_true] at h
    rcases List.mem_cons.1 hx with rfl | hx
    · exact memN_mem.1 h.1
    · exact subN_mem h.2 x hx
def entsOk (HF : List Nat) (ren : List (Nat × Nat)) (G : List FE) : List FE → Prop
  | [] => True
  | f :: l => (match f.c with
    | .dead => True
    | .codes T => nBeq (renA ren f.id) f.id = true ∧ findE G f.id = some f
    | .rows e x => match findE G (renA ren f.id) with
      | some f' => (eqB f'.own f.own && nBeq f'.t f.t && subN f'.al f.al) = true ∧ (match memN f.id HF with
        | true => (match f'.c with | .rows e' _ => shEq e' e = true | _ => False)
        | false => f'.c = .rows e x)
      | none => False) ∧ entsOk HF ren G l
/-- Each name has one. -/
def onceG : List (Nat × Nat) → List FE → Bool
  | _, [] => true
  | ren, f :: l => (match f.c with
    | .dead => true
    | _ => onceI ren (renA ren f.id) f.id l) && onceG ren l
where onceI (ren : List (Nat × Nat)) (j i : Nat) : List FE → Bool
  | [] => true
  | g :: l => (match g.c with | .dead => true | _ => !nBeq (renA ren g.id) j && !nBeq g.id i) && onceI ren j i l
def allLt (n : Nat) : List Nat → Bool
  | [] => true
  | t :: l => nBlt t n && allLt n l
def renLo (lo hi : Nat) : List (Nat × Nat) → Bool
  | [] => true
  | (a, _) :: l => nBle lo a && nBlt a hi && renLo lo hi l
def noneIn (H : List Ent) : List (Nat × Nat) → Bool
  | [] => true
  | (a, _) :: l => freshE a H && noneIn H l
/-- The state s1 is one of those that the loop's head takes. -/
structure EndOk (lo hi : Nat) (X W HB HF : List Nat) (ren : List (Nat × Nat)) (s s1 : St) : Prop where
  n : nBeq s1.n s.n = true
  rok : (renLo lo hi ren && noneIn s.heap ren && onceG ren s.ents) = true
  slots : slotsOk X W (idsL s.ents) (catN (idsE s.heap) (idsK ren s.ents)) (idsK ren s.ents) ren s.fr s1.fr s.n
  heap : heapOk HB (idsL s.ents) (catN (idsE s.heap) (idsK ren s.ents)) (idsK ren s.ents) ren s1.heap s.heap
  ents : entsOk HF ren s1.ents s.ents
section hv
variable {U : Un}
theorem hvF_get (X W : List Nat) (f : Fr) {n : Nat} (hn : n ≤ 4000) : ∀ {l : List Nat} {g : Fr}, allLt n l = true → ∀ t, (hvF U X W f l g).get t = if memN t l then (match memN t X with | true => .val (U.u t) | false => hvC U t (f.get t)) else g.get t
  | [], g, _, t => by simp [hvF, memN]
  | k :: l, g, h, t => by
    simp only [allLt, Bool.and_eq_true, nBlt_iff] at h
    simp only [hvF]
    rw [hvF_get X W f hn h.2 t]
    have := h.1
    rw [Fr.get_set _ 12 _ _ _ (by omega)]
    by_cases hm : memN t l = true
    · simp [hm, memN]
    · simp only [hm, memN, Bool.or_false]
      by_cases ht : t = k
      · subst ht
        simp
      · have : nBeq k t = false := beq_false' (Ne.symm ht)
        simp [this, ht]
theorem hvH_ids (HB : List Nat) (l : List Ent) : idsE (hvH U HB l) = idsE l := by
  induction l with
  | nil => rfl
  | cons e l ih =>
    simp only [hvH, idsE, ih]
    cases memN e.id HB <;> rfl
theorem hvH_mem {HB : List Nat} {l : List Ent} {e' : Ent} (h : e' ∈ hvH U HB l) : ∃ e ∈ l, e' = (match memN e.id HB with | true => ⟨e.id, e.ty, hvCs U (4096 + e.id * 64) e.cells⟩ | false => e) := by
  induction l with
  | nil => cases h
  | cons x l ih =>
    simp only [hvH] at h
    rcases List.mem_cons.1 h with rfl | h
    · exact ⟨x, List.mem_cons_self, rfl⟩
    · obtain ⟨e, he, h⟩ := ih h
      exact ⟨e, List.mem_cons_of_mem _ he, h⟩
theorem entOf_mem {l : List Ent} {i : Nat} {e : Ent} (h : entOf l i = some e) : e ∈ l ∧ e.id = i := by
  induction l with
  | nil => cases h
  | cons x l ih =>
    simp only [entOf] at h
    cases hb : nBeq x.id i with
    | true =>
      rw [hb] at h
      cases h
      exact ⟨List.mem_cons_self, nBeq_eq hb⟩
    | false =>
      rw [hb] at h
      exact ⟨List.mem_cons_of_mem _ (ih h).1, (ih h).2⟩
theorem entOf_cells {l : List Ent} {i : Nat} {e : Ent} (h : entOf l i = some e) : cellsE l i = some e.cells := by
  induction l with
  | nil => cases h
  | cons x l ih =>
    simp only [entOf] at h
    simp only [cellsE]
    cases hb : nBeq x.id i with
    | true => rw [hb] at h; cases h; rfl
    | false => rw [hb] at h; exact ih h
theorem slotsOk_at {X W L ib is_ : List Nat} {ren : List (Nat × Nat)} {f g : Fr} : ∀ {n : Nat}, slotsOk X W L ib is_ ren f g n → ∀ t, t < n → (match memN t X with
    | true => True
    | false => match memN t W with
      | true => (shC ren (f.get t) (g.get t) && fvIn L (f.get t)) = true
      | false => g.get t = f.get t ∧ okV ib is_ (f.get t) = true)
  | 0, _, t, h => by omega
  | n + 1, h, t, ht => by
    by_cases e : t = n
    · subst e; exact h.1
    · exact slotsOk_at h.2 t (by omega)
theorem heapOk_at {HB L ib is_ : List Nat} {ren : List (Nat × Nat)} {H : List Ent} {l : List Ent} (h : heapOk HB L ib is_ ren H l) : ∀ e ∈ l, ∃ e', entOf H e.id = some e' ∧ e'.ty = e.ty ∧ (match memN e.id HB with
      | true => (shCs ren e.cells e'.cells && fvIns L e.cells && nBle (lenL e.cells) 64) = true
      | false => e'.cells = e.cells ∧ okV.okVs ib is_ e.cells = true) := by
  induction l with
  | nil => intro e he; cases he
  | cons x l ih =>
    intro e he
    obtain ⟨h1, h2⟩ := h
    rcases List.mem_cons.1 he with rfl | he
    · cases hx : entOf H e.id with
      | none => rw [hx] at h1; exact h1.elim
      | some e' =>
        rw [hx] at h1
        exact ⟨e', rfl, nBeq_eq h1.1, h1.2⟩
    · exact ih h2 e he
/-- The unknowns of a state. -/
def unOf (ren : List (Nat × Nat)) (s : St) (ρ : Nm) : Un := ⟨fun k => atI (atS s k), fun k => atB (atS s k), fun k => atT (atS s k), fun k => (atS s k).den ρ, fun i e => atY (findE s.ents (renA ren i)) e⟩
theorem hvC_den {ren : List (Nat × Nat)} {k : Nat} {v v' : SV} {ρ ρ' : Nm} (h : shC ren v v' = true) (hz : U.z k = atI v') (hb : U.b k = atB v') (ht : U.t k = atT v') (hu : U.u k = v'.den ρ) (hs : ∀ i, v = .fv i → ρ'.s i = ρ.s (renA ren i)) : (hvC U k v).den ρ' = v'.den ρ := by
  cases v with
  | int k1 e1 =>
    cases v' with
    | int k2 e2 =>
      have := kNat_inj (show nBeq (kNat k1) (kNat k2) = true from h)
      subst this
      simp only [hvC, SV.den, den_x, hz, atI]
    | _ => exact absurd h (by simp [shC])
  | bool b1 =>
    cases v' with
    | bool b2 => simp only [hvC, SV.den, bden_x, hb, atB]
    | _ => exact absurd h (by simp [shC])
  | str f1 =>
    cases v' with
    | str f2 => simp only [hvC, SV.den, ht, atT]
    | val v2 =>
      cases v2 with
      | string s2 => simp only [hvC, SV.den, ht, atT]
      | _ => exact absurd h (by simp [shC])
    | _ => exact absurd h (by simp [shC])
  | fv i =>
    cases v' with
    | fv j =>
      have := nBeq_eq (show nBeq (renA ren i) j = true from h)
      simp only [hvC, SV.den, hs i rfl, this]
    | _ => exact absurd h (by simp [shC])
  | _ => simp only [hvC, SV.den, hu]
theorem hvCs_den {ren : List (Nat × Nat)} {ρ ρ' : Nm} : ∀ {l l' : List SV} {k : Nat}, shCs ren l l' = true → (∀ c, c < l.length → U.z (k + c) = atI (getC l' c) ∧ U.b (k + c) = atB (getC l' c) ∧ U.t (k + c) = atT (getC l' c) ∧ U.u (k + c) = (getC l' c).den ρ) → (∀ i, .fv i ∈ l → ρ'.s i = ρ.s (renA ren i)) → SV.dens ρ' (hvCs U k l) = SV.dens ρ l'
  | [], [], _, _, _, _ => rfl
  | [], _ :: _, _, h, _, _ => by simp [shCs] at h
  | _ :: _, [], _, h, _, _ => by simp [shCs] at h
  | v :: l, v' :: l', k, h, hz, hs => by
    simp only [shCs, Bool.and_eq_true] at h
    obtain ⟨h1, h2, h3, h4⟩ := hz 0 (by simp)
    simp only [hvCs, SV.dens]
    rw [Nat.add_zero] at h1 h2 h3 h4
    rw [hvC_den (ρ := ρ) h.1 h1 h2 h3 h4 fun i hi => hs i (by rw [hi]; exact List.mem_cons_self), hvCs_den h.2 (ρ := ρ) (fun c hc => ?_) fun i hi => hs i (List.mem_cons_of_mem _ hi)]
    have := hz (c + 1) (by simpa using hc)
    rw [show k + 1 + c = k + (c + 1) from by omega]
    exact this
theorem renA_id {ren : List (Nat × Nat)} {i : Nat} (h : ∀ p ∈ ren, p.1 ≠ i) : renA ren i = i := by
  induction ren with
  | nil => rfl
  | cons p l ih =>
    obtain ⟨a, b⟩ := p
    simp only [renA, beq_false' (h _ List.mem_cons_self)]
    exact ih fun q hq => h q (List.mem_cons_of_mem _ hq)
theorem renLo_mem {lo hi : Nat} : ∀ {ren : List (Nat × Nat)}, renLo lo hi ren = true → ∀ p ∈ ren, lo ≤ p.1 ∧ p.1 < hi
  | [], _, p, hp => by cases hp
  | (a, b) :: l, h, p, hp => by
    simp only [renLo, Bool.and_eq_true, nBlt_iff] at h
    rcases List.mem_cons.1 hp with rfl | hp
    · exact ⟨nBle_le h.1.1, h.1.2⟩
    · exact renLo_mem h.2 p hp
theorem noneIn_mem {H : List Ent} : ∀ {ren : List (Nat × Nat)}, noneIn H ren = true → ∀ p ∈ ren, ∀ e ∈ H, e.id ≠ p.1
  | [], _, p, hp => by cases hp
  | (a, b) :: l, h, p, hp => by
    simp only [noneIn, Bool.and_eq_true] at h
    rcases List.mem_cons.1 hp with rfl | hp
    · exact freshE_mem h.1
    · exact noneIn_mem h.2 p hp
theorem mem_idsK {ren : List (Nat × Nat)} {i : Nat} : ∀ {l : List FE}, i ∈ idsK ren l → ∃ f ∈ l, f.c ≠ .dead ∧ f.id = i ∧ renA ren i = i
  | [], h => by cases h
  | f :: l, h => by
    simp only [idsK] at h
    split at h
    · obtain ⟨g, hg, h⟩ := mem_idsK h
      exact ⟨g, List.mem_cons_of_mem _ hg, h⟩
    · rename_i hc
      cases hb : nBeq (renA ren f.id) f.id <;> rw [hb] at h
      · obtain ⟨g, hg, h⟩ := mem_idsK h
        exact ⟨g, List.mem_cons_of_mem _ hg, h⟩
      · rcases List.mem_cons.1 h with rfl | h
        · exact ⟨f, List.mem_cons_self, hc, rfl, nBeq_eq hb⟩
        · obtain ⟨g, hg, h⟩ := mem_idsK h
          exact ⟨g, List.mem_cons_of_mem _ hg, h⟩
theorem onceI_mem {ren : List (Nat × Nat)} {j i : Nat} : ∀ {l : List FE}, onceG.onceI ren j i l = true → ∀ f ∈ l, f.c ≠ .dead → renA ren f.id ≠ j ∧ f.id ≠ i
  | [], _, f, hf, _ => by cases hf
  | g :: l, h, f, hf, hd => by
    simp only [onceG.onceI, Bool.and_eq_true] at h
    rcases List.mem_cons.1 hf with rfl | hf
    · have h1 := h.1
      split at h1
      · rename_i hc; exact absurd hc hd
      · simp only [Bool.and_eq_true] at h1
        exact ⟨ne_of_beq h1.1, ne_of_beq h1.2⟩
    · exact onceI_mem h.2 f hf hd
/-- The same under another name. -/
structure AsF (ρ' : Nm) (g : FE) (ρ : Nm) (f : FE) : Prop where
  own : g.own = f.own
  t : g.t = f.t
  s : ρ'.s g.id = ρ.s f.id
  z : ρ'.z g.id = ρ.z f.id
  b : (∃ T, f.c = .codes T) → ρ'.b g.id = ρ.b f.id
  c : g.c = f.c ∨ ∃ e x x', g.c = .rows e x ∧ f.c = .rows e x' ∧ x () = x' ()
theorem AsF.foot {ρ' ρ : Nm} {g f : FE} (h : AsF ρ' g ρ f) (k : Nat) : g.foot ρ' k ↔ f.foot ρ k := by
  unfold FE.foot FE.top
  rw [h.s, h.z, h.own]
  rcases h.c with hc | ⟨e, x, x', hg, hf, _⟩
  · rw [hc]
    cases hf : f.c with
    | codes T => simp only [h.b ⟨T, hf⟩]
    | _ => exact Iff.rfl
  · rw [hg, hf]
theorem AsF.excl {ρ' ρ : Nm} {g f : FE} (h : AsF ρ' g ρ f) (k : Nat) : g.excl ρ' k ↔ f.excl ρ k := by
  unfold FE.excl FE.top
  rw [h.s, h.own]
  rcases h.c with hc | ⟨e, x, x', hg, hf, _⟩
  · rw [hc]
    cases hf : f.c with
    | codes T => simp only [h.b ⟨T, hf⟩]
    | _ => exact Iff.rfl
  · rw [hg, hf]
theorem AsF.holds {ρ' ρ : Nm} {g f : FE} {w : World} (h : AsF ρ' g ρ f) (hf : f.holds ρ w) : g.holds ρ' w := by
  have hfo : g.foot ρ' = f.foot ρ := funext fun k => propext (h.foot k)
  unfold FE.holds at hf ⊢
  rw [h.s, h.z, h.own, h.t, hfo]
  rcases h.c with hc | ⟨e, x, x', hg, hff, hx⟩
  · rw [hc]
    cases hff : f.c with
    | codes T => rw [hff] at hf; simp only [h.b ⟨T, hff⟩]; exact hf
    | _ => rw [hff] at hf; exact hf
  · rw [hg]
    rw [hff] at hf
    simp only [hx]
    exact hf
theorem hvG_mem {HF : List Nat} {l : List FE} {g : FE} (h : g ∈ hvG U HF l) : ∃ f ∈ l, f.c ≠ .dead ∧ g.id = f.id ∧ g.own = f.own ∧ g.t = f.t ∧ g.al = f.al ∧ ((g.c = f.c ∧ (memN f.id HF = false ∨ ∃ T, f.c = .codes T)) ∨ ∃ e x, f.c = .rows e x ∧ memN f.id HF = true ∧ g.c = .rows e (fun _ => U.y f.id e)) := by
  induction l with
  | nil => cases h
  | cons x l ih =>
    have rest : g ∈ hvG U HF l → ∃ f ∈ x :: l, f.c ≠ .dead ∧ g.id = f.id ∧ g.own = f.own ∧ g.t = f.t ∧ g.al = f.al ∧ ((g.c = f.c ∧ (memN f.id HF = false ∨ ∃ T, f.c = .codes T)) ∨ ∃ e x, f.c = .rows e x ∧ memN f.id HF = true ∧ g.c = .rows e (fun _ => U.y f.id e)) := fun h => by
      obtain ⟨f, hf, h⟩ := ih h
      exact ⟨f, List.mem_cons_of_mem _ hf, h⟩
    simp only [hvG] at h
    split at h
    · exact rest h
    · rename_i e y hc
      rcases List.mem_cons.1 h with rfl | h
      · refine ⟨x, List.mem_cons_self, by rw [hc]; simp, ?_⟩
        cases hm : memN x.id HF with
        | true => exact ⟨rfl, rfl, rfl, rfl, .inr ⟨e, y, hc, rfl, rfl⟩⟩
        | false => exact ⟨rfl, rfl, rfl, rfl, .inl ⟨rfl, .inl rfl⟩⟩
      · exact rest h
    · rename_i T hc
      rcases List.mem_cons.1 h with rfl | h
      · exact ⟨g, List.mem_cons_self, by rw [hc]; simp, rfl, rfl, rfl, rfl, .inl ⟨rfl, .inr ⟨T, hc⟩⟩⟩
      · exact rest h
theorem mem_hvG {HF : List Nat} : ∀ {l : List FE} {f : FE}, f ∈ l → f.c ≠ .dead → ∃ g ∈ hvG U HF l, g.id = f.id
  | x :: l, f, hf, hd => by
    simp only [hvG]
    rcases List.mem_cons.1 hf with rfl | hf
    · split
      · rename_i hc; exact absurd hc hd
      · refine ⟨_, List.mem_cons_self, ?_⟩
        cases memN f.id HF <;> rfl
      · exact ⟨_, List.mem_cons_self, rfl⟩
    · obtain ⟨g, hg, e⟩ := mem_hvG hf hd
      split
      · exact ⟨g, hg, e⟩
      · exact ⟨g, List.mem_cons_of_mem _ hg, e⟩
      · exact ⟨g, List.mem_cons_of_mem _ hg, e⟩
theorem entsOk_at {HF : List Nat} {ren : List (Nat × Nat)} {G : List FE} : ∀ {l : List FE}, entsOk HF ren G l → ∀ f ∈ l, (match f.c with
    | .dead => True
    | .codes T => nBeq (renA ren f.id) f.id = true ∧ findE G f.id = some f
    | .rows e x => match findE G (renA ren f.id) with
      | some f' => (eqB f'.own f.own && nBeq f'.t f.t && subN f'.al f.al) = true ∧ (match memN f.id HF with
        | true => (match f'.c with | .rows e' _ => shEq e' e = true | _ => False)
        | false => f'.c = .rows e x)
      | none => False)
  | [], _, f, hf => by cases hf
  | g :: l, h, f, hf => by
    rcases List.mem_cons.1 hf with rfl | hf
    · exact h.1
    · exact entsOk_at h.2 f hf
theorem hvG_pair {R : FE → FE → Prop} {HF : List Nat} {ren : List (Nat × Nat)} : ∀ {l : List FE}, onceG ren l = true → (∀ f ∈ l, ∀ f' ∈ l, f.c ≠ .dead → f'.c ≠ .dead → renA ren f.id ≠ renA ren f'.id → ∀ g g', g ∈ hvG U HF l → g' ∈ hvG U HF l → g.id = f.id → g'.id = f'.id → R g g') → (hvG U HF l).Pairwise R
  | [], _, _ => List.Pairwise.nil
  | x :: l, h, hR => by
    simp only [onceG, Bool.and_eq_true] at h
    have tail := hvG_pair h.2 fun f hf f' hf' hd hd' hne g g' hg hg' e e' => hR f (List.mem_cons_of_mem _ hf) f' (List.mem_cons_of_mem _ hf') hd hd' hne g g' (by
      simp only [hvG]; split
      · exact hg
      · exact List.mem_cons_of_mem _ hg
      · exact List.mem_cons_of_mem _ hg) (by
      simp only [hvG]; split
      · exact hg'
      · exact List.mem_cons_of_mem _ hg'
      · exact List.mem_cons_of_mem _ hg') e e'
    have head : ∀ (hd : x.c ≠ .dead) (y : FE), hvG U HF (x :: l) = y :: hvG U HF l → y.id = x.id → (hvG U HF (x :: l)).Pairwise R := by
      intro hd y he hy
      rw [he]
      refine List.pairwise_cons.2 ⟨fun g hg => ?_, tail⟩
      obtain ⟨f, hf, hfd, hgi, _⟩ := hvG_mem hg
      have h1 := h.1
      split at h1
      · rename_i hc; exact absurd hc hd
      · have := onceI_mem h1 f hf hfd
        exact hR x List.mem_cons_self f (List.mem_cons_of_mem _ hf) hd hfd (Ne.symm this.1) y g (by rw [he]; exact List.mem_cons_self) (by rw [he]; exact List.mem_cons_of_mem _ hg) hy hgi
    cases hc : x.c with
    | dead => simp only [hvG, hc]; exact tail
    | rows e y => exact head (by rw [hc]; simp) (match memN x.id HF with | true => ⟨x.id, x.own, x.t, x.al, .rows e (fun _ => U.y x.id e)⟩ | false => x) (by simp only [hvG, hc]) (by cases memN x.id HF <;> rfl)
    | codes T => exact head (by rw [hc]; simp) _ (by simp only [hvG, hc]) rfl
theorem endOk_fit {E : Env} {lo hi : Nat} (hlo : E.lo = lo) (hhi : E.hi = hi) {ρ : Nm} {X W HB HF : List Nat} {ren : List (Nat × Nat)} {s s1 : St} {a : Act} {w : World} (hW : allLt s.n (catW X W) = true) (h : EndOk lo hi X W HB HF ren s s1) (hf : Fit E ρ s1 a w) :
    ∃ ρ', Fit E ρ' (hv (unOf ren s1 ρ) X W HB HF s) a w := by
  have hn := nBeq_eq h.n
  have hn4 : s.n ≤ 4000 := hn ▸ hf.lim
  have hrok := h.rok
  simp only [Bool.and_eq_true] at hrok
  obtain ⟨⟨r1, r2⟩, r3⟩ := hrok
  have renH : ∀ e ∈ s.heap, renA ren e.id = e.id := fun e he => renA_id fun p hp e0 => noneIn_mem r2 p hp e he e0.symm
  obtain ⟨ρ', hρ⟩ : ∃ ρ' : Nm, ρ' = ⟨ρ.b, fun i => ρ.s (renA ren i), fun i => ρ.z (renA ren i)⟩ := ⟨_, rfl⟩
  have hb : ∀ i, ρ'.b i = ρ.b i := fun i => by rw [hρ]
  have hs : ∀ i, ρ'.s i = ρ.s (renA ren i) := fun i => by rw [hρ]
  have hz : ∀ i, ρ'.z i = ρ.z (renA ren i) := fun i => by rw [hρ]
  -- each entry has its like
  have like : ∀ g ∈ hvG (unOf ren s1 ρ) HF s.ents, ∃ f1, findE s1.ents (renA ren g.id) = some f1 ∧ AsF ρ' g ρ f1 ∧ (∀ j ∈ f1.al, j ∈ g.al) ∧ ∃ f ∈ s.ents, f.c ≠ .dead ∧ g.id = f.id := by
    intro g hg
    obtain ⟨f, hfm, hd, hid, ho, ht, hal, hc⟩ := hvG_mem hg
    have he := entsOk_at h.ents f hfm
    cases hfc : f.c with
    | dead => exact absurd hfc hd
    | codes T =>
      rw [hfc] at he
      obtain ⟨h1, h2⟩ := he
      have h1 := nBeq_eq h1
      have hgc : g.c = f.c := by
        rcases hc with hc | ⟨e, x, hx, _⟩
        · exact hc.1
        · rw [hfc] at hx; cases hx
      refine ⟨f, by rw [hid, h1]; exact h2, ⟨ho, ht, by rw [hs, hid, h1], by rw [hz, hid, h1], fun _ => by rw [hb, hid], .inl hgc⟩, fun j hj => by rw [hal]; exact hj, f, hfm, hd, hid⟩
    | rows e x =>
      rw [hfc] at he
      simp only at he
      split at he
      · rename_i f1 hf1
        obtain ⟨h1, h2⟩ := he
        simp only [Bool.and_eq_true] at h1
        obtain ⟨⟨q1, q2⟩, q3⟩ := h1
        have hid1 := (findE_mem hf1).2
        refine ⟨f1, by rw [hid]; exact hf1, ⟨by rw [ho, eqB_eq q1], by rw [ht, nBeq_eq q2], by rw [hs, hid, hid1], by rw [hz, hid, hid1], fun ⟨T, hT⟩ => ?_, ?_⟩, fun j hj => by rw [hal]; exact subN_mem q3 j hj, f, hfm, hd, hid⟩
        · exfalso
          cases hm : memN f.id HF <;> rw [hm] at h2
          · simp only at h2
            rw [hT] at h2; cases h2
          · simp only [hT] at h2
        · cases hm : memN f.id HF <;> rw [hm] at h2
          · simp only at h2
            left
            rcases hc with hc | ⟨_, _, _, hm', _⟩
            · rw [hc.1, h2, hfc]
            · rw [hm] at hm'; cases hm'
          · simp only at h2
            split at h2
            · rename_i e' x' hc1
              have := shEq_eq h2
              subst this
              rcases hc with ⟨_, hc | ⟨T, hT⟩⟩ | ⟨e2, x2, hx2, _, hc⟩
              · rw [hm] at hc; cases hc
              · rw [hfc] at hT; cases hT
              · rw [hfc] at hx2
                cases hx2
                refine .inr ⟨e', _, x', hc, hc1, ?_⟩
                simp only [unOf, atY, hf1, hc1, convL_self]
            · exact h2.elim
      · exact he.elim
  have hm1 : ∀ {g : FE} {f1 : FE}, findE s1.ents (renA ren g.id) = some f1 → f1 ∈ s1.ents := fun h => (findE_mem h).1
  have upb : ∀ {ρ''}, Agr ρ' ρ'' (hvH (unOf ren s1 ρ) HB s.heap) (hvG (unOf ren s1 ρ) HF s.ents) → (∀ i ∈ idsE s.heap, ρ''.b i = ρ.b i) ∧ ∀ f ∈ s.ents, f.c ≠ .dead → ρ''.b f.id = ρ.b f.id ∧ ρ''.s f.id = ρ.s (renA ren f.id) := by
    intro ρ'' hr
    refine ⟨fun i hi => ?_, fun f hfm hd => ?_⟩
    · rw [← hvH_ids (U := unOf ren s1 ρ) HB s.heap, mem_idsE] at hi
      obtain ⟨e, he, rfl⟩ := hi
      rw [hr.1 e he, hb]
    · obtain ⟨g, hg, hid⟩ := mem_hvG (U := unOf ren s1 ρ) (HF := HF) hfm hd
      have := hr.2 g hg
      rw [hid, hb, hs] at this
      exact this
  have okb : ∀ {ρ''}, Agr ρ' ρ'' (hvH (unOf ren s1 ρ) HB s.heap) (hvG (unOf ren s1 ρ) HF s.ents) → (∀ i ∈ catN (idsE s.heap) (idsK ren s.ents), ρ''.b i = ρ.b i) ∧ ∀ i ∈ idsK ren s.ents, ρ''.s i = ρ.s i := by
    intro ρ'' hr
    obtain ⟨u1, u2⟩ := upb hr
    refine ⟨fun i hi => ?_, fun i hi => ?_⟩
    · rw [catN_eq] at hi
      rcases List.mem_append.1 hi with hi | hi
      · exact u1 i hi
      · obtain ⟨f, hfm, hd, rfl, _⟩ := mem_idsK hi
        exact (u2 f hfm hd).1
    · obtain ⟨f, hfm, hd, rfl, hre⟩ := mem_idsK hi
      rw [(u2 f hfm hd).2, hre]
  have fvs : ∀ {ρ''}, Agr ρ' ρ'' (hvH (unOf ren s1 ρ) HB s.heap) (hvG (unOf ren s1 ρ) HF s.ents) → ∀ i ∈ idsL s.ents, ρ''.s i = ρ.s (renA ren i) := by
    intro ρ'' hr i hi
    obtain ⟨f, hfm, hd, rfl⟩ := mem_idsL hi
    exact ((upb hr).2 f hfm hd).2
  have old : ∀ {e}, e ∈ hvH (unOf ren s1 ρ) HB s.heap → ∃ e1 ∈ s1.heap, e1.id = e.id ∧ e1.ty = e.ty ∧ ∀ ρ'', Agr ρ' ρ'' (hvH (unOf ren s1 ρ) HB s.heap) (hvG (unOf ren s1 ρ) HF s.ents) → SV.dens ρ'' e.cells = SV.dens ρ e1.cells := by
    intro e he
    obtain ⟨e0, he0, rfl⟩ := hvH_mem he
    obtain ⟨e1, h1, ht, hc⟩ := heapOk_at h.heap e0 he0
    obtain ⟨hm, hid⟩ := entOf_mem h1
    have hce := entOf_cells h1
    cases hbb : memN e0.id HB with
    | false =>
      rw [hbb] at hc
      exact ⟨e1, hm, hid, ht, fun ρ'' hr => by simp only [okVs_den (okb hr).1 (okb hr).2 hc.2, hc.1]⟩
    | true =>
      rw [hbb] at hc
      simp only [Bool.and_eq_true] at hc
      refine ⟨e1, hm, hid, ht, fun ρ'' hr => ?_⟩
      refine hvCs_den (ρ := ρ) hc.1.1 (fun c hcl => ?_) fun i hi => fvs hr i (fvIns_mem hc.1.2 i hi)
      have h64 := nBle_le hc.2
      rw [lenL_eq] at h64
      have hat : atS s1 (4096 + e0.id * 64 + c) = getC e1.cells c := by
        unfold atS
        have e1' : nBlt (4096 + e0.id * 64 + c) 4096 = false := by simp [nBlt]; omega
        have e2 : (4096 + e0.id * 64 + c - 4096) / 64 = e0.id := by omega
        have e3 : (4096 + e0.id * 64 + c - 4096) % 64 = c := by omega
        rw [e1']
        simp only [e2, e3, hce]
      exact ⟨by simp only [unOf, hat], by simp only [unOf, hat], by simp only [unOf, hat], by simp only [unOf, hat]⟩
  have hh := hf.hp
  refine ⟨ρ', by rw [hf.len]; exact hn, hn4, ?_, hf.defers, hh.keep, hh.size, ?_, ?_, ?_, ?_, ?_, ?_, ?_, ?_, ?_, ?_⟩
  · intro ρ'' hr t ht
    have ht' : t < s.n := ht
    rw [hf.tmps ρ (Agr.refl _ _ _) t (by omega)]
    have hsl := slotsOk_at h.slots t ht'
    have hat : atS s1 t = s1.fr.get t := by
      unfold atS
      have : nBlt t 4096 = true := by rw [nBlt_iff]; omega
      rw [this]
    simp only [hv, hvF_get X W s.fr hn4 hW t]
    cases hx : memN t X with
    | true =>
      have : memN t (catW X W) = true := by unfold catW; rw [memN_mem, catN_eq]; exact List.mem_append_left _ (memN_mem.1 hx)
      rw [if_pos this]
      simp only [SV.den, unOf, hat]
    | false =>
      rw [hx] at hsl
      cases hm : memN t W with
      | true =>
        rw [hm] at hsl
        have : memN t (catW X W) = true := by unfold catW; rw [memN_mem, catN_eq]; exact List.mem_append_right _ (memN_mem.1 hm)
        rw [if_pos this]
        simp only [Bool.and_eq_true] at hsl
        simp only
        rw [hvC_den (ρ := ρ) hsl.1 (by simp only [unOf, hat]) (by simp only [unOf, hat]) (by simp only [unOf, hat]) (by simp only [unOf, hat]) fun i hi => fvs hr i (by
          have := hsl.2
          rw [hi] at this
          exact memN_mem.1 this)]
      | false =>
        rw [hm] at hsl
        have : memN t (catW X W) = false := by
          unfold catW
          cases hq : memN t (catN X W) with
          | false => rfl
          | true =>
            rw [memN_mem, catN_eq] at hq
            rcases List.mem_append.1 hq with hq | hq
            · rw [memN_mem.2 hq] at hx; cases hx
            · rw [memN_mem.2 hq] at hm; cases hm
        rw [this, if_neg (by simp), hsl.1, okV_den (okb hr).1 (okb hr).2 hsl.2]
  · intro e he
    obtain ⟨e1, hm, hid, _⟩ := old he
    rw [hb, ← hid]
    exact hh.base e1 hm
  · intro ρ'' hr e he
    obtain ⟨e1, hm, hid, hty, hd⟩ := old he
    rw [hd ρ'' hr, hb, ← hid, ← hty]
    exact hh.block ρ (Agr.refl _ _ _) e1 hm
  · intro e he e' he' heq
    obtain ⟨e1, hm, hid, _⟩ := old he
    obtain ⟨e1', hm', hid', _⟩ := old he'
    rw [hb, hb] at heq
    rw [← hid, ← hid'] at heq ⊢
    exact hh.inj e1 hm e1' hm' heq
  · intro g hg
    obtain ⟨f1, h1, h2, _⟩ := like g hg
    exact h2.holds (hh.facts f1 (hm1 h1))
  · intro g hg e x hc
    obtain ⟨f1, h1, h2, _⟩ := like g hg
    rcases h2.c with hcc | ⟨e', x', x'', hg', hf', _⟩
    · exact hh.pos f1 (hm1 h1) e x (by rw [← hcc, hc])
    · rw [hg'] at hc
      cases hc
      exact hh.pos f1 (hm1 h1) _ x'' hf'
  · intro e he g hg
    obtain ⟨e1, hm, hid, _⟩ := old he
    obtain ⟨f1, h1, h2, _⟩ := like g hg
    rw [h2.foot, hb, ← hid]
    exact hh.apart e1 hm f1 (hm1 h1)
  · refine hvG_pair (ren := ren) r3 ?_
    intro f hfm f' hfm' hd hd' hne g g' hg hg' e e' k
    obtain ⟨f1, h1, h2, _⟩ := like g hg
    obtain ⟨f1', h1', h2', _⟩ := like g' hg'
    rw [h2.excl, h2'.foot, h2'.excl, h2.foot]
    have hnn : f1 ≠ f1' := fun e0 => hne (by rw [← e, ← e', ← (findE_mem h1).2, ← (findE_mem h1').2, e0])
    refine ⟨fun hk => ?_, fun hk => ?_⟩
    · rcases hh.sep (hm1 h1') f1 (hm1 h1) k hk with h | h
      · exact h
      · exact absurd h hnn
    · rcases hh.sep (hm1 h1) f1' (hm1 h1') k hk with h | h
      · exact h
      · exact absurd h.symm hnn
  · intro g hg k hk
    obtain ⟨f1, h1, h2, _⟩ := like g hg
    rw [h2.excl] at hk
    exact hh.exB f1 (hm1 h1) k hk
  · intro g hg k hk
    obtain ⟨f1, h1, h2, hal, _⟩ := like g hg
    rw [h2.foot] at hk
    rcases hh.al f1 (hm1 h1) k hk with h | ⟨j, hj, h⟩
    · exact .inl h
    · exact .inr ⟨j, hal j hj, h⟩
  · intro i hi
    have hre : renA ren i = i := renA_id fun p hp e0 => by
      obtain ⟨q1, q2⟩ := renLo_mem r1 p hp
      rw [hlo, hhi] at hi
      omega
    rw [hb, hs, hre]
    exact hh.anc i hi
end hv
/-! The loop's rule. -/
def dstsO : List Oper → List Nat
  | [] => []
  | o :: l => match o.dst with
    | some d => d :: dstsO l
    | none => dstsO l
/-- Slots from a on, n of them. -/
def rangeN (a : Nat) : Nat → List Nat
  | 0 => []
  | n + 1 => a :: rangeN (a + 1) n
/-- The slots that code writes. -/
def wrC : Code → List Nat
  | .region _ ops _ => dstsO ops.toList
  | .seq a b => catN (wrC a) (wrC b)
  | .cond _ a b => catN (wrC a) (wrC b)
  | .block _ c => wrC c
  | .loop c => wrC c
  | .scope c => wrC c
  | _ => []
structure AtZ (v : SV) (n : Int) : Prop where
  eq : atI v = n
structure AtB (v : SV) (n : Bool) : Prop where
  eq : atB v = n
structure AtT (v : SV) (n : ByteArray) : Prop where
  eq : atT v = n
structure AtY (f : Option FE) (e : Shp) (xs : List e.D) : Prop where
  eq : atY f e = xs
/-- The unknowns are those of the state. -/
structure AtU (ren : List (Nat × Nat)) (s : St) (z : Nat → Int) (b : Nat → Bool) (t : Nat → ByteArray) (y : Nat → (e : Shp) → List e.D) : Prop where
  z : ∀ k, AtZ (atS s k) (z k)
  b : ∀ k, AtB (atS s k) (b k)
  t : ∀ k, AtT (atS s k) (t k)
  y : ∀ i e, AtY (findE s.ents (renA ren i)) e (y i e)
theorem unOf_at (ren : List (Nat × Nat)) (s : St) (ρ : Nm) : AtU ren s (unOf ren s ρ).z (unOf ren s ρ).b (unOf ren s ρ).t (unOf ren s ρ).y := ⟨fun _ => ⟨rfl⟩, fun _ => ⟨rfl⟩, fun _ => ⟨rfl⟩, fun _ _ => ⟨rfl⟩⟩
/-- Slots that hold a nil slice, or a literal of one's own, get a name: slot, name, type of elements, shape. -/
def nil1 (S : TypeId → Option Shp) (t n : Nat) (te : TypeId) (e : Shp) (s : St) : St := match s.fr.get t with
  | .osl b _ m _ => match litE S s.heap s.ents n b m with
    | some (_, G) => ⟨Fr.set (.fv n) 12 s.fr t, s.n, lessE s.heap [b], G, match nBlt s.next (n + 1) with | true => n + 1 | false => s.next⟩
    | none => s
  | _ => ⟨Fr.set (.fv n) 12 s.fr t, s.n, s.heap, ⟨n, true, te, [], .rows e (fun _ => [])⟩ :: s.ents, match nBlt s.next (n + 1) with | true => n + 1 | false => s.next⟩
def nilSt (S : TypeId → Option Shp) : List (Nat × Nat × TypeId × Shp) → St → St
  | [], s => s
  | (t, n, te, e) :: l, s => nilSt S l (nil1 S t n te e s)
def isNilV : SV → Bool
  | .val (.slice none 0 0) => true
  | _ => false
def isLitV (S : TypeId → Option Shp) (H : List Ent) (G : List FE) (n : Nat) : SV → Bool
  | .osl b 0 m cap => nBeq m cap && (match litE S H G n b m with
    | some ([], _) => true
    | _ => false)
  | v => isNilV v
def nilOk (S : TypeId → Option Shp) (lo hi : Nat) : List (Nat × Nat × TypeId × Shp) → St → Bool
  | [], _ => true
  | (t, n, te, e) :: l, s => nBlt t s.n && isLitV S s.heap s.ents n (s.fr.get t) && nBlt 0 e.size && fresh lo hi n s.heap s.ents && nilOk S lo hi l (nil1 S t n te e s)
theorem nil1_fit {S : TypeId → Option Shp} {E : Env} {a : Act} {w : World} {t n : Nat} {te : TypeId} {e : Shp} {s : St} {ρ : Nm} (h1 : t < s.n) (h2 : isLitV S s.heap s.ents n (s.fr.get t) = true) (h3 : 0 < e.size) (hfr : Fresh E n s.heap s.ents) (hf : Fit E ρ s a w) : ∃ ρ', Fit E ρ' (nil1 S t n te e s) a w := by
  have hlim := hf.lim
  unfold isLitV at h2
  split at h2
  · rename_i b m cap hv
    simp only [Bool.and_eq_true] at h2
    have hmc := nBeq_eq h2.1
    subst hmc
    split at h2
    · rename_i G hl
      obtain ⟨ρ', k1, k2, _⟩ := lit_sound hf.hp hl (fun p hp => by cases hp) hfr
      unfold nil1
      rw [hv]
      simp only [hl]
      refine ⟨ρ', hf.len, hf.lim, fun ρ'' hr q hq => ?_, hf.defers, k1⟩
      obtain ⟨q1, q2⟩ := k2 ρ'' hr
      show a.tmps[q]? = some (((Fr.set (.fv n) 12 s.fr t).get q).den ρ'')
      rw [Fr.get_set _ 12 s.fr t q (by omega), hf.tmps ρ'' q1 q hq]
      by_cases hqt : q = t
      · subst hqt
        rw [if_pos rfl, hv, q2]
        have := hf.tmps ρ (Agr.refl _ _ _) q hq
        rw [hf.tmps ρ'' q1 q hq, hv] at this
        exact this
      · rw [if_neg hqt]
    · cases h2.2
  · rename_i v hne
    have hnv : ∀ ρ, (s.fr.get t).den ρ = .slice none 0 0 := by
      intro ρ
      unfold isNilV at h2
      split at h2
      · rename_i hv; first | (rw [hv]; simp only [SV.den]) | simp only [SV.den]
      · cases h2
    have hnil : nil1 S t n te e s = ⟨Fr.set (.fv n) 12 s.fr t, s.n, s.heap, ⟨n, true, te, [], .rows e (fun _ => [])⟩ :: s.ents, match nBlt s.next (n + 1) with | true => n + 1 | false => s.next⟩ := by
      unfold nil1
      split
      · rename_i b o m cap hv
        rw [hv] at h2
        simp [isNilV] at h2
      · rfl
    rw [hnil]
    have top0 : ∀ k, ¬ (⟨n, true, te, [], .rows e (fun _ => [])⟩ : FE).top (ρ.setS n ⟨none, 0, 0⟩ (fun _ => False)) k := by
      rintro k ⟨x, hx, _⟩
      simp [Nm.setS] at hx
    have foot0 : ∀ k, ¬ (⟨n, true, te, [], .rows e (fun _ => [])⟩ : FE).foot (ρ.setS n ⟨none, 0, 0⟩ (fun _ => False)) k := by
      intro k hk
      unfold FE.foot at hk
      rcases hk with hk | ⟨_, hk⟩
      · simp [Nm.setS] at hk
      · exact top0 k hk
    obtain ⟨k1, k2⟩ := hf.hp.add ⟨n, true, te, [], .rows e (fun _ => [])⟩ hfr ⟨none, 0, 0⟩ (fun _ => False) (fun T => by simp) (by
      unfold FE.holds
      simp only [Nm.setS, if_true]
      exact ⟨fun k hk => hk.elim, ⟨rfl, by simp, by simp, by simp⟩, ⟨[], World.ownsRow_nil w 0 te e.size, fun i hi => by simp at hi⟩, fun x hx => by simp at hx⟩) (fun e' x' he => by cases he; exact h3) (fun e' he hk => foot0 _ hk) (fun g hg k => ⟨fun hk => absurd (FE.excl_foot hk) (foot0 k), fun _ hk => foot0 k hk⟩) (fun k hk => absurd (FE.excl_foot hk) (foot0 k)) (fun k hk => absurd hk (foot0 k))
    refine ⟨_, hf.len, hf.lim, fun ρ' hr q hq => ?_, hf.defers, k1⟩
    obtain ⟨q1, q2⟩ := k2 ρ' hr
    show a.tmps[q]? = some (((Fr.set (.fv n) 12 s.fr t).get q).den ρ')
    rw [Fr.get_set _ 12 s.fr t q (by omega), hf.tmps ρ' q1 q hq]
    by_cases hqt : q = t
    · subst hqt
      rw [if_pos rfl, hnv]
      simp only [SV.den]
      rw [show ρ'.s n = ⟨none, 0, 0⟩ from q2]
      rfl
    · rw [if_neg hqt]
theorem nil_fit {S : TypeId → Option Shp} {E : Env} {lo hi : Nat} (hlo : E.lo = lo) (hhi : E.hi = hi) {a : Act} {w : World} : ∀ (l : List (Nat × Nat × TypeId × Shp)) (s : St) (ρ : Nm), nilOk S lo hi l s = true → Fit E ρ s a w → ∃ ρ', Fit E ρ' (nilSt S l s) a w
  | [], s, ρ, _, hf => ⟨ρ, hf⟩
  | (t, n, te, e) :: l, s, ρ, h, hf => by
    simp only [nilOk, Bool.and_eq_true, nBlt_iff] at h
    obtain ⟨⟨⟨⟨h1, h2⟩, h3⟩, h4⟩, h5⟩ := h
    obtain ⟨ρ1, hf1⟩ := nil1_fit (te := te) h1 h2 h3 (fresh_spec h4 hlo hhi) hf
    exact nil_fit hlo hhi l _ ρ1 h5 hf1
/-- The rule: N are nil slices to be named; X are slots to forget; HB blocks, HF slices' data that the body changes; P relates the unknowns at the loop's head; m falls. -/
theorem loop_hv {C : Cx} {body : Code} {s : St} {K : Exit → St → Prop} (N : List (Nat × Nat × TypeId × Shp)) (X HB HF : List Nat) (P : (Nat → Int) → (Nat → Bool) → (Nat → ByteArray) → (Nat → (e : Shp) → List e.D) → Prop) (m : (Nat → Int) → (Nat → Bool) → (Nat → ByteArray) → (Nat → (e : Shp) → List e.D) → Nat)
    (hN : nilOk C.shp C.lo C.hi N s = true) (hW : allLt (nilSt C.shp N s).n (catW X (wrC body)) = true) (h0 : EndOk C.lo C.hi X (wrC body) HB HF [] (nilSt C.shp N s) (nilSt C.shp N s)) (hP : ∀ z b t y, AtU [] (nilSt C.shp N s) z b t y → P z b t y)
    (hb : ∀ z b t u y (R : St → Prop), P z b t y → (∀ s1, EndOk C.lo C.hi X (wrC body) HB HF (renOf X (wrC body) HB (nilSt C.shp N s) s1) (nilSt C.shp N s) s1 → (∀ z' b' t' y', AtU (renOf X (wrC body) HB (nilSt C.shp N s) s1) s1 z' b' t' y' → P z' b' t' y' ∧ m z' b' t' y' < m z b t y) → Goes C.lo C.hi s1 R) →
      vc C body (hv ⟨z, b, t, u, y⟩ X (wrC body) HB HF (nilSt C.shp N s)) (seqK (fun s1 => Goes C.lo C.hi s1 R) K)) :
    ∃ k, unr C.lo C.hi (fun s K => vc C body s K) K k s := by
  refine ⟨0, fun n s' => ∃ z b t u y, s' = hv ⟨z, b, t, u, y⟩ X (wrC body) HB HF (nilSt C.shp N s) ∧ P z b t y ∧ m z b t y = n, ⟨?_⟩, ?_⟩
  · intro E ρ a w e1 e2 hf
    obtain ⟨ρ1, hf1⟩ := nil_fit e1 e2 N s ρ hN hf
    obtain ⟨ρ2, hf2⟩ := endOk_fit e1 e2 hW h0 hf1
    exact ⟨_, ρ2, hf2, _, _, _, _, _, _, rfl, hP _ _ _ _ (unOf_at _ _ ρ1), rfl⟩
  · rintro n s' ⟨z, b, t, u, y, rfl, hp, rfl⟩
    refine hb z b t u y _ hp fun s1 he h1 => ⟨fun E ρ a w e1 e2 hf => ?_⟩
    obtain ⟨h1, h2⟩ := h1 _ _ _ _ (unOf_at _ _ ρ)
    obtain ⟨ρ2, hf2⟩ := endOk_fit e1 e2 hW he hf
    exact ⟨_, ρ2, hf2, _, h2, _, _, _, _, _, rfl, h1, rfl⟩
/-- Where ways meet: W are the slots that were written, X those to forget; HB blocks, HF slices' data that were changed; P relates the unknowns. -/
theorem join_hv {C : Cx} {a b : Code} {s : St} {K : Exit → St → Prop} (X W HB HF : List Nat) (P : (Nat → Int) → (Nat → Bool) → (Nat → ByteArray) → (Nat → (e : Shp) → List e.D) → Prop)
    (hW : allLt s.n (catW X W) = true)
    (h1 : ∀ R : St → Prop, (∀ s1, EndOk C.lo C.hi X W HB HF (renOf X W HB s s1) s s1 → (∀ z b t y, AtU (renOf X W HB s s1) s1 z b t y → P z b t y) → Goes C.lo C.hi s1 R) → vc C a s (seqK (fun s1 => Goes C.lo C.hi s1 R) K))
    (h2 : ∀ z b' t u y, P z b' t y → vc C b (hv ⟨z, b', t, u, y⟩ X W HB HF s) K) : JoinT (fun s K => vc C a s K) (fun s K => vc C b s K) C.lo C.hi s K := by
  refine ⟨.inr ⟨fun s' => ∃ z b t u y, s' = hv ⟨z, b, t, u, y⟩ X W HB HF s ∧ P z b t y, h1 _ fun s1 he hp => ⟨fun E ρ a w e1 e2 hf => ?_⟩, ?_⟩⟩
  · have := hp _ _ _ _ (unOf_at _ _ ρ)
    obtain ⟨ρ2, hf2⟩ := endOk_fit e1 e2 hW he hf
    exact ⟨_, ρ2, hf2, _, _, _, _, _, rfl, this⟩
  · rintro s' ⟨z, b, t, u, y, rfl, hp⟩
    exact h2 z b t u y hp
end Go.Proofs.Ytiinlanpinanhaa.V
