/- The walker that reckons: loops. What a loop writes is taken as unknown, but for a relation. -/
import Derived.Test.YtiinlanpinanhaaSy
set_option linter.unusedVariables false
set_option linter.unusedSimpArgs false
namespace Go.Proofs.Ytiinlanpinanhaa
open Go.RowKit

/-- The blocks that a value names. -/
def okV (ids : List Nat) : SV → Bool
  | .ptr b _ => memN b ids
  | .osl b _ _ _ => memN b ids
  | .ep b _ _ _ _ => memN b ids
  | .agg cs => okVs cs
  | .tup cs => okVs cs
  | _ => true
where okVs : List SV → Bool
  | [] => true
  | c :: cs => okV ids c && okVs cs
theorem memN_mem {n : Nat} : ∀ {l : List Nat}, memN n l = true ↔ n ∈ l
  | [] => by simp [memN]
  | x :: l => by
    simp only [memN, Bool.or_eq_true, memN_mem (l := l), List.mem_cons]
    constructor
    · rintro (h | h)
      · exact .inl (nBeq_eq h).symm
      · exact .inr h
    · rintro (rfl | h)
      · exact .inl (by simp)
      · exact .inr h
mutual
theorem okV_den {ids : List Nat} {ρ ρ' : Nat → Nat} (hr : ∀ i ∈ ids, ρ' i = ρ i) : ∀ {v : SV}, okV ids v = true → v.den ρ' = v.den ρ
  | .int _ _, _ => rfl
  | .bool _, _ => rfl
  | .val _, _ => rfl
  | .ptr b o, h => by simp only [SV.den, hr b (memN_mem.1 h)]
  | .osl b _ _ _, h => by simp only [SV.den, hr b (memN_mem.1 h)]
  | .ep b _ _ _ _, h => by simp only [SV.den, hr b (memN_mem.1 h)]
  | .agg cs, h => by simp only [SV.den, okVs_den hr (l := cs) h]
  | .tup cs, h => by simp only [SV.den, okVs_den hr (l := cs) h]
theorem okVs_den {ids : List Nat} {ρ ρ' : Nat → Nat} (hr : ∀ i ∈ ids, ρ' i = ρ i) : ∀ {l : List SV}, okV.okVs ids l = true → SV.dens ρ' l = SV.dens ρ l
  | [], _ => rfl
  | c :: cs, h => by
    simp only [okV.okVs, Bool.and_eq_true] at h
    simp only [SV.dens, okV_den hr h.1, okVs_den hr h.2]
end
/-- An unknown value of a kind. -/
def hvC (z : Nat → Int) (b : Nat → Bool) (u : Nat → Value) (k : Nat) : SV → SV
  | .int kd _ => .int kd (.x (z k))
  | .bool _ => .bool (.x (b k))
  | _ => .val (u k)
def hvCs (z : Nat → Int) (b : Nat → Bool) (u : Nat → Value) : Nat → List SV → List SV
  | _, [] => []
  | k, v :: l => hvC z b u k v :: hvCs z b u (k + 1) l
def hvH (z : Nat → Int) (b : Nat → Bool) (u : Nat → Value) (HB : List Nat) : List Ent → List Ent
  | [] => []
  | e :: l => (match memN e.id HB with | true => ⟨e.id, e.ty, hvCs z b u (4096 + e.id * 64) e.cells⟩ | false => e) :: hvH z b u HB l
def hvF (z : Nat → Int) (b : Nat → Bool) (u : Nat → Value) (f : Fr) : List Nat → Fr → Fr
  | [], g => g
  | t :: l, g => hvF z b u f l (Fr.set (hvC z b u t (f.get t)) 12 g t)
def hv (z : Nat → Int) (b : Nat → Bool) (u : Nat → Value) (W HB : List Nat) (s : St) : St := ⟨hvF z b u s.fr W s.fr, s.n, hvH z b u HB s.heap, s.next, s.facts⟩
def atI : SV → Int
  | .int _ e => e.den
  | _ => 0
def atB : SV → Bool
  | .bool b => b.den
  | _ => false
def getC : List SV → Nat → SV
  | [], _ => .val undef
  | v :: _, 0 => v
  | _ :: l, n + 1 => getC l n
/-- What stands in a slot (below 4096), or in cell c of the call's own block i (4096 + i * 64 + c). -/
def atS (s : St) (k : Nat) : SV := match nBlt k 4096 with
  | true => s.fr.get k
  | false => match cellsE s.heap ((k - 4096) / 64) with
    | some cs => getC cs ((k - 4096) % 64)
    | none => .val undef
def zF (s : St) (k : Nat) : Int := atI (atS s k)
def bF (s : St) (k : Nat) : Bool := atB (atS s k)
/-- The one value is of the other's kind. -/
def shC : SV → SV → Bool
  | .int k _, .int k' _ => nBeq (kNat k) (kNat k')
  | .int _ _, _ => false
  | .bool _, .bool _ => true
  | .bool _, _ => false
  | _, _ => true
def shCs : List SV → List SV → Bool
  | [], [] => true
  | v :: l, v' :: l' => shC v v' && shCs l l'
  | _, _ => false
def idsE : List Ent → List Nat
  | [] => []
  | e :: l => e.id :: idsE l
theorem mem_idsE {l : List Ent} {i : Nat} : i ∈ idsE l ↔ ∃ e ∈ l, e.id = i := by
  induction l with
  | nil => simp [idsE]
  | cons x l ih => simp [idsE, ih, eq_comm]
def slotsOk (W ids : List Nat) (f g : Fr) : Nat → Prop
  | 0 => True
  | t + 1 => (match memN t W with
    | true => shC (f.get t) (g.get t) = true
    | false => g.get t = f.get t ∧ okV ids (f.get t) = true) ∧ slotsOk W ids f g t
def entOf : List Ent → Nat → Option Ent
  | [], _ => none
  | x :: l, b => (match nBeq x.id b with | true => some x | false => entOf l b)
def heapOk (HB ids : List Nat) (H : List Ent) : List Ent → Prop
  | [] => True
  | e :: l => (match entOf H e.id with
    | some e' => nBeq e'.ty e.ty = true ∧ (match memN e.id HB with
      | true => (shCs e.cells e'.cells && nBle (lenL e.cells) 64) = true
      | false => e'.cells = e.cells ∧ okV.okVs ids e.cells = true)
    | none => False) ∧ heapOk HB ids H l
def allLt (n : Nat) : List Nat → Bool
  | [] => true
  | t :: l => nBlt t n && allLt n l
/-- The state s1 is one of those that the loop's head takes. -/
structure EndOk (W HB : List Nat) (s s1 : St) : Prop where
  n : nBeq s1.n s.n = true
  slots : slotsOk W (idsE s.heap) s.fr s1.fr s.n
  heap : heapOk HB (idsE s.heap) s1.heap s.heap
  facts : s1.facts = s.facts
section hv
variable {z : Nat → Int} {b : Nat → Bool} {u : Nat → Value}
theorem hvF_get (f : Fr) {n : Nat} (hn : n ≤ 4000) : ∀ {W : List Nat} {g : Fr}, allLt n W = true → ∀ t, (hvF z b u f W g).get t = if memN t W then hvC z b u t (f.get t) else g.get t
  | [], g, _, t => by simp [hvF, memN]
  | k :: W, g, h, t => by
    simp only [allLt, Bool.and_eq_true, nBlt_iff] at h
    simp only [hvF]
    rw [hvF_get f hn h.2 t]
    have := h.1
    rw [Fr.get_set _ 12 _ _ _ (by omega)]
    by_cases hm : memN t W = true
    · simp [hm, memN]
    · simp only [hm, memN, Bool.or_false]
      by_cases ht : t = k
      · subst ht
        simp
      · have : nBeq k t = false := beq_false' (Ne.symm ht)
        simp [this, ht]
theorem hvH_ids (HB : List Nat) (l : List Ent) : idsE (hvH z b u HB l) = idsE l := by
  induction l with
  | nil => rfl
  | cons e l ih =>
    simp only [hvH, idsE, ih]
    cases memN e.id HB <;> rfl
theorem hvH_mem {HB : List Nat} {l : List Ent} {e' : Ent} (h : e' ∈ hvH z b u HB l) : ∃ e ∈ l, e' = (match memN e.id HB with | true => ⟨e.id, e.ty, hvCs z b u (4096 + e.id * 64) e.cells⟩ | false => e) := by
  induction l with
  | nil => cases h
  | cons x l ih =>
    simp only [hvH] at h
    rcases List.mem_cons.1 h with rfl | h
    · exact ⟨x, List.mem_cons_self, rfl⟩
    · obtain ⟨e, he, h⟩ := ih h
      exact ⟨e, List.mem_cons_of_mem _ he, h⟩
theorem entOf_mem {l : List Ent} {i : Nat} {e : Ent} (h : entOf l i = some e) : e ∈ l ∧ e.id = i := by
  induction l with
  | nil => cases h
  | cons x l ih =>
    simp only [entOf] at h
    cases hb : nBeq x.id i with
    | true =>
      rw [hb] at h
      cases h
      exact ⟨List.mem_cons_self, nBeq_eq hb⟩
    | false =>
      rw [hb] at h
      exact ⟨List.mem_cons_of_mem _ (ih h).1, (ih h).2⟩
theorem entOf_cells {l : List Ent} {i : Nat} {e : Ent} (h : entOf l i = some e) : cellsE l i = some e.cells := by
  induction l with
  | nil => cases h
  | cons x l ih =>
    simp only [entOf] at h
    simp only [cellsE]
    cases hb : nBeq x.id i with
    | true => rw [hb] at h; cases h; rfl
    | false => rw [hb] at h; exact ih h
theorem slotsOk_at {W ids : List Nat} {f g : Fr} : ∀ {n : Nat}, slotsOk W ids f g n → ∀ t, t < n → (match memN t W with
    | true => shC (f.get t) (g.get t) = true
    | false => g.get t = f.get t ∧ okV ids (f.get t) = true)
  | 0, _, t, h => by omega
  | n + 1, h, t, ht => by
    by_cases e : t = n
    · subst e; exact h.1
    · exact slotsOk_at h.2 t (by omega)
theorem heapOk_at {HB ids : List Nat} {H : List Ent} {l : List Ent} (h : heapOk HB ids H l) : ∀ e ∈ l, ∃ e', entOf H e.id = some e' ∧ e'.ty = e.ty ∧ (match memN e.id HB with
      | true => (shCs e.cells e'.cells && nBle (lenL e.cells) 64) = true
      | false => e'.cells = e.cells ∧ okV.okVs ids e.cells = true) := by
  induction l with
  | nil => intro e he; cases he
  | cons x l ih =>
    intro e he
    obtain ⟨h1, h2⟩ := h
    rcases List.mem_cons.1 he with rfl | he
    · cases hx : entOf H e.id with
      | none => rw [hx] at h1; exact h1.elim
      | some e' =>
        rw [hx] at h1
        exact ⟨e', rfl, nBeq_eq h1.1, h1.2⟩
    · exact ih h2 e he
theorem hvC_den {k : Nat} {v v' : SV} {ρ ρ' : Nat → Nat} (h : shC v v' = true) (hz : z k = atI v') (hb : b k = atB v') (hu : u k = v'.den ρ) : (hvC z b u k v).den ρ' = v'.den ρ := by
  cases v with
  | int k1 e1 =>
    cases v' with
    | int k2 e2 =>
      have := kNat_inj (show nBeq (kNat k1) (kNat k2) = true from h)
      subst this
      simp only [hvC, SV.den, den_x, hz, atI]
    | _ => exact absurd h (by simp [shC])
  | bool b1 =>
    cases v' with
    | bool b2 => simp only [hvC, SV.den, bden_x, hb, atB]
    | _ => exact absurd h (by simp [shC])
  | _ => simp only [hvC, SV.den, hu]
theorem hvCs_den {ρ ρ' : Nat → Nat} : ∀ {l l' : List SV} {k : Nat}, shCs l l' = true → (∀ c, c < l.length → z (k + c) = atI (getC l' c) ∧ b (k + c) = atB (getC l' c) ∧ u (k + c) = (getC l' c).den ρ) → SV.dens ρ' (hvCs z b u k l) = SV.dens ρ l'
  | [], [], _, _, _ => rfl
  | [], _ :: _, _, h, _ => by simp [shCs] at h
  | _ :: _, [], _, h, _ => by simp [shCs] at h
  | v :: l, v' :: l', k, h, hz => by
    simp only [shCs, Bool.and_eq_true] at h
    obtain ⟨h1, h2, h3⟩ := hz 0 (by simp)
    simp only [hvCs, SV.dens]
    rw [Nat.add_zero] at h1 h2 h3
    rw [hvC_den (ρ := ρ) h.1 h1 h2 h3, hvCs_den h.2 (ρ := ρ) fun c hc => ?_]
    have := hz (c + 1) (by simpa using hc)
    rw [show k + 1 + c = k + (c + 1) from by omega]
    exact this
theorem endOk_fit {keep : World → Prop} {B : Nat} {ρ : Nat → Nat} {W HB : List Nat} {s s1 : St} {a : Act} {w : World} (hW : allLt s.n W = true) (h : EndOk W HB s s1) (hf : Fit keep B ρ s1 a w) :
    Fit keep B ρ (hv (zF s1) (bF s1) (fun k => (atS s1 k).den ρ) W HB s) a w := by
  have hn := nBeq_eq h.n
  have hn4 : s.n ≤ 4000 := hn ▸ hf.lim
  have up : ∀ {ρ'}, Agr ρ ρ' (hv (zF s1) (bF s1) (fun k => (atS s1 k).den ρ) W HB s).heap → ∀ i ∈ idsE s.heap, ρ' i = ρ i := by
    intro ρ' hr i hi
    rw [← hvH_ids (z := zF s1) (b := bF s1) (u := fun k => (atS s1 k).den ρ) HB s.heap, mem_idsE] at hi
    obtain ⟨e, he, rfl⟩ := hi
    exact hr e he
  have old : ∀ {e}, e ∈ (hv (zF s1) (bF s1) (fun k => (atS s1 k).den ρ) W HB s).heap → ∃ e1 ∈ s1.heap, e1.id = e.id ∧ e1.ty = e.ty ∧ ∀ ρ', Agr ρ ρ' (hv (zF s1) (bF s1) (fun k => (atS s1 k).den ρ) W HB s).heap → SV.dens ρ' e.cells = SV.dens ρ e1.cells := by
    intro e he
    obtain ⟨e0, he0, rfl⟩ := hvH_mem he
    obtain ⟨e1, h1, ht, hc⟩ := heapOk_at h.heap e0 he0
    obtain ⟨hm, hid⟩ := entOf_mem h1
    have hce := entOf_cells h1
    cases hb : memN e0.id HB with
    | false =>
      rw [hb] at hc
      exact ⟨e1, hm, hid, ht, fun ρ' hr => by simp only [okVs_den (up hr) hc.2, hc.1]⟩
    | true =>
      rw [hb] at hc
      simp only [Bool.and_eq_true] at hc
      refine ⟨e1, hm, hid, ht, fun ρ' hr => ?_⟩
      refine hvCs_den (ρ := ρ) hc.1 fun c hcl => ?_
      have h64 := nBle_le hc.2
      rw [lenL_eq] at h64
      have hat : atS s1 (4096 + e0.id * 64 + c) = getC e1.cells c := by
        unfold atS
        have e1' : nBlt (4096 + e0.id * 64 + c) 4096 = false := by simp [nBlt]; omega
        have e2 : (4096 + e0.id * 64 + c - 4096) / 64 = e0.id := by omega
        have e3 : (4096 + e0.id * 64 + c - 4096) % 64 = c := by omega
        rw [e1']
        simp only [e2, e3, hce]
      exact ⟨by simp only [zF, hat], by simp only [bF, hat], by simp only [hat]⟩
  refine ⟨by rw [hf.len]; exact hn, hn4, ?_, hf.defers, hf.keep, hf.size, ?_, ?_, ?_, ?_, ?_, ?_⟩
  · intro ρ' hr t ht
    have ht' : t < s.n := ht
    rw [hf.tmps ρ (Agr.refl _ _) t (by omega)]
    have hs := slotsOk_at h.slots t ht'
    simp only [hv, hvF_get s.fr hn4 hW t]
    cases hm : memN t W with
    | true =>
      rw [hm] at hs
      have hat : atS s1 t = s1.fr.get t := by
        unfold atS
        have : nBlt t 4096 = true := by rw [nBlt_iff]; omega
        rw [this]
      rw [if_pos rfl, hvC_den (ρ := ρ) hs (by simp only [zF, hat]) (by simp only [bF, hat]) (by simp only [hat])]
    | false =>
      rw [hm] at hs
      rw [if_neg (by simp), hs.1, okV_den (up hr) hs.2]
  · intro e he
    obtain ⟨e1, hm, hid, _⟩ := old he
    rw [← hid]
    exact hf.base e1 hm
  · intro ρ' hr e he
    obtain ⟨e1, hm, hid, hty, hd⟩ := old he
    rw [hd ρ' hr, ← hid, ← hty]
    exact hf.block ρ (Agr.refl _ _) e1 hm
  · intro e he e' he'
    obtain ⟨e1, hm, hid, _⟩ := old he
    obtain ⟨e1', hm', hid', _⟩ := old he'
    rw [← hid, ← hid']
    exact hf.inj e1 hm e1' hm'
  · intro f hff
    exact hf.facts f (by rw [h.facts]; exact hff)
  · intro e he f hff
    obtain ⟨e1, hm, hid, _⟩ := old he
    rw [← hid]
    exact hf.apart e1 hm f (by rw [h.facts]; exact hff)
  · have := hf.alone
    rw [h.facts] at this
    exact this
end hv
/-! The loop's rule. -/
def dstsO : List Oper → List Nat
  | [] => []
  | o :: l => match o.dst with
    | some d => d :: dstsO l
    | none => dstsO l
def catN : List Nat → List Nat → List Nat
  | [], m => m
  | x :: l, m => x :: catN l m
/-- Slots from a on, n of them. -/
def rangeN (a : Nat) : Nat → List Nat
  | 0 => []
  | n + 1 => a :: rangeN (a + 1) n
/-- The slots that code writes. -/
def wrC : Code → List Nat
  | .region _ ops _ => dstsO ops.toList
  | .seq a b => catN (wrC a) (wrC b)
  | .cond _ a b => catN (wrC a) (wrC b)
  | .block _ c => wrC c
  | .loop c => wrC c
  | .scope c => wrC c
  | _ => []
structure AtZ (v : SV) (n : Int) : Prop where
  eq : atI v = n
structure AtB (v : SV) (n : Bool) : Prop where
  eq : atB v = n
/-- The rule: X are slots to forget beside those that the body writes, HB blocks of the call's own that the body writes; P relates the numbers and truth
values at the loop's head; m falls. -/
theorem loop_hv {C : Cx} {body : Code} {s : St} {K : Exit → St → Prop} (X HB : List Nat) (P : (Nat → Int) → (Nat → Bool) → Prop) (m : (Nat → Int) → (Nat → Bool) → Nat)
    (hW : allLt s.n (catN X (wrC body)) = true) (h0 : EndOk (catN X (wrC body)) HB s s) (hP : ∀ z b, (∀ k, AtZ (atS s k) (z k)) → (∀ k, AtB (atS s k) (b k)) → P z b)
    (hb : ∀ z b u (R : St → Prop), P z b → (∀ s1, EndOk (catN X (wrC body)) HB s s1 → (∀ z' b', (∀ k, AtZ (atS s1 k) (z' k)) → (∀ k, AtB (atS s1 k) (b' k)) → P z' b' ∧ m z' b' < m z b) → Goes s1 R) →
      vc C body (hv z b u (catN X (wrC body)) HB s) (seqK (fun s1 => Goes s1 R) K)) :
    ∃ I : Nat → St → Prop, (Goes s fun s0 => ∃ n, I n s0) ∧ ∀ n s', I n s' → vc C body s' (seqK (fun s'' => Goes s'' fun s3 => ∃ k, k < n ∧ I k s3) K) := by
  refine ⟨fun n s' => ∃ z b u, s' = hv z b u (catN X (wrC body)) HB s ∧ P z b ∧ m z b = n, ⟨?_⟩, ?_⟩
  · intro keep B ρ a w hf
    exact ⟨_, ρ, endOk_fit hW h0 hf, _, _, _, _, rfl, hP _ _ (fun _ => ⟨rfl⟩) (fun _ => ⟨rfl⟩), rfl⟩
  · rintro n s' ⟨z, b, u, rfl, hp, rfl⟩
    refine hb z b u _ hp fun s1 he h1 => ⟨fun keep B ρ a w hf => ?_⟩
    obtain ⟨h1, h2⟩ := h1 (zF s1) (bF s1) (fun _ => ⟨rfl⟩) (fun _ => ⟨rfl⟩)
    exact ⟨_, ρ, endOk_fit hW he hf, _, h2, _, _, _, rfl, h1, rfl⟩
end Go.Proofs.Ytiinlanpinanhaa
