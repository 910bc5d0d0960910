/- What is chosen is one of the offer, and who chooses does not matter (plain law). -/
import Derived.Test.YtiinlanpinanhaaVTe
set_option linter.unusedVariables false
set_option linter.unusedSimpArgs false
namespace Go.Proofs.Ytiinlanpinanhaa.V
open Go.RowKit
set_option maxHeartbeats 8000000
set_option maxRecDepth 100000
/-- Drawn proposals. -/
structure PropG (pr : Int) (p : PrT) (n : Int) : Prop where
  num : p.1 = n
  prot : p.2.1 = pr
  spi : p.2.2.1.length = if pr = 1 then 0 else 4
  ne : 1 ≤ p.2.2.2.1.length
  le : p.2.2.2.1.length ≤ 6
  ty : ∀ t ∈ p.2.2.2.1, 1 ≤ t.1 ∧ t.1 ≤ 3
  id : ∀ t ∈ p.2.2.2.1, 0 ≤ t.2.1 ∧ t.2.1 ≤ 1024
  key : ∀ t ∈ p.2.2.2.1, t.2.2.1 = 0 ∨ t.2.2.1 = 256
  nd : p.2.2.2.1.Nodup
structure PropsG (prot : Int) (l : List PrT) : Prop where
  ok : ∀ i, i < l.length → PropG prot (l.getD i (0, 0, [], [], ())) ((i : Int) + 1)
theorem PropsG.okP {prot : Int} {l : List PrT} (h : PropsG prot l) : okP l := by
  refine ⟨fun p hp => ⟨fun t ht => ?_⟩⟩
  obtain ⟨i, hi, rfl⟩ := List.mem_iff_getElem.1 hp
  have := (h.ok i hi).ty
  rw [List.getD_eq_getElem?_getD, List.getElem?_eq_getElem hi] at this
  have := this t ht
  omega
theorem hasT_mem {l : List TrT} {t : TrT} : hasT l t = true ↔ t ∈ l := by
  unfold hasT
  rw [List.any_eq_true]
  constructor
  · rintro ⟨x, hx, he⟩; rw [eqT_iff] at he; subst he; exact hx
  · intro h; exact ⟨t, h, eqT_iff.2 rfl⟩
theorem pick_iff {own off : List TrT} {k : Int} : (pickT own off k).isSome = true ↔ ∃ t, t.1 = k ∧ t ∈ own ∧ t ∈ off := by
  unfold pickT
  rw [List.find?_isSome]
  constructor
  · rintro ⟨t, ht, h⟩
    simp only [Bool.and_eq_true, beq_iff_eq, hasT_mem] at h
    exact ⟨t, h.1, ht, h.2⟩
  · rintro ⟨t, h1, h2, h3⟩
    exact ⟨t, h2, by simp only [Bool.and_eq_true, beq_iff_eq, hasT_mem]; exact ⟨h1, h3⟩⟩
theorem pick_some {own off : List TrT} {k : Int} {t : TrT} (h : pickT own off k = some t) : t.1 = k ∧ t ∈ own ∧ t ∈ off := by
  unfold pickT at h
  have h1 := List.find?_some h
  have h2 := List.mem_of_find?_eq_some h
  simp only [Bool.and_eq_true, beq_iff_eq, hasT_mem] at h1
  exact ⟨h1.1, h2, h1.2⟩
theorem kinds_iff {s : Int} {own off : List TrT} : ∀ {ks : List Int}, (kindsF s own off ks).isSome = true ↔ ∀ k ∈ ks, ¬ bits .and .u64 s (IntKind.u64.wrap (1 * 2 ^ min k.toNat 64)) = 0 → (pickT own off k).isSome = true
  | [] => by simp [kindsF]
  | k :: ks => by
    have ih := kinds_iff (s := s) (own := own) (off := off) (ks := ks)
    unfold kindsF
    by_cases hb : bits .and .u64 s (IntKind.u64.wrap (1 * 2 ^ min k.toNat 64)) = 0
    · simp only [hb, decide_true]
      rw [ih]
      constructor
      · intro h j hj hj2
        rcases List.mem_cons.1 hj with rfl | hj
        · exact absurd hb hj2
        · exact h j hj hj2
      · intro h j hj; exact h j (List.mem_cons_of_mem _ hj)
    · simp only [hb, decide_false]
      cases hp : pickT own off k with
      | none =>
        simp only [Option.isSome_none, Bool.false_eq_true, false_iff]
        intro h
        have := h k List.mem_cons_self hb
        rw [hp] at this
        cases this
      | some t =>
        simp only [Option.isSome_map]
        rw [ih]
        constructor
        · intro h j hj hj2
          rcases List.mem_cons.1 hj with rfl | hj
          · rw [hp]; rfl
          · exact h j hj hj2
        · intro h j hj; exact h j (List.mem_cons_of_mem _ hj)
theorem choice_sym {o w : PrT} : (choiceL o w).isSome = (choiceL w o).isSome := by
  unfold choiceL
  by_cases h : o.2.1 = w.2.1 ∧ typeF w.2.2.2.1 = typeF o.2.2.2.1
  · rw [if_pos h, if_pos ⟨h.1.symm, h.2.symm⟩, Bool.eq_iff_iff, kinds_iff, kinds_iff, h.2]
    have e : ∀ k, (pickT w.2.2.2.1 o.2.2.2.1 k).isSome = true ↔ (pickT o.2.2.2.1 w.2.2.2.1 k).isSome = true := fun k => by
      rw [pick_iff, pick_iff]
      constructor <;> rintro ⟨t, a, b, c⟩ <;> exact ⟨t, a, c, b⟩
    simp only [e]
  · rw [if_neg h, if_neg fun h2 => h ⟨h2.1.symm, h2.2.symm⟩]
theorem fit_some {o w p : PrT} : fit o w = some p ↔ ∃ l, choiceL o w = some l ∧ p = (o.1, o.2.1, o.2.2.1, l, ()) := by
  unfold fit choiceF
  cases choiceL o w with
  | none => simp
  | some l =>
    simp only [Option.some.injEq]
    constructor
    · rintro rfl; exact ⟨l, rfl, rfl⟩
    · rintro ⟨l', rfl, rfl⟩; rfl
theorem fit_none {o w : PrT} : fit o w = none ↔ (choiceL o w).isSome = false := by
  unfold fit choiceF
  cases choiceL o w <;> simp
theorem choose_none {a b : List PrT} : chooseF a b = none ↔ ∀ w ∈ b, ∀ o ∈ a, (choiceL o w).isSome = false := by
  unfold chooseF
  simp only [List.findSome?_eq_none_iff, fit_none]
theorem choose_sym {a b : List PrT} : chooseF a b = none ↔ chooseF b a = none := by
  rw [choose_none, choose_none]
  constructor
  · intro h w hw o ho; rw [choice_sym]; exact h o ho w hw
  · intro h w hw o ho; rw [choice_sym]; exact h o ho w hw
theorem chooseR_e {a b : List PrT} {p : PrT} {e : Int} (h : (p, e) = chooseR a b) : (e = 0 ∧ chooseF a b = some p) ∨ (e = 16 ∧ chooseF a b = none) := by
  unfold chooseR at h
  cases hc : chooseF a b with
  | none => rw [hc] at h; simp only [Prod.mk.injEq] at h; exact .inr ⟨h.2, rfl⟩
  | some q => rw [hc] at h; simp only [Prod.mk.injEq] at h; exact .inl ⟨h.2, by rw [h.1]⟩
theorem na_1 {a b : List PrT} {p q : PrT} {e f : Int} (h1 : (p, e) = chooseR a b) (h2 : (q, f) = chooseR b a) (h : ¬ e = 0) : e = 16 ∧ f = 16 := by
  rcases chooseR_e h1 with h3 | ⟨h3, h4⟩
  · exact absurd h3.1 h
  · rcases chooseR_e h2 with h5 | h5
    · rw [choose_sym, h5.2] at h4; cases h4
    · exact ⟨h3, h5.1⟩
theorem na_2 {a b : List PrT} {p q : PrT} {e f : Int} (h1 : (p, e) = chooseR a b) (h2 : (q, f) = chooseR b a) (h : e = 0) : f = 0 := by
  rcases chooseR_e h2 with h5 | h5
  · exact h5.1
  · rcases chooseR_e h1 with h3 | h3
    · have := choose_sym.2 h5.2
      rw [this] at h3
      cases h3.2
    · omega
/-! Accepts. -/
theorem kinds_sub {s : Int} {own off : List TrT} : ∀ {ks : List Int} {l : List TrT}, kindsF s own off ks = some l → (l.map (·.1)).Sublist ks ∧ ∀ t ∈ l, t ∈ own ∧ t ∈ off
  | [], l, h => by simp only [kindsF, Option.some.injEq] at h; subst h; simp
  | k :: ks, l, h => by
    unfold kindsF at h
    split at h
    · obtain ⟨h1, h2⟩ := kinds_sub h
      exact ⟨h1.cons _, h2⟩
    · split at h
      · cases h
      · rename_i t ht
        simp only [Option.map_eq_some_iff] at h
        obtain ⟨m, hm, rfl⟩ := h
        obtain ⟨h1, h2⟩ := kinds_sub hm
        obtain ⟨g1, g2, g3⟩ := pick_some ht
        refine ⟨?_, fun t' ht' => ?_⟩
        · rw [List.map_cons, g1]; exact h1.cons_cons _
        · rcases List.mem_cons.1 ht' with rfl | ht'
          · exact ⟨g2, g3⟩
          · exact h2 t' ht'
/-- The kinds that a set has. -/
def kindsOf (s : Int) : List Int → List Int
  | [] => []
  | k :: ks => if bits .and .u64 s (IntKind.u64.wrap (1 * 2 ^ min k.toNat 64)) = 0 then kindsOf s ks else k :: kindsOf s ks
theorem kinds_map {s : Int} {own off : List TrT} : ∀ {ks : List Int} {l : List TrT}, kindsF s own off ks = some l → l.map (·.1) = kindsOf s ks
  | [], l, h => by simp only [kindsF, Option.some.injEq] at h; subst h; rfl
  | k :: ks, l, h => by
    unfold kindsF at h
    unfold kindsOf
    split at h
    · rename_i hb
      rw [if_pos (of_decide_eq_true hb)]
      exact kinds_map h
    · rename_i hb
      rw [if_neg (of_decide_eq_false hb)]
      split at h
      · cases h
      · rename_i t ht
        simp only [Option.map_eq_some_iff] at h
        obtain ⟨m, hm, rfl⟩ := h
        rw [List.map_cons, (pick_some ht).1, kinds_map hm]
def typeK (s k : Int) : Int := bits .or .u64 s (IntKind.u64.wrap (1 * 2 ^ min k.toNat 64))
theorem typeF_map (l : List TrT) : typeF l = (l.map (·.1)).foldl typeK 0 := by
  unfold typeF
  rw [List.foldl_map]
  rfl
def sets8 : List Int := [0, 2, 4, 6, 8, 10, 12, 14]
theorem set_step : ∀ s ∈ sets8, ∀ k ∈ ([1, 2, 3] : List Int), typeK s k ∈ sets8 := by decide +kernel
theorem set_back : ∀ s ∈ sets8, (kindsOf s [1, 2, 3, 4, 5]).foldl typeK 0 = s := by decide +kernel
theorem set_in : ∀ (ks : List Int) (s : Int), (∀ k ∈ ks, 1 ≤ k ∧ k ≤ 3) → s ∈ sets8 → ks.foldl typeK s ∈ sets8
  | [], s, _, h => h
  | k :: ks, s, hk, h => by
    have h1 := hk k List.mem_cons_self
    refine set_in ks _ (fun j hj => hk j (List.mem_cons_of_mem _ hj)) (set_step s h k ?_)
    rcases (by omega : k = 1 ∨ k = 2 ∨ k = 3) with rfl | rfl | rfl <;> decide
theorem kinds_type {own off l : List TrT} (h : kindsF (typeF own) own off [1, 2, 3, 4, 5] = some l) (ho : ∀ t ∈ own, 1 ≤ t.1 ∧ t.1 ≤ 3) : typeF l = typeF own := by
  rw [typeF_map l, kinds_map h]
  refine set_back _ ?_
  rw [typeF_map]
  exact set_in _ 0 (fun k hk => by obtain ⟨t, ht, rfl⟩ := List.mem_map.1 hk; exact ho t ht) (by decide)
/-- What is accepted. -/
structure AccAt (p ch : PrT) : Prop where
  prot : p.2.1 = ch.2.1
  spi : p.2.2.1 = ch.2.2.1
  ty : typeF p.2.2.2.1 = typeF ch.2.2.2.1
  has : ∀ k, k < ch.2.2.2.1.length → hasT p.2.2.2.1 (ch.2.2.2.1.getD k (0, 0, 0, ())) = true
  asc : ∀ k, k + 1 < ch.2.2.2.1.length → (ch.2.2.2.1.getD k (0, 0, 0, ())).1 < (ch.2.2.2.1.getD (k + 1) (0, 0, 0, ())).1
structure Acc (off : List PrT) (ch : PrT) : Prop where
  ex : ∃ i, i < off.length ∧ (off.getD i (0, 0, [], [], ())).1 = ch.1
  all : ∀ i, i < off.length → (off.getD i (0, 0, [], [], ())).1 = ch.1 → AccAt (off.getD i (0, 0, [], [], ())) ch
theorem na_3 {prot prot' : Int} {a b : List PrT} {p : PrT} {e : Int} (ha : PropsG prot a) (hb : PropsG prot' b) (h1 : (p, e) = chooseR a b) (h : e = 0) : Acc a p := by
  rcases chooseR_e h1 with ⟨_, hc⟩ | h3
  rotate_left
  · omega
  unfold chooseF at hc
  obtain ⟨w, hw, hc⟩ := List.exists_of_findSome?_eq_some hc
  obtain ⟨o, ho, hc⟩ := List.exists_of_findSome?_eq_some hc
  obtain ⟨l, hl, rfl⟩ := fit_some.1 hc
  unfold choiceL at hl
  split at hl
  rotate_left
  · cases hl
  rename_i hq
  obtain ⟨i, hi, rfl⟩ := List.mem_iff_getElem.1 ho
  obtain ⟨j, hj, rfl⟩ := List.mem_iff_getElem.1 hw
  have gi : a.getD i (0, 0, [], [], ()) = a[i] := by rw [List.getD_eq_getElem?_getD, List.getElem?_eq_getElem hi]; rfl
  have gj : b.getD j (0, 0, [], [], ()) = b[j] := by rw [List.getD_eq_getElem?_getD, List.getElem?_eq_getElem hj]; rfl
  have pi := ha.ok i hi
  have pj := hb.ok j hj
  rw [gi] at pi
  rw [gj] at pj
  refine ⟨⟨i, hi, by rw [gi]⟩, fun i' hi' he => ?_⟩
  have e : i' = i := by
    have := (ha.ok i' hi').num
    rw [he] at this
    have h2 := pi.num
    have h3 : ((i : Int) + 1) = (i' : Int) + 1 := h2.symm.trans this
    omega
  subst e
  rw [gi]
  obtain ⟨s1, s2⟩ := kinds_sub hl
  have hp : List.Pairwise (fun a b : Int => a < b) (l.map (·.1)) := List.Pairwise.sublist s1 (by decide)
  refine ⟨rfl, rfl, ?_, fun k hk => ?_, fun k hk => ?_⟩
  · rw [← hq.2]; exact (kinds_type hl pj.ty).symm
  · have hk : k < l.length := hk
    rw [hasT_mem, List.getD_eq_getElem?_getD, List.getElem?_eq_getElem hk]
    exact (s2 _ (List.getElem_mem hk)).2
  · have hk : k + 1 < l.length := hk
    show (l.getD k (0, 0, 0, ())).1 < (l.getD (k + 1) (0, 0, 0, ())).1
    rw [List.getD_eq_getElem?_getD, List.getElem?_eq_getElem (by omega), List.getD_eq_getElem?_getD, List.getElem?_eq_getElem hk]
    have := List.pairwise_iff_getElem.1 hp k (k + 1) (by simp; omega) (by simpa using hk) (by omega)
    simpa using this
end Go.Proofs.Ytiinlanpinanhaa.V
