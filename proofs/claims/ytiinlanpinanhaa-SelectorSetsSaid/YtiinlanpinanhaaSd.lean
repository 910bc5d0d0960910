/- The walker that reckons, fourth part: bytes that came in, choices that are drawn. -/
import Derived.Test.YtiinlanpinanhaaTt
import Derived.Test.YtiinlanpinanhaaCodes
set_option linter.unusedVariables false
set_option linter.unusedSimpArgs false
namespace Go.Proofs.Ytiinlanpinanhaa
open Go.RowKit

/-- The block of a slice that is not empty. -/
def blkOf (a : Option Addr) (n : Nat) (k : Nat) : Prop := 0 < n ∧ ∃ x, a = some x ∧ k = x.block
theorem Bs.stable {w w' : World} {a : Option Addr} {n cap : Nat} {l : List UInt8} (h : Bs w a n cap l) (hs : ∀ k, blkOf a n k → w'.heap[k]? = w.heap[k]?) : Bs w' a n cap l :=
  ⟨h.len_eq, h.le, h.cap_le, h.len_le, fun hl => by
    obtain ⟨b, off, e, hc⟩ := h.cells hl
    refine ⟨b, off, e, fun i hi => ?_⟩
    rw [World.cell?_of_block (w := w) (hs b ⟨hl, _, e, rfl⟩)]
    exact hc i hi⟩
theorem Bs.lt {w : World} {a : Option Addr} {n cap : Nat} {l : List UInt8} (h : Bs w a n cap l) {k : Nat} (hk : blkOf a n k) : k < w.heap.size := by
  obtain ⟨hn, x, rfl, rfl⟩ := hk
  obtain ⟨b, off, e, hc⟩ := h.cells hn
  cases e
  exact World.block_lt_of_cell? w _ (hc 0 (by have := h.len_eq; omega))
/-- A slice reads as bytes. -/
def bytesF (a : Option Addr) (n cap : Nat) (l : List UInt8) : Fact where
  foot := blkOf a n
  excl := fun _ => False
  holds := fun w => Bs w a n cap l
  sub := fun _ h => h.elim
  lt := fun _ _ h hk => h.lt hk
  stable := fun _ _ h hs => h.stable hs
/-- Block p holds choices: the slice of the list, and a place in it. -/
structure Cds (T : TypeId) (p : Nat) (a : Option Addr) (n cap : Nat) (l : List UInt8) (w : World) : Prop where
  block : ∃ k : Nat, w.heap[p]? = some (.cells #[.slice a n cap, .int .i64 k] T (0, 0))
  bs : Bs w a n cap l
  ne : ¬ blkOf a n p
def codesF (T : TypeId) (p : Nat) (a : Option Addr) (n cap : Nat) (l : List UInt8) : Fact where
  foot := fun k => k = p ∨ blkOf a n k
  excl := fun k => k = p
  holds := Cds T p a n cap l
  sub := fun _ h => .inl h
  lt := fun w k h hk => by
    rcases hk with rfl | hk
    · obtain ⟨_, hb⟩ := h.block
      exact lt_of_block hb
    · exact h.bs.lt hk
  stable := fun w w' h hs => by
    obtain ⟨k, hb⟩ := h.block
    exact ⟨⟨k, by rw [hs p (.inl rfl)]; exact hb⟩, h.bs.stable fun k hk => hs k (.inr hk), h.ne⟩
theorem Cds.cd {T : TypeId} {p : Nat} {a : Option Addr} {n cap : Nat} {l : List UInt8} {w : World} (h : Cds T p a n cap l w) : Cd T w.heap.size p w := by
  obtain ⟨k, hb⟩ := h.block
  exact ⟨lt_of_block hb, Nat.le_refl _, a, n, cap, l, k, hb, h.bs, fun hn x hx => ⟨fun e => h.ne ⟨hn, x, hx, e.symm⟩, h.bs.lt ⟨hn, x, hx, rfl⟩⟩⟩
/-- A call that draws. -/
structure DrK (T : TypeId) (may : Nat → Prop) (p : Nat) (g : List Fact) (K : Prop) : Prop where
  has : ∃ F ∈ g, ∃ a n cap l, F = codesF T p a n cap l
  may : may p
  k : K
/-- For every integer in a range. -/
structure AllIn (lo hi : Unit → Int) (K : Int → Prop) : Prop where
  all : ∀ x, lo () ≤ x → x < hi () → K x
/-- For every such thing. -/
structure AllT {α : Type} (Q : α → Prop) (K : α → Prop) : Prop where
  all : ∀ x, Q x → K x
abbrev DF := List SV → (SV → Prop) → Prop
def dSpec (T : TypeId) (may : Nat → Prop) (F : DF) : Spec := fun args g R =>
  match args with
  | .val (.pointer (some ⟨p, 0, none⟩)) :: rest => DrK T may p g (F rest fun v => R v g)
  | _ => False
/-- What a function that draws is known to do. -/
def DrawOk (P : Program) (T : TypeId) (f : FuncId) (F : DF) : Prop :=
  ∀ rest K, F rest K → ∀ (ρ : Nat → Nat) p a n cap l w, Cds T p a n cap l w →
    Calls P f (.pointer (some ⟨p, 0, none⟩) :: SV.dens ρ rest).toArray w fun e w' => ∃ v, e = .returned (v.den ρ) ∧ (∀ ρ', SV.dens ρ' rest = SV.dens ρ rest → v.den ρ' = v.den ρ) ∧ K v ∧ Cds T p a n cap l w' ∧ Keep w.heap.size p w w'
theorem dSpec_ok {P : Program} {T : TypeId} {f : FuncId} {F : DF} (hfn : hasFn P f) (hd : DrawOk P T f F) {keep : World → Prop} {B : Nat} {may : Nat → Prop} (hkeep : ∀ p w w', may p → keep w → B ≤ w.heap.size → Keep w.heap.size p w w' → keep w') :
    SpecOk P keep B f (dSpec T may F) := by
  refine ⟨hfn, ?_⟩
  intro args g R h ρ own w hw
  unfold dSpec at h
  split at h
  · rename_i p rest
    obtain ⟨⟨F, hg, a, n, cap, l, rfl⟩, hmay, hk⟩ := h
    have hcd : Cds T p a n cap l w := hw.facts _ hg
    refine (hd rest _ hk ρ p a n cap l w hcd).mono ?_
    rintro e w' ⟨v, rfl, hinv, hR, hcd', hK⟩
    have hown : ∀ k, own k → k ≠ p := fun k hk e => hw.apart k hk _ hg (by subst e; exact .inl rfl)
    have hblk : ∀ k, own k → w'.heap[k]? = w.heap[k]? := fun k hk => hK.block k (hw.mine k hk).2 (hown k hk)
    refine ⟨v, g, by simp only [SV.dens, SV.den], fun ρ' hr => hinv ρ' (by simpa [SV.dens, SV.den] using hr), hR, ?_, hblk⟩
    refine ⟨hkeep p w w' hmay hw.keep hw.size hK, Nat.le_trans hw.size hK.size, fun k hk => ⟨(hw.mine k hk).1, Nat.lt_of_lt_of_le (hw.mine k hk).2 hK.size⟩, ?_, hw.apart, hw.alone⟩
    -- the facts: this one, and the others, which do not look at p
    intro f' hf'
    by_cases hp : f'.foot p
    · -- only the choices themselves look at p
      have := hw.alone
      obtain ⟨i, hi, rfl⟩ := List.getElem_of_mem hf'
      obtain ⟨j, hj, hjg⟩ := List.getElem_of_mem hg
      by_cases hij : i = j
      · subst hij
        rw [hjg]
        exact hcd'
      · exfalso
        rw [List.pairwise_iff_getElem] at this
        rcases Nat.lt_or_ge i j with h1 | h1
        · have := (this i j hi hj h1 p).2
          rw [hjg] at this
          exact this rfl hp
        · have := (this j i hj hi (by omega) p).1
          rw [hjg] at this
          exact this rfl hp
    · refine f'.stable _ _ (hw.facts f' hf') fun k hk => hK.block k (f'.lt _ _ (hw.facts f' hf') hk) fun e => hp (e ▸ hk)
  · exact h.elim
/-- A function that draws, by the walk. -/
theorem draw_of_vc {C : Cx} {P : Program} {T : TypeId} {f : FuncId} {fn : Func} (hfn : P.funcs[f]? = some fn) (hcalm : calmF fn = true) {w : World} {p : Nat} {a : Option Addr} {n cap : Nat} {l : List UInt8} (hc : Cds T p a n cap l w)
    (hC : C.ok P (Keep w.heap.size p w) w.heap.size) (rest : List SV) {xs : List Value} (hx : ∀ ρ, SV.dens ρ rest = xs) {Q : SV → Prop}
    (h : ∀ F, F = codesF T p a n cap l → vcF C fn (.val (.pointer (some ⟨p, 0, none⟩)) :: rest) [F] fun v s => (Q v ∧ s.facts = [F])) :
    Calls P f (.pointer (some ⟨p, 0, none⟩) :: xs).toArray w fun e w' => (∃ v ρ, e = .returned (v.den ρ) ∧ Q v) ∧ Cds T p a n cap l w' ∧ Keep w.heap.size p w w' := by
  refine calls_of_vc hC hfn hcalm (.val (.pointer (some ⟨p, 0, none⟩)) :: rest) (xs := (.pointer (some ⟨p, 0, none⟩) :: xs).toArray) (fun ρ => by simp only [SV.dens, SV.den, hx]) [codesF T p a n cap l] w (.refl _ _ _) (Nat.le_refl _) ?_ (List.pairwise_singleton _ _) (h _ rfl) ?_
  · intro f hf
    rw [List.mem_singleton] at hf
    subst hf
    exact hc
  · rintro v s ρ a' w' hf ⟨hq, hs⟩
    exact ⟨⟨v, ρ, rfl, hq⟩, hf.facts _ (by rw [hs]; exact List.mem_singleton_self _), hf.keep⟩
/-! Next. -/
def nextF : DF := fun rest K =>
  match rest with
  | [.int .i64 n] => Ob (fun _ => 1 ≤ n.den ∧ n.den ≤ 65536) (AllIn (fun _ => 0) (fun _ => n.den) fun x => K (.int .i64 (.x x)))
  | _ => False
theorem next_draw : DrawOk Try.prog 94 24 nextF := by
  intro rest K h ρ p a n cap l w hc
  unfold nextF at h
  split at h
  · rename_i m
    obtain ⟨ho, hk⟩ := h
    obtain ⟨h1, h2⟩ := ho ()
    have := mk_Next w.heap.size p m.den w hc.cd h1 h2
    simp only [SV.dens, SV.den]
    refine this.mono ?_
    rintro e w' ⟨x, k, q, rfl, h0, hlt, rfl⟩
    refine ⟨.int .i64 (.x x), by simp only [SV.den, den_x], fun _ _ => rfl, hk.all x h0 hlt, ?_, ?_⟩
    · obtain ⟨k0, hb⟩ := hc.block
      refine ⟨⟨k, ?_⟩, ?_, hc.ne⟩
      · have := blk_set hb 1 (.int .i64 (k : Int))
        simpa using this
      · exact (hc.bs.stable fun j hj => Below.heap_setCell _ _ _ _ (fun e => hc.ne (by simp only at e; rw [← e]; exact hj))).drewN _
    · exact ((Keep.refl w.heap.size p w).setCell (x := ⟨p, 1, none⟩) (.inr rfl) _).drewN _
  · exact h.elim
theorem next_fn : hasFn Try.prog 24 := ⟨_, Try.func24, by rfl, by rfl⟩
theorem keepK (w : World) (p : Nat) : ∀ q a b, q = p → Keep w.heap.size p w a → w.heap.size ≤ a.heap.size → Keep a.heap.size q a b → Keep w.heap.size p w b := by
  rintro q a b rfl h hs k
  exact h.trans (k.mono hs)
theorem keepB (w : World) (p : Nat) : ∀ a b, Keep w.heap.size p w a → Below w.heap.size a b → Keep w.heap.size p w b := fun a b h k => h.then k
theorem keepL (w : World) : ∀ q a b, w.heap.size ≤ q → Below w.heap.size w a → w.heap.size ≤ a.heap.size → Keep a.heap.size q a b → Below w.heap.size w b := by
  intro q a b hq h hs k
  exact h.trans ((k.mono hs).below hq)
/-! Functions that only make memory, of whose result something is known. -/
def nSpec (F : DF) : Spec := fun args g R => F args fun v => R v g
def PureOk (P : Program) (f : FuncId) (F : DF) : Prop :=
  ∀ args K, F args K → ∀ (ρ : Nat → Nat) w, Calls P f (SV.dens ρ args).toArray w fun e w' => ∃ v, e = .returned (v.den ρ) ∧ (∀ ρ', SV.dens ρ' args = SV.dens ρ args → v.den ρ' = v.den ρ) ∧ K v ∧ Below w.heap.size w w'
theorem nSpec_ok {P : Program} {f : FuncId} {F : DF} (hfn : hasFn P f) (hp : PureOk P f F) {keep : World → Prop} {B : Nat} (hkeep : ∀ w w', keep w → Below B w w' → keep w') : SpecOk P keep B f (nSpec F) := by
  refine ⟨hfn, ?_⟩
  intro args g R h ρ own w hw
  refine (hp args _ h ρ w).mono ?_
  rintro e w' ⟨v, rfl, hinv, hR, hb⟩
  obtain ⟨h1, h2⟩ := hw.below hkeep hb
  exact ⟨v, g, rfl, hinv, hR, h1, h2⟩
theorem ex_of {α : Type} {S : α → SV} {Pr : α → Prop} {v : SV} (x : α) (hv : ∀ ρ, v.den ρ = (S x).den ρ) (hp : Pr x) : ∃ x, Pr x ∧ ∀ ρ, v.den ρ = (S x).den ρ := ⟨x, hp, hv⟩
/-- What is drawn is such a thing. -/
theorem draw_all {C : Cx} {P : Program} {T : TypeId} {f : FuncId} {fn : Func} (hfn : P.funcs[f]? = some fn) (hcalm : calmF fn = true) {w : World} {p : Nat} {a : Option Addr} {n cap : Nat} {l : List UInt8} (hc : Cds T p a n cap l w)
    (hC : C.ok P (Keep w.heap.size p w) w.heap.size) (rest : List SV) (hx : ∀ ρ ρ', SV.dens ρ rest = SV.dens ρ' rest) {α : Type} {S : α → SV} {Pr : α → Prop} {K : SV → Prop} (hK : AllT Pr fun x => K (S x)) (hS : ∀ x ρ ρ', (S x).den ρ = (S x).den ρ')
    (h : ∀ F, F = codesF T p a n cap l → vcF C fn (.val (.pointer (some ⟨p, 0, none⟩)) :: rest) [F] fun v s => ((∃ x, Pr x ∧ ∀ ρ, v.den ρ = (S x).den ρ) ∧ s.facts = [F])) (ρ : Nat → Nat) :
    Calls P f (.pointer (some ⟨p, 0, none⟩) :: SV.dens ρ rest).toArray w fun e w' => ∃ v, e = .returned (v.den ρ) ∧ (∀ ρ', SV.dens ρ' rest = SV.dens ρ rest → v.den ρ' = v.den ρ) ∧ K v ∧ Cds T p a n cap l w' ∧ Keep w.heap.size p w w' := by
  refine (draw_of_vc hfn hcalm hc hC rest (xs := SV.dens ρ rest) (fun ρ' => hx ρ' ρ) (Q := fun v => ∃ x, Pr x ∧ ∀ ρ, v.den ρ = (S x).den ρ) h).mono ?_
  rintro e w' ⟨⟨v, ρ', rfl, x, hp, hv⟩, h1, h2⟩
  exact ⟨S x, by rw [hv, hS x ρ' ρ], fun ρ'' _ => hS x _ _, hK.all x hp, h1, h2⟩
end Go.Proofs.Ytiinlanpinanhaa
