/- The choices are made: New. -/
import Derived.Test.YtiinlanpinanhaaSd
set_option linter.unusedVariables false
set_option linter.unusedSimpArgs false
namespace Go.Proofs.Ytiinlanpinanhaa
open Go.RowKit
theorem cds_new {T : TypeId} {w : World} {a : Option Addr} {n cap : Nat} {l : List UInt8} (h : Bs w a n cap l) : Cds T w.heap.size a n cap l (w.alloc (.cells #[.slice a n cap, .int .i64 0] T)) := by
  refine ⟨⟨0, blk_new w _ _ rfl⟩, h.mono ((Below.refl _ _).alloc (Nat.le_refl _) _), fun hk => ?_⟩
  have := h.lt hk
  omega
set_option maxHeartbeats 400000 in
theorem mk_NewS (a : Option Addr) (len cap : Nat) (l : List UInt8) (n : Nat) (w : World) (h : Bs w a len cap l) (hn : n ≤ 1048576) :
    Calls Try.prog 15 #[.slice a len cap, .int .i64 n] w fun e w' => e = .returned (.pointer (some ⟨w.heap.size, 0, none⟩)) ∧
      (∃ a' n' cap' l', Cds 94 w.heap.size a' n' cap' l' w' ∧ ∀ k, blkOf a' n' k → blkOf a len k) ∧ Below w.heap.size w w' := by
  have hle := h.le
  have hcap := h.cap_le
  by_cases hlt : n < len
  · obtain ⟨b, off, rfl, hc⟩ := h.cells (by omega)
    have hp := fun hc => h.part 0 n cap (by omega) (by omega) hc
    go_enter Try.func15, Try.ntmps15
    go_wp2
    go_ret
    refine ⟨rfl, ⟨_, _, _, _, cds_new (hp hcap), ?_⟩, (Below.refl _ _).alloc (Nat.le_refl _) _⟩
    rintro k ⟨hk, x, hx, rfl⟩
    refine ⟨by omega, _, rfl, ?_⟩
    cases hx
    rfl
  · go_enter Try.func15, Try.ntmps15
    go_wp2
    go_ret
    exact ⟨rfl, ⟨_, _, _, _, cds_new h, fun _ h => h⟩, (Below.refl _ _).alloc (Nat.le_refl _) _⟩
/-- The choices are made of bytes that came in. -/
structure NewK (T : TypeId) (may : Nat → Prop) (a : Option Addr) (n cap : Nat) (m : Unit → Int) (g : List Fact) (K : Nat → Fact → Prop) : Prop where
  has : ∃ F ∈ g, ∃ l, F = bytesF a n cap l
  le : 0 ≤ m () ∧ m () ≤ 1048576
  k : ∀ (p : Nat) (F : Fact) (a' : Option Addr) (n' cap' : Nat) (l' : List UInt8), may p → F = codesF T p a' n' cap' l' → K p F
def newSpec (T : TypeId) (may : Nat → Prop) : Spec := fun args g R =>
  match args with
  | [.val (.slice a n cap), .int .i64 m] => NewK T may a n cap (fun _ => m.den) g (fun p F => R (.val (.pointer (some ⟨p, 0, none⟩))) (F :: g))
  | _ => False
theorem new_fn : hasFn Try.prog 15 := ⟨_, Try.func15, by rfl, by rfl⟩
theorem new_sp {keep : World → Prop} {B : Nat} {may : Nat → Prop} (hmay : ∀ p, B ≤ p → may p) (hkeep : ∀ w w', keep w → Below B w w' → keep w') : SpecOk Try.prog keep B 15 (newSpec 94 may) := by
  refine ⟨new_fn, ?_⟩
  intro args g R h ρ own w hw
  unfold newSpec at h
  split at h
  · rename_i a n cap m
    obtain ⟨⟨F, hg, l, rfl⟩, ⟨h0, h1⟩, hk⟩ := h
    have hbs : Bs w a n cap l := hw.facts _ hg
    obtain ⟨m', hm⟩ := Int.eq_ofNat_of_zero_le h0
    simp only [SV.dens, SV.den, hm]
    refine (mk_NewS a n cap l m' w hbs (by omega)).mono ?_
    rintro e w' ⟨rfl, ⟨a', n', cap', l', hc, hsub⟩, hb⟩
    obtain ⟨h1, h2⟩ := hw.below hkeep hb
    have hB := hw.size
    refine ⟨.val (.pointer (some ⟨w.heap.size, 0, none⟩)), _, by simp only [SV.den], fun _ _ => by simp only [SV.den], hk w.heap.size _ a' n' cap' l' (hmay _ hB) rfl, ?_, h2⟩
    refine ⟨h1.keep, h1.size, h1.mine, ?_, ?_, ?_⟩
    · intro f hf
      rcases List.mem_cons.1 hf with rfl | hf
      · exact hc
      · exact h1.facts f hf
    · intro k hk f hf
      rcases List.mem_cons.1 hf with rfl | hf
      · rintro (rfl | hk')
        · exact absurd (hw.mine _ hk).2 (Nat.lt_irrefl _)
        · exact hw.apart k hk _ hg (hsub k hk')
      · exact h1.apart k hk f hf
    · refine List.pairwise_cons.2 ⟨fun f hf k => ⟨?_, ?_⟩, h1.alone⟩
      · rintro rfl hk
        exact absurd (f.lt _ _ (hw.facts f hf) hk) (Nat.lt_irrefl _)
      · rintro hx (rfl | hk)
        · exact absurd (f.lt _ _ (hw.facts f hf) (f.sub _ hx)) (Nat.lt_irrefl _)
        · have hx2 := hsub k hk
          obtain ⟨i, hi, rfl⟩ := List.getElem_of_mem hf
          obtain ⟨j, hj, hjg⟩ := List.getElem_of_mem hg
          have hp := List.pairwise_iff_getElem.1 hw.alone
          rcases Nat.lt_trichotomy i j with h1 | h1 | h1
          · have := (hp i j hi hj h1 k).1 hx
            rw [hjg] at this
            exact this hx2
          · subst h1
            rw [hjg] at hx
            exact hx
          · have := (hp j i hj hi h1 k).2 hx
            rw [hjg] at this
            exact this hx2
  · exact h.elim
/-- A law over choices. -/
theorem law_of_vc {C : Cx} {P : Program} {w : World} (hC : C.ok P (Below w.heap.size w) w.heap.size) {f : FuncId} {fn : Func} (hfn : P.funcs[f]? = some fn) (hcalm : calmF fn = true) {a : Option Addr} {n cap : Nat} {l : List UInt8} (hb : Bs w a n cap l)
    (args : List SV) {xs : Array Value} (hx : ∀ ρ, (SV.dens ρ args).toArray = xs) {r : Value} (h : ∀ F, F = bytesF a n cap l → vcF C fn args [F] fun v _ => ∀ ρ : Nat → Nat, v.den ρ = r) :
    Calls P f xs w fun e w' => e = .returned r ∧ Below w.heap.size w w' := by
  refine calls_of_vc hC hfn hcalm args hx [bytesF a n cap l] w (.refl _ _) (Nat.le_refl _) ?_ (List.pairwise_singleton _ _) (h _ rfl) ?_
  · intro f hf
    rw [List.mem_singleton] at hf
    subst hf
    exact hb
  · intro v s ρ a' w' hf hv
    exact ⟨by rw [hv], hf.keep⟩
end Go.Proofs.Ytiinlanpinanhaa
