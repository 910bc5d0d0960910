/- The walker: keys of maps that are compared as data. -/
import Derived.Test.YtkeefgiajogkkaaVmp
import Derived.Test.YtkeefgiajogkkaaVe
set_option linter.unusedVariables false
set_option linter.unusedSimpArgs false
namespace Go.Proofs.Ytkeefgiajogkkaa.V
open Go.RowKit
section
variable {P : Program} {T : TT} {K : ET}
theorem ask_run {t : TypeId} {ke : Shp} (heq : ∀ (w : World) (Z : Nat → Prop) (x y : ke.D) (cs ds : List Value), Shp.rep w Z ke x cs → Shp.rep w Z ke y ds → (Op.equal t (ke.pk cs) (ke.pk ds)).run P w = .ok (Shp.eqD ke y x) w)
    (w : World) (Z : Nat → Prop) (x : ke.D) (cs : List Value) (hx : Shp.rep w Z ke x cs) : ∀ (ks : List ke.D) (es : List MapEntry) (i : Nat), All2 (fun e y => ∃ kc, Shp.rep w Z ke y kc ∧ e.key = ke.pk kc) es ks →
    ∃ r, (Instr.findAsking t (ke.pk cs) es i).run P w = .ok r w ∧ (match r with
      | none => ∀ y ∈ ks, Shp.eqD ke y x = false
      | some (j, v) => ∃ n, j = i + n ∧ (∃ e, es[n]? = some e ∧ v = e.val) ∧ (∃ y, ks[n]? = some y ∧ Shp.eqD ke y x = true) ∧ ∀ m y, m < n → ks[m]? = some y → Shp.eqD ke y x = false)
 | [], [], i, _ => ⟨none, by simp [Instr.findAsking], fun y hy => by cases hy⟩
 | [], _ :: _, _, h => by cases h
 | _ :: _, [], _, h => by cases h
 | y :: ks, e :: es, i, h => by
   obtain ⟨⟨kc, hk, he⟩, h2⟩ : (∃ kc, Shp.rep w Z ke y kc ∧ e.key = ke.pk kc) ∧ All2 (fun e y => ∃ kc, Shp.rep w Z ke y kc ∧ e.key = ke.pk kc) es ks := by
    exact h
   have hq := heq w Z x y cs kc hx hk
   rw [← he] at hq
   cases hb : Shp.eqD ke y x with
   | true =>
     rw [hb] at hq
     exact ⟨some (i, e.val), by simp [Instr.findAsking, hq], 0, by omega, ⟨e, rfl, rfl⟩, ⟨y, rfl, hb⟩, fun m y hm => by omega⟩
   | false =>
     rw [hb] at hq
     obtain ⟨r, h3, h4⟩ := ask_run heq w Z x cs hx ks es (i + 1) h2
     refine ⟨r, by simp [Instr.findAsking, hq, h3], ?_⟩
     cases r with
     | none =>
       intro y' hy'
       rcases List.mem_cons.1 hy' with rfl | hy'
       ·exact hb
       ·exact h4 y' hy'
     | some p =>
       obtain ⟨j, v⟩ := p
       obtain ⟨n, k1, k2, k3, k4⟩ := h4
       refine ⟨n + 1, by omega, by simpa using k2, by simpa using k3, fun m y' hm hy' => ?_⟩
       cases m with
       | zero =>
         simp only [List.getElem?_cons_zero, Option.some.injEq] at hy'
         rw [← hy']; exact hb
       | succ m => exact k4 m y' (by omega) (by simpa using hy')
theorem chk_fields {em : Bool} {n : Nat} {vs : List SV} (hT : TT.ok P T) (w : World) : ∀ (fs : List Field) (l : List (Nat × TypeId)), fs.map (fun f => (f.name == "_", f.offset, f.type)) = l.map (fun x => (false, x.1, x.2)) →
    (∀ p ∈ l, (∃ k, P.underlying p.2 = some (.int k)) ∧ ∃ i, TT.look T p.2 = some i ∧ ∃ v, partV i vs p.1 = some v) → ∀ (ρ : Nm),
    (forIn (m := Sem) fs PUnit.unit fun f _ => (do
        if f.name ≠ "_" then
         let a ← part f.type (SV.dens ρ vs).toArray f.offset
         Instr.checkKey em (n + 1) f.type a
         pure (ForInStep.yield PUnit.unit)
        else pure (ForInStep.yield PUnit.unit))).run P w = .ok PUnit.unit w
 | [], [], _, _, _ => by simp
 | [], _ :: _, he, _, _ => by cases he
 | _ :: _, [], he, _, _ => by cases he
 | f :: fs, (o, t) :: l, he, h, ρ => by
   simp only [List.map_cons, List.cons.injEq, Prod.mk.injEq] at he
   obtain ⟨⟨h1, rfl, rfl⟩, he⟩ := he
   obtain ⟨⟨k, hk⟩, i, hi, v, hv⟩ := h _ List.mem_cons_self
   have hn : f.name ≠ "_" := by simpa using h1
   have ih := chk_fields (em := em) (n := n) hT w fs l he (fun p hp => h p (List.mem_cons_of_mem _ hp)) ρ
   have hc : (Instr.checkKey em (n + 1) f.type (v.den ρ)).run P w = .ok () w := by
    rw [Instr.checkKey]
    simp only [Sem.run_bind, run_underlying hk, Result.andThen_ok, Sem.run_pure]
   simp only [List.forIn_cons, Sem.run_bind, if_pos hn, partV_part (TT.look_ok hT hi) hv, Result.andThen_ok, hc, Sem.run_pure]
   exact ih
def nm0 : Nm := ⟨fun _ => 0, fun _ => ⟨none, 0, 0⟩, fun _ _ => False⟩
theorem ky_int3 (hT : TT.ok P T) (hK : ET.ok P K) {t a b c : TypeId} (hs : K t = some (.struct [(0, a), (1, b), (2, c)])) (ha : K a = some .int) (hb : K b = some .int) (hc : K c = some .int)
    (hp : ∀ x y z : SV, ∀ p ∈ [(0, a), (1, b), (2, c)], ∃ i, TT.look T p.2 = some i ∧ ∃ v, partV i [x, y, z] p.1 = some v)
    (he : ∀ x y z x' y' z' : IE, ∃ r : BE, eqV T K 8 t (.agg [.int .i64 x, .int .i64 y, .int .i64 z]) (.agg [.int .i64 x', .int .i64 y', .int .i64 z']) = some r ∧ r.den = (x.den == x'.den && (y.den == y'.den && z.den == z'.den))) :
    KyOk P t (.st [.int .i64, .int .i64, .int .i64]) := by
 have hu : EKS P t _ := hK t _ hs
 have rep3 : ∀ (w : World) (Z : Nat → Prop) (x : (Shp.st [.int .i64, .int .i64, .int .i64]).D) (cs : List Value), Shp.rep w Z (.st [.int .i64, .int .i64, .int .i64]) x cs → cs = SV.dens nm0 [.int .i64 (.x x.1), .int .i64 (.x x.2.1), .int .i64 (.x x.2.2.1)] := by
  intro w Z x cs h
  simp only [Shp.rep, Shp.reps] at h
  obtain ⟨v1, v2, rfl, rfl, v3, v4, rfl, rfl, v5, v6, rfl, rfl, rfl⟩ := h
  simp only [SV.dens, SV.den, den_x, List.cons_append, List.nil_append]
 have heq : ∀ (w : World) (Z : Nat → Prop) (x y : (Shp.st [.int .i64, .int .i64, .int .i64]).D) (cs ds : List Value), Shp.rep w Z (.st [.int .i64, .int .i64, .int .i64]) x cs → Shp.rep w Z (.st [.int .i64, .int .i64, .int .i64]) y ds →
     (Op.equal t (Shp.pk (.st [.int .i64, .int .i64, .int .i64]) cs) (Shp.pk (.st [.int .i64, .int .i64, .int .i64]) ds)).run P w = .ok (Shp.eqD (.st [.int .i64, .int .i64, .int .i64]) y x) w := by
  intro w Z x y cs ds hx hy
  rw [rep3 w Z x cs hx, rep3 w Z y ds hy]
  obtain ⟨r, h1, h2⟩ := he (.x x.1) (.x x.2.1) (.x x.2.2.1) (.x y.1) (.x y.2.1) (.x y.2.2.1)
  have := eqV_sound hT hK nm0 w 8 9992 t _ _ _ h1
  rw [h2] at this
  have e : (x.1 == y.1 && (x.2.1 == y.2.1 && x.2.2.1 == y.2.2.1)) = Shp.eqD (.st [.int .i64, .int .i64, .int .i64]) y x := by
   simp only [Shp.eqD, Shp.eqDs, intEq, Bool.and_true]
   congr 1
   ·exact Bool.beq_comm
   ·congr 1 <;> exact Bool.beq_comm
  rw [← e]
  simp only [SV.den, den_x] at this
  exact this
 refine ⟨rfl, fun w Z em x cs hx => ?_, fun w Z x cs ks es hx h2 => ?_⟩
 ·rw [rep3 w Z x cs hx]
  show (Instr.checkKey em 10000 t (.agg _)).run P w = _
  rw [show (10000 : Nat) = (9998 + 1) + 1 from rfl, Instr.checkKey]
  simp only [Sem.run_bind, run_underlying hu.un, Result.andThen_ok]
  rw [← Array.forIn_toList]
  have hf := chk_fields (em := em) (n := 9998) (vs := [.int .i64 (.x x.1), .int .i64 (.x x.2.1), .int .i64 (.x x.2.2.1)]) hT w _ _ hu.fl (fun p hp' => ⟨by
   rcases List.mem_cons.1 hp' with rfl | hp'
   ·exact hK a _ ha
   ·rcases List.mem_cons.1 hp' with rfl | hp'
    ·exact hK b _ hb
    ·rw [List.mem_singleton] at hp'
     subst hp'
     exact hK c _ hc, hp _ _ _ p hp'⟩) nm0
  rw [hf]
  rfl
 ·obtain ⟨r, h3, h4⟩ := ask_run heq w Z x cs hx ks es 0 h2
  have hask : (Instr.findKey t (Shp.pk (.st [.int .i64, .int .i64, .int .i64]) cs) es).run P w = .ok r w := by
   unfold Instr.findKey
   simp only [Sem.run_bind, run_underlying hu.un, Result.andThen_ok]
   cases es with
   | nil =>
     simp only [Instr.findNow]
     simp only [Instr.findAsking] at h3
     exact h3
   | cons e es => simpa only [Instr.findNow, Instr.sameNow] using h3
  refine ⟨r, hask, ?_⟩
  cases r with
  | none => exact h4
  | some p =>
    obtain ⟨j, v⟩ := p
    obtain ⟨n, k1, k2, k3, k4⟩ := h4
    rw [Nat.zero_add] at k1
    subst k1
    exact ⟨k2, k3, k4⟩
theorem now_int {k : IntKind} (w : World) (Z : Nat → Prop) (x : Int) : ∀ (ks : List Int) (es : List MapEntry) (i : Nat), All2 (fun e y => ∃ kc, Shp.rep w Z (.int .i64) y kc ∧ e.key = Shp.pk (.int .i64) kc) es ks →
    ∃ r, Instr.findNow (.int k) (.int .i64 x) es i = some r ∧ (match r with
      | none => ∀ y ∈ ks, Shp.eqD (.int .i64) y x = false
      | some (j, v) => ∃ n, j = i + n ∧ (∃ e, es[n]? = some e ∧ v = e.val) ∧ (∃ y, ks[n]? = some y ∧ Shp.eqD (.int .i64) y x = true) ∧ ∀ m y, m < n → ks[m]? = some y → Shp.eqD (.int .i64) y x = false)
 | [], [], i, _ => ⟨none, rfl, fun y hy => by cases hy⟩
 | [], _ :: _, _, h => by cases h
 | _ :: _, [], _, h => by cases h
 | y :: ks, e :: es, i, h => by
   obtain ⟨⟨kc, hk, he⟩, h2⟩ : (∃ kc, Shp.rep w Z (.int .i64) y kc ∧ e.key = Shp.pk (.int .i64) kc) ∧ All2 (fun e y => ∃ kc, Shp.rep w Z (.int .i64) y kc ∧ e.key = Shp.pk (.int .i64) kc) es ks := by
    exact h
   simp only [Shp.rep] at hk
   subst hk
   have he' : e.key = .int .i64 y := he
   have hq : Instr.sameNow (.int k) (.int .i64 x) e.key = some (x == y) := by rw [he']; simp [Instr.sameNow]
   cases hb : Shp.eqD (.int .i64) y x with
   | true =>
     have hxy : (x == y) = true := by simp only [Shp.eqD, intEq, beq_iff_eq] at hb ⊢; exact hb.symm
     rw [hxy] at hq
     exact ⟨some (i, e.val), by simp only [Instr.findNow, hq], 0, by omega, ⟨e, rfl, rfl⟩, ⟨y, rfl, hb⟩, fun m y hm => by omega⟩
   | false =>
     have hxy : (x == y) = false := by simp only [Shp.eqD, intEq, beq_eq_false_iff_ne, ne_eq] at hb ⊢; exact fun h => hb h.symm
     rw [hxy] at hq
     obtain ⟨r, h3, h4⟩ := now_int (k := k) w Z x ks es (i + 1) h2
     refine ⟨r, by simp only [Instr.findNow, hq, h3], ?_⟩
     cases r with
     | none =>
       intro y' hy'
       rcases List.mem_cons.1 hy' with rfl | hy'
       ·exact hb
       ·exact h4 y' hy'
     | some p =>
       obtain ⟨j, v⟩ := p
       obtain ⟨n, k1, k2, k3, k4⟩ := h4
       refine ⟨n + 1, by omega, by simpa using k2, by simpa using k3, fun m y' hm hy' => ?_⟩
       cases m with
       | zero =>
         simp only [List.getElem?_cons_zero, Option.some.injEq] at hy'
         rw [← hy']; exact hb
       | succ m => exact k4 m y' (by omega) (by simpa using hy')
theorem ky_int {t : TypeId} {k : IntKind} (hu : P.underlying t = some (.int k)) : KyOk P t (.int .i64) := by
 refine ⟨rfl, fun w Z em x cs hx => ?_, fun w Z x cs ks es hx h2 => ?_⟩
 ·simp only [Shp.rep] at hx
  subst hx
  show (Instr.checkKey em 10000 t (.int .i64 x)).run P w = _
  rw [show (10000 : Nat) = 9999 + 1 from rfl, Instr.checkKey]
  simp only [Sem.run_bind, run_underlying hu, Result.andThen_ok, Sem.run_pure]
 ·simp only [Shp.rep] at hx
  subst hx
  obtain ⟨r, h3, h4⟩ := now_int (k := k) w Z x ks es 0 h2
  refine ⟨r, ?_, ?_⟩
  ·show (Instr.findKey t (.int .i64 x) es).run P w = _
   unfold Instr.findKey
   simp only [Sem.run_bind, run_underlying hu, Result.andThen_ok, h3, Sem.run_pure]
  ·cases r with
   | none => exact h4
   | some p =>
     obtain ⟨j, v⟩ := p
     obtain ⟨n, k1, k2, k3, k4⟩ := h4
     rw [Nat.zero_add] at k1
     subst k1
     exact ⟨k2, k3, k4⟩
end
end Go.Proofs.Ytkeefgiajogkkaa.V
