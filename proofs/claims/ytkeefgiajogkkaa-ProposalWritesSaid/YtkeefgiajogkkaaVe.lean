/- The walker that reckons, third part: structs compared. -/
import Derived.Test.YtkeefgiajogkkaaVk
import Derived.ChangeKeysEq
set_option linter.unusedVariables false
set_option linter.unusedSimpArgs false
namespace Go.Proofs.Ytkeefgiajogkkaa.V
open Go.RowKit
theorem bt1 {P : Program} {t b : Nat} (h : (P.info? t).map (·.bytes) = some b) : ∃ i, P.info? t = some i ∧ i.bytes = b := by
 cases hi : P.info? t with
 | none => rw [hi] at h; cases h
 | some i => rw [hi] at h; exact ⟨i, rfl, by simpa using h⟩
inductive EK where
 | int
 | bool
 | str
 | array (n : Nat) (e : TypeId)
 | struct (fs : List (Nat × TypeId))
structure EKS (P : Program) (t : TypeId) (fs : List (Nat × TypeId)) : Prop where
 un : P.underlying t = some (.struct (P.fieldsOf t))
 si : P.stoodInHeld t = false
 fl : (P.fieldsOf t).toList.map (fun f => (f.name == "_", f.offset, f.type)) = fs.map fun x => (false, x.1, x.2)
def EKOk (P : Program) (t : TypeId) : EK → Prop
 | .int => ∃ k, P.underlying t = some (.int k)
 | .bool => P.underlying t = some .bool
 | .str => P.underlying t = some .string
 | .array n e => P.underlying t = some (.array n e)
 | .struct fs => EKS P t fs
abbrev ET := TypeId → Option EK
def ET.ok (P : Program) (K : ET) : Prop := ∀ t k, K t = some k → EKOk P t k
def eqFs (T : TT) (rec : TypeId → SV → SV → Option BE) : List (Nat × TypeId) → List SV → List SV → Option BE
 | [], _, _ => some (.c true)
 | (o, t) :: fs, xs, ys => match TT.look T t with
   | none => none
   | some i => match partV i xs o, partV i ys o with
     | some x, some y => match rec t x y, eqFs T rec fs xs ys with
       | some a, some b => some (BE.mkAnd a b)
       | _, _ => none
     | _, _ => none
def eqIs (T : TT) (rec : TypeId → SV → SV → Option BE) (e : TypeId) (xs ys : List SV) : List Nat → Option BE
 | [] => some (.c true)
 | j :: l => match TT.look T e with
   | none => none
   | some i => match partV i xs (j * i.size), partV i ys (j * i.size) with
     | some x, some y => match rec e x y, eqIs T rec e xs ys l with
       | some a, some b => some (BE.mkAnd a b)
       | _, _ => none
     | _, _ => none
def eqV (T : TT) (K : ET) : Nat → TypeId → SV → SV → Option BE
 | 0, _, _, _ => none
 | n + 1, t, x, y => match K t, x, y with
   | some .int, .int k a, .int k' b => (match nBeq (kNat k) (kNat k') with | true => some (BE.mkCmp .eql a b) | false => none)
   | some .bool, .bool a, .bool b => some (.eqb a b)
   | some .str, x, y => match strOf x, strOf y with
     | some f, some g => some (.t fun u => (f u).toList == (g u).toList)
     | _, _ => none
   | some (.array m e), .agg xs, .agg ys => match m with
     | 0 => none
     | _ => eqIs T (eqV T K n) e xs ys (rangeN 0 m)
   | some (.struct fs), .agg xs, .agg ys => eqFs T (eqV T K n) fs xs ys
   | _, _, _ => none
section
variable {P : Program} {T : TT} {K : ET}
theorem eqFs_sound (hT : TT.ok P T) (ρ : Nm) (w : World) (d : Nat) {rec : TypeId → SV → SV → Option BE} (hrec : ∀ t x y b, rec t x y = some b → (Op.equalIn d t (x.den ρ) (y.den ρ)).run P w = .ok b.den w) :
    ∀ (fs : List Field) (l : List (Nat × TypeId)) (xs ys : List SV) (b : BE), fs.map (fun f => (f.name == "_", f.offset, f.type)) = l.map (fun x => (false, x.1, x.2)) → eqFs T rec l xs ys = some b →
      (Op.eqFields d (SV.dens ρ xs).toArray (SV.dens ρ ys).toArray fs).run P w = .ok b.den w
 | [], [], xs, ys, b, _, h => by
   unfold eqFs at h
   cases h
   simp [Op.eqFields, bden_c]
 | [], _ :: _, _, _, _, he, _ => by cases he
 | _ :: _, [], _, _, _, he, _ => by cases he
 | f :: fs, (o, t) :: l, xs, ys, b, he, h => by
   simp only [List.map_cons, List.cons.injEq, Prod.mk.injEq] at he
   obtain ⟨⟨h1, rfl, rfl⟩, he⟩ := he
   unfold eqFs at h
   split at h
   ·cases h
   ·rename_i i hi
    split at h
    ·rename_i x y hx hy
     split at h
     ·rename_i a b' ha hb
      cases h
      have ih := eqFs_sound hT ρ w d hrec fs l xs ys b' he hb
      have hn : f.name ≠ "_" := by simpa using h1
      simp only [Op.eqFields, if_pos hn, Sem.run_bind, partV_part (TT.look_ok hT hi) hx, partV_part (TT.look_ok hT hi) hy, Result.andThen_ok, hrec _ _ _ _ ha, den_mkAnd]
      cases ha' : a.den with
      | true => simp only [Bool.not_true, Bool.false_eq_true, if_false, ih, Bool.true_and]
      | false => simp
     ·cases h
    ·cases h
theorem rangeN_eq (n : Nat) : ∀ a, rangeN a n = List.range' a n := by
 induction n with
 | zero => intro a; rfl
 | succ n ih => intro a; simp [rangeN, ih, List.range'_succ]
theorem TIOk.cellsOf {P : Program} {t : TypeId} {i : TI} (h : TIOk P t i) : P.cellsOf t = i.size := by
 obtain ⟨j, hj, hs⟩ := h.info
 simp [Program.cellsOf, hj, hs]
theorem eqIs_sound (hT : TT.ok P T) (ρ : Nm) (w : World) (d : Nat) {rec : TypeId → SV → SV → Option BE} (hrec : ∀ t x y b, rec t x y = some b → (Op.equalIn d t (x.den ρ) (y.den ρ)).run P w = .ok b.den w) (e : TypeId) (xs ys : List SV) :
    ∀ (l : List Nat) (b : BE), eqIs T rec e xs ys l = some b → (Op.eqItems d e (P.cellsOf e) (SV.dens ρ xs).toArray (SV.dens ρ ys).toArray l).run P w = .ok b.den w
 | [], b, h => by
   unfold eqIs at h
   cases h
   simp [Op.eqItems, bden_c]
 | j :: l, b, h => by
   unfold eqIs at h
   split at h
   ·cases h
   ·rename_i i hi
    split at h
    ·rename_i x y hx hy
     split at h
     ·rename_i a b' ha hb
      cases h
      have ih := eqIs_sound hT ρ w d hrec e xs ys l b' hb
      have hc := (TT.look_ok hT hi).cellsOf
      rw [hc] at ih
      simp only [Op.eqItems, hc, Sem.run_bind, partV_part (TT.look_ok hT hi) hx, partV_part (TT.look_ok hT hi) hy, Result.andThen_ok, hrec _ _ _ _ ha, den_mkAnd]
      cases ha' : a.den with
      | true => simp only [Bool.not_true, Bool.false_eq_true, if_false, ih, Bool.true_and]
      | false => simp
     ·cases h
    ·cases h
theorem eqV_sound (hT : TT.ok P T) (hK : ET.ok P K) (ρ : Nm) (w : World) : ∀ (n d : Nat) (t : TypeId) (x y : SV) (b : BE), eqV T K n t x y = some b → (Op.equalIn (d + n) t (x.den ρ) (y.den ρ)).run P w = .ok b.den w
 | 0, _, _, _, _, _, h => by cases h
 | n + 1, d, t, x, y, b, h => by
   unfold eqV at h
   split at h
   ·rename_i k a k' b' hk
    cases hkk : nBeq (kNat k) (kNat k') with
    | false => rw [hkk] at h; cases h
    | true =>
      rw [hkk] at h
      cases h
      have := kNat_inj hkk
      subst this
      obtain ⟨kk, hu⟩ := hK t _ hk
      simp only [SV.den, den_mkCmp]
      rw [show d + (n + 1) = (d + n) + 1 by omega, run_equalIn_int w _ t k kk _ _ hu]
      rfl
   ·rename_i a b' hk
    cases h
    have hu : P.underlying t = some .bool := hK t _ hk
    simp only [SV.den, bden_eqb]
    rw [show d + (n + 1) = (d + n) + 1 by omega, run_equalIn_bool' w _ t _ _ hu]
   ·rename_i hk
    have hu : P.underlying t = some .string := hK t _ hk
    split at h
    ·rename_i f g hf hg
     cases h
     have e1 := strOf_den hf ρ
     have e2 := strOf_den hg ρ
     rw [e1, e2, show d + (n + 1) = (d + n) + 1 by omega, run_equalIn_string w _ t _ _ hu, bden_t]
    ·cases h
   ·rename_i m e xs ys hk
    have hu : P.underlying t = some (.array m e) := hK t _ hk
    simp only [SV.den]
    cases m with
    | zero => cases h
    | succ m =>
      simp only [] at h
      have hl : ∃ i, TT.look T e = some i := by
       unfold rangeN eqIs at h
       split at h
       ·cases h
       ·rename_i i hi; exact ⟨i, hi⟩
      obtain ⟨i, hi⟩ := hl
      obtain ⟨j, hj, _⟩ := (TT.look_ok hT hi).info
      rw [show d + (n + 1) = (d + n) + 1 by omega, run_equalIn_array w _ _ _ hu hj]
      have := eqIs_sound hT ρ w (d + n) (fun t x y b hb => eqV_sound hT hK ρ w n d t x y b hb) e xs ys _ _ h
      rw [rangeN_eq, ← List.range_eq_range'] at this
      exact this
   ·rename_i fs xs ys hk
    have hu : EKS P t fs := hK t _ hk
    simp only [SV.den]
    rw [show d + (n + 1) = (d + n) + 1 by omega, run_equalIn_struct w _ t _ _ hu.un hu.si]
    exact eqFs_sound hT ρ w (d + n) (fun t x y b hb => eqV_sound hT hK ρ w n d t x y b hb) _ _ _ _ _ hu.fl h
   ·cases h
def eqF (T : TT) (K : ET) (t : TypeId) : EqF := fun xs ys => eqV T K 8 t (.agg xs) (.agg ys)
theorem eqF_ok (hT : TT.ok P T) (hK : ET.ok P K) {t : TypeId} (hg : P.eqGuardType P.depth t = false) : EqOk P t (eqF T K t) := by
 have key : ∀ xs ys b, eqF T K t xs ys = some b → ∀ (ρ : Nm) (w : World), (Op.equalIn 10000 t (.agg (SV.dens ρ xs).toArray) (.agg (SV.dens ρ ys).toArray)).run P w = .ok b.den w := by
  intro xs ys b h ρ w
  have := eqV_sound hT hK ρ w 8 9992 t _ _ _ h
  simpa only [SV.den] using this
 constructor
 ·intro xs ys b h ρ w x y
  simp only [Sem.run_bind, run_eqGuard_agg _ _ _ _ _ _ _ hg, Result.andThen_ok, run_eql_struct, key _ _ _ h]
 ·intro xs ys b h ρ w x y
  simp only [Sem.run_bind, run_eqGuard_agg _ _ _ _ _ _ _ hg, Result.andThen_ok, run_neq_struct, key _ _ _ h]
end
end Go.Proofs.Ytkeefgiajogkkaa.V
