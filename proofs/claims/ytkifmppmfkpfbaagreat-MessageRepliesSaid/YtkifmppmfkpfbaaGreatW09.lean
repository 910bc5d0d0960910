import Derived.Test.YtkifmppmfkpfbaaGreatW08
import Derived.Laws.CopyRow
set_option linter.unusedVariables false
set_option linter.unusedSimpArgs false
namespace Go.Proofs.YtkifmppmfkpfbaaGreat.V
open Go.RowKit
section
section mem
variable {E : Env} {ρ : Nm} {w : World} {H : List Ent} {G : List FE} {P : Program} {T : TT}
theorem load_stands (hT : TT.ok P T) {H : List Ent} (hf : ∀ e ∈ H, w.heap[ρ.b e.id]? = some (.cells (SV.dens ρ e.cells).toArray e.ty (0, 0))) {t : TypeId} {x : SV} {r : PR} (h : loadV T H t x = some r) (ho : obP r.ob) :
    (Instr.loadAt t (x.den ρ)).run P w = .ok (r.v.den ρ) w := by
 unfold loadV at h
 split at h
 ·rename_i b o
  split at h
  ·rename_i cs i hc hi
   obtain ⟨e, he, rfl, rfl⟩ := mem_cellsE hc
   rw [Option.map_eq_some_iff] at h
   obtain ⟨v, hv, rfl⟩ := h
   simp only [SV.den, Instr.loadAt, Instr.sureAddr, Sem.run_bind, Sem.run_pure, Result.andThen_ok]
   exact partV_load (TT.look_ok hT hi) hv ρ w _ _ _ (hf e he)
  ·cases h
 ·rename_i b o s n i
  split at h
  ·rename_i cs j hc hj
   obtain ⟨e, he, rfl, rfl⟩ := mem_cellsE hc
   split at h
   ·rename_i v hv
    cases h
    obtain ⟨x, hx, hd⟩ := epV_part hv (obIn_spec (n := n) (e := i) ho)
    simp only [SV.den, Instr.loadAt, Instr.sureAddr, Sem.run_bind, Sem.run_pure, Result.andThen_ok, hd ρ]
    exact partV_load (TT.look_ok hT hj) hx ρ w _ _ _ (hf e he)
   ·cases h
  ·cases h
 ·cases h
theorem Hp.stands (hh : Hp E ρ H G w) {ρ' : Nm} (hr : Agr ρ ρ' H G) : ∀ e ∈ H, w.heap[ρ'.b e.id]? = some (.cells (SV.dens ρ' e.cells).toArray e.ty (0, 0)) := fun e he => by
 rw [hr.1 e he]; exact hh.block ρ' hr e he
theorem store_sound (hT : TT.ok P T) (hE : E.ok) (hh : Hp E ρ H G w) {t : TypeId} {x v : SV} {b : Nat} {cs : List SV} (h : storeV T H t x v = some (b, cs)) (ho : onceE H = true) (hv : ∀ ρ', Agr ρ ρ' H G → v.den ρ' = v.den ρ) :
    ∃ w', (Instr.storeAt t (x.den ρ) (v.den ρ)).run P w = .ok () w' ∧ Hp E ρ (setE H b cs) G w' ∧ (∀ ρ'', Agr ρ ρ'' (setE H b cs) G → Agr ρ ρ'' H G) ∧ (∃ e ∈ H, e.id = b) ∧ ∀ k, k ≠ ρ.b b → w'.heap[k]? = w.heap[k]? := by
 unfold storeV at h
 split at h
 ·rename_i b' o
  split at h
  ·rename_i cs0 i hc hi
   obtain ⟨e, he, rfl, rfl⟩ := mem_cellsE hc
   cases hq : (v.flat && nBeq (lenL v.cells) i.size && nBle (o + i.size) (lenL e.cells)) with
   | false => rw [hq] at h; cases h
   | true =>
     rw [hq] at h
     cases h
     simp only [Bool.and_eq_true] at hq
     obtain ⟨⟨h1, h2⟩, h3⟩ := hq
     have h2 := nBeq_eq h2
     have h3 := nBle_le h3
     rw [lenL_eq] at h2 h3
     have hi := TT.look_ok hT hi
     have hvc := fun ρ => SV.flat_cells h1 ρ
     have hb := fun ρ' hr => hh.block ρ' hr e he
     have := run_storeVar_part (P := P) hi w (ρ.b e.id) o e.ty _ (hb ρ (Agr.refl _ _ _)) (v.den ρ) (by rw [hvc]; simp [dens_length, h2]) (by simp [dens_length]; exact h3)
      (by rw [hvc]; exact oneAll_dens h1 ρ)
     refine ⟨_, by simp only [SV.den, Instr.storeAt, Instr.sureAddr, Sem.run_bind, Sem.run_pure, Result.andThen_ok]; exact this, ?_⟩
     have hs := hh.set (w' := w.setRow (ρ.b e.id) (List.take o (SV.dens ρ e.cells) ++ (SV.den ρ v).cells.toList ++ List.drop (o + (SV.den ρ v).cells.toList.length) (SV.dens ρ e.cells)).toArray) hE he ho (catL (takeL o e.cells) (catL v.cells (dropL (o + i.size) e.cells))) (fun k hk' => heap_setRow_other w _ _ k hk') (below_setRow w E.B _ _ (hh.base e he)) (by
      intro ρ' hr
      have hbb : SV.dens ρ' e.cells = SV.dens ρ e.cells := hh.cells_agree hr he
      have hvv : (v.den ρ).cells = (SV.dens ρ' v.cells).toArray := by rw [← hv ρ' hr]; exact hvc ρ'
      rw [heap_setRow_same w _ _ _ _ _ (hb ρ (Agr.refl _ _ _)), hvv]
      simp only [catL_eq, takeL_eq, dropL_eq, dens_append, dens_take, dens_drop, dens_length, h2, List.append_assoc, hbb])
     exact ⟨hs.1, hs.2, ⟨e, he, rfl⟩, fun k hk => heap_setRow_other w _ _ k hk⟩
  ·cases h
 ·cases h
def byteCells (y : Unit → List UInt8) : Nat → Nat → List SV
 | 0, _ => []
 | n + 1, i => .int .u8 (.t fun u => Int.ofNat ((y u).getD i 0).toNat) :: byteCells y n (i + 1)
theorem byteCells_length (y : Unit → List UInt8) : ∀ (n i : Nat), (byteCells y n i).length = n
 | 0, _ => rfl
 | n + 1, i => by simp [byteCells, byteCells_length y n (i + 1)]
theorem byteCells_get (y : Unit → List UInt8) : ∀ (n i k : Nat), k < n → (byteCells y n i)[k]? = some (.int .u8 (.t fun u => Int.ofNat ((y u).getD (i + k) 0).toNat))
 | n + 1, i, 0, _ => by simp [byteCells]
 | n + 1, i, k + 1, h => by
   simp only [byteCells, List.getElem?_cons_succ]
   rw [byteCells_get y n (i + 1) k (by omega), show i + 1 + k = i + (k + 1) by omega]
theorem byteCells_one (y : Unit → List UInt8) : ∀ (n i : Nat), oneAll (byteCells y n i) = true
 | 0, _ => rfl
 | n + 1, i => by simp [byteCells, oneAll, SV.one, byteCells_one y n (i + 1)]
theorem byteCells_den (y : Unit → List UInt8) (ρ ρ' : Nm) : ∀ (n i : Nat), SV.dens ρ (byteCells y n i) = SV.dens ρ' (byteCells y n i)
 | 0, _ => rfl
 | n + 1, i => by simp only [byteCells, SV.dens, SV.den, byteCells_den y ρ ρ' n (i + 1)]
def copyV (T : TT) (H : List Ent) (G : List FE) (t : TypeId) (dst src : SV) : Option ((Unit → Prop) × Nat × List SV × Nat) :=
 match dst, src with
 | .osl b o n _, .fv id => match cellsE H b, findE G id, TT.look T t with
   | some cs, some f, some ⟨.slice te, _, _⟩ => match f.c, TT.look T te with
     | .rows .byte y, some j => match (nBeq j.size 1 && nBlt 0 n && nBle (o + n) (lenL cs)) with
       | true => some (fun u => n ≤ (y u).length, b, catL (takeL o cs) (catL (byteCells y n 0) (dropL (o + n) cs)), n)
       | false => none
     | _, _ => none
   | _, _, _ => none
 | _, _ => none
theorem copy_sound (hT : TT.ok P T) (hE : E.ok) (hh : Hp E ρ H G w) {t t' ty : TypeId} {x v : SV} {ob : Unit → Prop} {b n : Nat} {cs : List SV} (h : copyV T H G t x v = some (ob, b, cs, n)) (hob : ob ()) (ho : onceE H = true) :
    ∃ w', (Builtin.copy_ #[t, t'] ty #[x.den ρ, v.den ρ]).run P w = .ok (goInt n) w' ∧ Hp E ρ (setE H b cs) G w' ∧ (∀ ρ'', Agr ρ ρ'' (setE H b cs) G → Agr ρ ρ'' H G) ∧ (∃ e ∈ H, e.id = b) ∧ (∃ o m cap, x = .osl b o m cap) ∧ ∀ k, k ≠ ρ.b b → w'.heap[k]? = w.heap[k]? := by
 unfold copyV at h
 split at h
 ·rename_i b' o n' cap id
  split at h
  ·rename_i cs0 f te sz z hc hf hl
   split at h
   ·rename_i y j hfc hj
    cases hq : (nBeq j.size 1 && nBlt 0 n' && nBle (o + n') (lenL cs0)) with
    | false => rw [hq] at h; cases h
    | true =>
      rw [hq] at h
      cases h
      simp only [Bool.and_eq_true, nBlt_iff] at hq
      obtain ⟨⟨h1, h2⟩, h3⟩ := hq
      have h1 := nBeq_eq h1
      have h3 := nBle_le h3
      rw [lenL_eq] at h3
      obtain ⟨e, he, rfl, rfl⟩ := mem_cellsE hc
      obtain ⟨hm, hid⟩ := findE_mem hf
      obtain ⟨hbd, cs1, k1, k2, k3⟩ := FE.reads (hh.facts f hm) hfc
      rw [hid] at hbd k2
      have hsz : Shp.byte.size = 1 := rfl
      rw [hsz, Nat.mul_one] at k1
      have hlen : n ≤ (y ()).length := hob
      have hget : ∀ i, i < (y ()).length → cs1[i]? = some (.int .u8 (Int.ofNat ((y ()).getD i 0).toNat)) := by
       intro i hi
       have k := k3 i hi
       simp only [Shp.rep, hsz, chunk, Nat.mul_one] at k
       have : (List.take 1 (List.drop i cs1))[0]? = cs1[i]? := by
        rw [List.getElem?_take_of_lt (by omega), List.getElem?_drop, Nat.add_zero]
       rw [← this, k]
       have hg : (y ()).getD i 0 = (y ())[i] := by simp [List.getD_eq_getElem?_getD, List.getElem?_eq_getElem hi]
       rw [hg]
       rfl
      have htake : cs1.take n = SV.dens ρ (byteCells y n 0) := by
       apply List.ext_getElem?
       intro i
       rcases Nat.lt_or_ge i n with hi | hi
       ·rw [List.getElem?_take_of_lt hi, hget i (by omega), dens_getElem?, byteCells_get y n 0 i hi]
        simp only [Option.map_some, SV.den, den_t, Nat.zero_add]
       ·rw [List.getElem?_eq_none (by rw [List.length_take]; omega), List.getElem?_eq_none (by rw [dens_length, byteCells_length]; omega)]
      obtain ⟨d, hd, hsd⟩ := (TT.look_ok hT hl).under
      cases d <;> simp [Sh.of] at hsd
      subst hsd
      obtain ⟨ji, hji, hjs⟩ := (TT.look_ok hT hj).info
      have hne : cs1 ≠ [] := by
       intro e0
       rw [e0] at k1
       simp at k1
       omega
      rcases k2 with k2 | ⟨b2, off, ha, _, hcell⟩
      ·exact absurd k2 hne
      have hb := fun ρ' hr => hh.block ρ' hr e he
      have hrun := run_copy_row (P := P) w t t' ty _ (ρ.b e.id) o n cap ⟨b2, off, none⟩ (ρ.s id).n (ρ.s id).cap (SV.dens ρ e.cells).toArray e.ty (cs1.take n) hd (by simp [hji, hjs, h1]) (hb ρ (Agr.refl _ _ _))
       (by have := hbd.len; rw [List.length_take, k1, this, Nat.min_comm])
       (fun i u hu => by
        rw [add_plain]
        refine hcell i u ?_
        rw [List.getElem?_take] at hu
        split at hu
        ·exact hu
        ·cases hu)
       (by rw [List.size_toArray, dens_length, List.length_take]; omega)
       (by rw [htake]; exact oneAll_dens (byteCells_one y n 0) ρ)
      have hcl : (cs1.take n).length = n := by rw [List.length_take]; omega
      rw [hcl] at hrun
      refine ⟨_, by simp only [SV.den, Sl.val, ha]; exact hrun, ?_⟩
      have hs := hh.set (w' := w.setRow (ρ.b e.id) (List.take o (SV.dens ρ e.cells) ++ cs1.take n ++ List.drop (o + n) (SV.dens ρ e.cells)).toArray) hE he ho (catL (takeL o e.cells) (catL (byteCells y n 0) (dropL (o + n) e.cells))) (fun k hk' => heap_setRow_other w _ _ k hk') (below_setRow w E.B _ _ (hh.base e he)) (by
       intro ρ' hr
       have hbb : SV.dens ρ' e.cells = SV.dens ρ e.cells := hh.cells_agree hr he
       rw [heap_setRow_same w _ _ _ _ _ (hb ρ (Agr.refl _ _ _)), htake]
       simp only [catL_eq, takeL_eq, dropL_eq, dens_append, dens_take, dens_drop, List.append_assoc, hbb, byteCells_den y ρ' ρ])
      exact ⟨hs.1, hs.2, ⟨e, he, rfl⟩, ⟨_, _, _, rfl⟩, fun k hk => heap_setRow_other w _ _ k hk⟩
   ·cases h
  ·cases h
 ·cases h
end mem
abbrev Spec := Nat → Nat → Nat → List SV → St → (SV → St → Prop) → Prop
structure SpecOk (P : Program) (E : Env) (f : FuncId) (S : Spec) : Prop where
 fn : ∃ fn, P.funcs[f]? = some fn ∧ (fn.name == "runtime.NumGoroutine") = false ∧ fn.body.isNone = false
 calls : ∀ lo hi id args s K, E.lo = lo → E.hi = hi → S lo hi id args s K → ∀ ρ w, Hp E ρ s.heap s.ents w → (∀ ρ', Agr ρ ρ' s.heap s.ents → SV.dens ρ' args = SV.dens ρ args) →
  Calls P f (SV.dens ρ args).toArray w fun e w' => ∃ v s' ρ', e = .returned (v.den ρ') ∧ K v s' ∧ Hp E ρ' s'.heap s'.ents w' ∧ (∀ ρ'', Agr ρ' ρ'' s'.heap s'.ents → Agr ρ ρ'' s.heap s.ents ∧ v.den ρ'' = v.den ρ') ∧ Ext ρ s.heap s.ents w ρ' s'.heap s'.ents w' .no
abbrev SpecT := FuncId → Option Spec
structure SpecOkX (P : Program) (E : Env) (f : FuncId) (S : Spec) : Prop where
 runs : ∀ lo hi id args s K, E.lo = lo → E.hi = hi → S lo hi id args s K → ∀ ρ w, Hp E ρ s.heap s.ents w → (∀ ρ', Agr ρ ρ' s.heap s.ents → SV.dens ρ' args = SV.dens ρ args) →
  ∃ v s' ρ', (callFunc f (SV.dens ρ args).toArray).run P w = .ok (.value (v.den ρ')) w ∧ K v s' ∧ Hp E ρ' s'.heap s'.ents w ∧ (∀ ρ'', Agr ρ' ρ'' s'.heap s'.ents → Agr ρ ρ'' s.heap s.ents ∧ v.den ρ'' = v.den ρ') ∧ Ext ρ s.heap s.ents w ρ' s'.heap s'.ents w .no
def SpecT.ok (P : Program) (E : Env) (T : SpecT) : Prop := ∀ t f, T t = some f → SpecOk P E t f ∨ SpecOkX P E t f
def SpecT.look (T : SpecT) (t : FuncId) : Option Spec := T t
theorem SpecT.look_ok {P : Program} {E : Env} {T : SpecT} {t : FuncId} {f : Spec} (ho : SpecT.ok P E T) (h : SpecT.look T t = some f) : SpecOk P E t f ∨ SpecOkX P E t f := ho t f h
structure CxE where
 pv : TypeId
 pan : St → Prop
 ky : TypeId → Option Shp
 yd : Nat → Spec
 hol : Bool
def CxE.ch (x : CxE) : List PanicEntry := [{ v := .iface x.pv (.agg #[]), recovered := false }]
def CxE.no : CxE := ⟨0, fun _ => False, fun _ => none, fun _ _ _ _ _ _ _ => False, false⟩
structure CxEOk (P : Program) (E : Env) (x : CxE) : Prop where
 ky : ∀ t e, x.ky t = some e → KyOk P t e
 yd : ∀ l lo hi id args s K, E.lo = lo → E.hi = hi → x.yd l lo hi id args s K → ∀ ρ w, Hp E ρ s.heap s.ents w → (∀ ρ', Agr ρ ρ' s.heap s.ents → SV.dens ρ' args = SV.dens ρ args) →
  ∃ f tmps assign body w', (Instr.yield l (SV.dens ρ args).toArray).run P w = .ok (.round l f tmps assign body) w' ∧ RoundIn Fence.wide 0 P l f tmps assign body w' fun e w'' => ∃ v s' ρ', e = .returned (v.den ρ') ∧ K v s' ∧ Hp E ρ' s'.heap s'.ents w'' ∧ ∀ ρ'', Agr ρ' ρ'' s'.heap s'.ents → Agr ρ ρ'' s.heap s.ents ∧ v.den ρ'' = v.den ρ'
theorem CxE.no_ok (P : Program) (E : Env) : CxEOk P E CxE.no := ⟨(fun t e h => by cases h), fun l lo hi id args s K _ _ h => h.elim⟩
structure SpecOkI (P : Program) (E : Env) (x : CxE) (f : FuncId) (S : Spec) : Prop where
 fn : ∃ fn, P.funcs[f]? = some fn ∧ (fn.name == "runtime.NumGoroutine") = false ∧ fn.body.isNone = false
 calls : ∀ lo hi id args s K, E.lo = lo → E.hi = hi → S lo hi id args s K → ∀ ρ w, Hp E ρ s.heap s.ents w → (∀ ρ', Agr ρ ρ' s.heap s.ents → SV.dens ρ' args = SV.dens ρ args) →
  Calls P f (SV.dens ρ args).toArray w fun e w' => (∃ v s' ρ', e = .returned (v.den ρ') ∧ K v s' ∧ Hp E ρ' s'.heap s'.ents w' ∧ ∀ ρ'', Agr ρ' ρ'' s'.heap s'.ents → Agr ρ ρ'' s.heap s.ents ∧ v.den ρ'' = v.den ρ') ∨ ∃ s' ρ', e = .panicked x.ch ∧ x.pan s' ∧ Hp E ρ' s'.heap s'.ents w'
def SpecT.okI (P : Program) (E : Env) (x : CxE) (T : SpecT) : Prop := ∀ t f, T t = some f → SpecOkI P E x t f
structure Cx where
 T : TT
 E : EqT
 Y : TypeId → Option Nat
 shp : TypeId → Option Shp
 S : SpecT
 lo : Nat
 hi : Nat
 I : SpecT
 inl : Bool
 x : CxE
 pin : List (Nat × Nat)
structure SpecsOk (P : Program) (E : Env) (x : CxE) (S I : SpecT) : Prop where
 S : SpecT.ok P E S
 I : SpecT.okI P E x I
theorem noI_ok (P : Program) (E : Env) (x : CxE) : SpecT.okI P E x (fun _ => none) := fun t f h => by cases h
structure Cx.ok (C : Cx) (P : Program) (E : Env) : Prop where
 T : TT.ok P C.T
 eqs : EqT.ok P C.E
 Y : BtOk P C.Y
 SI : SpecsOk P E C.x C.S C.I
 env : E.ok
 lo : E.lo = C.lo
 hi : E.hi = C.hi
 mixed : P.follows .mixedOrders = true
 x : CxEOk P E C.x
theorem Cx.ok.S {C : Cx} {P : Program} {E : Env} (h : C.ok P E) : SpecT.ok P E C.S := h.SI.S
theorem Cx.ok.I {C : Cx} {P : Program} {E : Env} (h : C.ok P E) : SpecT.okI P E C.x C.I := h.SI.I
def pinS (lo : Nat) (s : St) : List (Nat × Nat) → Bool
 | [] => true
 | p :: l => (match nBlt p.1 s.n, s.fr.get p.1 with
   | true, .ptr b 0 => nBeq b p.2 && nBlt p.2 lo && pinS lo s l
   | _, _ => false)
def pinK (C : Cx) (s : St) (X : Prop) : Prop := match C.pin with
 | [] => X
 | p :: l => pinS C.lo s (p :: l) = true ∧ X
theorem pinK_spec {C : Cx} {s : St} {X : Prop} (h : pinK C s X) : pinS C.lo s C.pin = true ∧ X := by
 unfold pinK at h
 split at h
 ·rename_i hp; rw [hp]; exact ⟨rfl, h⟩
 ·rename_i p l hp; rw [hp]; exact h
def PinA (E : Env) (pin : List (Nat × Nat)) (a : Act) : Prop := ∀ p ∈ pin, a.tmps[p.1]? = some (.pointer (some ⟨E.ρ0.b p.2, 0, none⟩))
theorem pin_of {E : Env} {ρ : Nm} {s : St} {a : Act} {w : World} {lo : Nat} (hlo : E.lo = lo) (hf : Fit E ρ s a w) : ∀ {ps : List (Nat × Nat)}, pinS lo s ps = true → PinA E ps a
 | [], _ => fun p hp => by cases hp
 | p :: l, h => by
   unfold pinS at h
   split at h
   ·rename_i b hn hg
    simp only [Bool.and_eq_true, nBlt_iff] at h hn
    obtain ⟨⟨h1, h2⟩, h3⟩ := h
    intro q hq
    rcases List.mem_cons.1 hq with rfl | hq
    ·have k := hf.tmps ρ (Agr.refl _ _ _) _ hn
     rw [hg] at k
     rw [k, nBeq_eq h1]
     simp only [SV.den]
     rw [(hf.hp.anc q.2 (.inl (by omega))).1]
    ·exact pin_of hlo hf h3 q hq
   ·cases h
structure Ob (p : Unit → Prop) (K : Prop) : Prop where
 ob : ∀ u, p u
 k : K
def obK (ob : Option (Unit → Prop)) (K : Prop) : Prop :=
 match ob with
 | none => K
 | some p => Ob p K
theorem obK_spec {ob : Option (Unit → Prop)} {K : Prop} (h : obK ob K) : obP ob ∧ K := by
 cases ob with
 | none => exact ⟨trivial, h⟩
 | some p => exact ⟨h.1 (), h.2⟩
def obsK : List (Unit → Prop) → Prop → Prop
 | [], K => K
 | p :: l, K => Ob p (obsK l K)
theorem obsK_spec : ∀ {l : List (Unit → Prop)} {K : Prop}, obsK l K → (∀ p ∈ l, p ()) ∧ K
 | [], K, h => ⟨fun p hp => (by cases hp), h⟩
 | p :: l, K, h => by
   obtain ⟨h1, h2⟩ := obsK_spec h.2
   refine ⟨fun q hq => ?_, h2⟩
   rcases List.mem_cons.1 hq with rfl | hq
   ·exact h.1 ()
   ·exact h1 q hq
def St.newB (s : St) (n : Nat) (ty : TypeId) (cells : List SV) : St := ⟨s.fr, s.n, insE ⟨n, ty, cells⟩ s.heap, s.ents, s.next⟩
def St.withE (s : St) (G : List FE) : St := ⟨s.fr, s.n, s.heap, G, s.next⟩
def St.withHE (s : St) (H : List Ent) (G : List FE) : St := ⟨s.fr, s.n, H, G, s.next⟩
def St.withHeap (s : St) (b : Nat) (cs : List SV) : St := ⟨s.fr, s.n, setE s.heap b cs, s.ents, s.next⟩
def St.take (s s' : St) : St := ⟨s.fr, s.n, s'.heap, s'.ents, s'.next⟩
def isSomeO : Option Operand → Bool
 | none => false
 | some _ => true
def mxB (mx hi : Option Operand) : Bool := match isSomeO mx with | true => isSomeO hi | false => true
theorem mxB_spec {mx hi : Option Operand} (h : mxB mx hi = true) : mx.isSome = true → hi.isSome = true := by
 unfold mxB at h
 cases mx <;> cases hi <;> simp_all [isSomeO]
def nilO (T : TT) (G : List FE) (ev : Operand → SV) : Op → Option (Unit → Prop)
 | .binOp .eql t x y _ => match ev x, ev y with
   | .fv id, .val (.slice none _ _) => match TT.look T t, findE G id with
     | some ⟨.slice _, _, _⟩, some f => match f.c with
       | .rows _ d => some fun u => (d u).length = 0
       | _ => none
     | _, _ => none
   | _, _ => none
 | _ => none
theorem nilO_sound {P : Program} {T : TT} {E : Env} {H : List Ent} {G : List FE} {w : World} {ρ : Nm} (hh : Hp E ρ H G w) (hT : TT.ok P T) {ev : Operand → SV} {op : Op} {p : Unit → Prop} (h : nilO T G ev op = some p) (o : Oper) (hop : o.op = op) (A : Act) (hA : ∀ x, A.eval x = (ev x).den ρ) :
    ∃ b, (execOp A.eval o).run P w = .ok (.value (.bool b)) w ∧ (b = true → p ()) := by
 unfold nilO at h
 split at h
 ·rename_i t x y t'
  split at h
  ·rename_i id n c hx hy
   split at h
   ·rename_i e sz z f hl hf
    split at h
    ·rename_i e' d hc
     cases h
     obtain ⟨hm, hid⟩ := findE_mem hf
     have hb : bin2V T .eql t (.val (ρ.s id).val) (.val (.slice none n c)) = some ⟨none, .bool (.t fun _ => isNoneA (ρ.s id).a)⟩ := by
      unfold bin2V
      simp only [Sl.val, strOf, hl, eqW]
      cases (ρ.s id).a <;> rfl
     have := bin2V_sound hT hb ρ w x y trivial
     refine ⟨isNoneA (ρ.s id).a, ?_, fun hn => ?_⟩
     ·unfold execOp
      simp only [hop, hA, hx, hy, SV.den] at this ⊢
      simp only [Sem.run_bind] at this ⊢
      rw [this]
      simp only [bden_t, Result.andThen_ok, Sem.run_pure]
     ·obtain ⟨_, cs, h1, h2, _⟩ := FE.reads (hh.facts f hm) hc
      have hp := hh.pos f hm e' d hc
      rw [hid] at h2
      rcases h2 with h2 | ⟨b, off, ha, _⟩
      ·rw [h2] at h1
       simp only [List.length_nil] at h1
       rcases Nat.eq_zero_or_pos (d ()).length with h0 | h0
       ·exact h0
       ·have := Nat.mul_pos h0 hp
        omega
      ·rw [ha] at hn
       cases hn
    ·cases h
   ·cases h
  ·cases h
 ·cases h
def appS : List SV → List SV → List SV
 | [], l => l
 | v :: a, l => v :: appS a l
theorem appS_eq (a b : List SV) : appS a b = a ++ b := by
 induction a with
 | nil => rfl
 | cons v a ih => simp [appS, ih]
def entK (C : Cx) (id : Nat) (o : Oper) (s : St) (K : St → Prop) : Prop :=
 match entV C.T s.ents id s.ev o.op with
 | some (r, news) => freshL C.lo C.hi s.heap s.ents news = true ∧ obK r.ob (K ((s.withE (catE news s.ents)).put o.dst r.v))
 | none => False
structure RL5 where
 v : List SV
 H : List Ent
 G : List FE
 n : Nat
 ob : List (Unit → Prop)
def litR (H : List Ent) (G : List FE) (n b m : Nat) : Option (List (Unit → Prop) × List FE) :=
 match cellsE H b with
 | some cs => match nBle m 1000000 && nBeq (lenL cs) m && nBlt 0 m with
   | true => match decN (fun l => dec (lessE H [b]) (deadB b :: G) .byte l) m cs with
     | some d => match d.bs, d.ids with
       | [], [] => some (d.ob, ⟨n, false, 0, [], .rows .byte d.x⟩ :: deadB b :: G)
       | _, _ => none
     | none => none
   | false => none
 | none => none
theorem cellsE_at : ∀ {l : List Ent} {b : Nat} {cs : List SV}, cellsE l b = some cs → ∃ e ∈ l, e.id = b ∧ e.cells = cs
 | [], _, _, h => by cases h
 | x :: l, b, cs, h => by
   simp only [cellsE] at h
   cases hb : nBeq x.id b <;> rw [hb] at h
   ·obtain ⟨e, he, h3⟩ := cellsE_at h
    exact ⟨e, List.mem_cons_of_mem _ he, h3⟩
   ·cases h
    exact ⟨x, List.mem_cons_self, nBeq_eq hb, rfl⟩
theorem litR_sound {E : Env} {w : World} {ρ : Nm} {H : List Ent} {G : List FE} {n b m : Nat} {obs : List (Unit → Prop)} {G' : List FE} (hh : Hp E ρ H G w) (h : litR H G n b m = some (obs, G')) (ho : ∀ p ∈ obs, p ()) (hfr : Fresh E n H G) :
    (∃ e ∈ H, e.id = b) ∧ ∃ ρ', Hp E ρ' (lessE H [b]) G' w ∧ ∀ ρ'', Agr ρ' ρ'' (lessE H [b]) G' → Agr ρ ρ'' H G ∧ (SV.fv n).den ρ'' = (SV.osl b 0 m m).den ρ := by
 unfold litR at h
 split at h
 ·rename_i cs hcs
  split at h
  ·rename_i hq
   simp only [Bool.and_eq_true, nBlt_iff] at hq
   obtain ⟨⟨h1, h2⟩, h3⟩ := hq
   have h1 := nBle_le h1
   have h2 := nBeq_eq h2
   rw [lenL_eq] at h2
   split at h
   ·rename_i d hd
    split at h
    ·rename_i hbs hids
     cases h
     obtain ⟨e0, he0, hid0, hce0⟩ := cellsE_at hcs
     refine ⟨⟨e0, he0, hid0⟩, ?_⟩
     obtain ⟨k1, k2⟩ := hh.drop b
     obtain ⟨used, h4, h5, h6, h7⟩ := decN_sound (sz := 1) (fun Z a vs h => Shp.rep_length .byte a vs h) (fun l d h ho => dec_sound k1 .byte l d h ho) m _ _ hd ho
     have hrest : d.rest = [] := by
      have := congrArg List.length h4
      rw [List.length_append, h2, h6] at this
      exact List.eq_nil_of_length_eq_zero (by omega)
     rw [hrest, List.append_nil] at h4
     rw [← h4] at h7
     have hblk := hh.block ρ (Agr.refl _ _ _) e0 he0
     rw [hid0, hce0] at hblk
     have hbase := hh.base e0 he0
     rw [hid0] at hbase
     have hlt := hh.lt he0
     rw [hid0] at hlt
     have hnb : n ≠ b := fun h => hfr.H e0 he0 (by rw [hid0, h])
     have hfr2 : Fresh E n (lessE H [b]) (deadB b :: G) := ⟨hfr.lo, hfr.hi, fun e he => hfr.H e (lessE_mem he), fun g hg => by
      rcases List.mem_cons.1 hg with rfl | hg
      ·exact Ne.symm hnb
      ·exact hfr.G g hg, fun g hg => by
      rcases List.mem_cons.1 hg with rfl | hg
      ·rfl
      ·exact hfr.N g hg⟩
     have hz : Zok E ρ (lessE H [b]) (deadB b :: G) w [] (fun k => k = ρ.b b) := ⟨fun k hk => by rw [hk]; exact hlt, fun e' he' hk => by
         rw [← hid0] at hk
         exact lessE_ne he' ((hh.inj e' (lessE_mem he') e0 he0 hk).trans hid0), fun g hg k hk hk2 => by
         rcases List.mem_cons.1 hg with rfl | hg
         ·unfold FE.excl deadB at hk; exact hk
         ·rw [hk2, ← hid0] at hk
          exact hh.apart e0 he0 g hg (FE.excl_foot hk), fun k hk => .inl (by rw [hk]; exact hbase)⟩
     obtain ⟨q1, q2, _⟩ := k1.share (f := ⟨n, false, 0, [], .rows .byte d.x⟩) hfr2 rfl rfl (by decide) hz (s := ⟨some ⟨ρ.b b, 0, none⟩, m, m⟩) ⟨⟨h5.symm, by rw [h5]; exact Nat.le_refl _, by simp only; omega, by rw [h5]; omega⟩, SV.dens ρ cs, by rw [dens_length, h2, h5]; simp [Shp.size], .inr ⟨ρ.b b, 0, rfl, rfl, fun j v hv => by
      unfold World.cell?
      simp only [Nat.zero_add, hblk]
      simpa using hv⟩, fun i hi => h7 _ (fun k hk => by
       rw [hbs, hids] at hk
       rcases hk with ⟨_, hi, _⟩ | ⟨_, hi, _⟩ <;> cases hi) i hi⟩
     exact ⟨_, q1, fun ρ'' hr => ⟨k2 _ (q2 ρ'' hr).1, by simp only [SV.den]; rw [show ρ''.s n = _ from (q2 ρ'' hr).2]; rfl⟩⟩
    ·cases h
   ·cases h
  ·cases h
 ·cases h
def relit1 (S : TypeId → Option Shp) (lo hi : Nat) (b o m cap : Nat) (H : List Ent) (G : List FE) (n : Nat) : RL5 :=
 match nBeq o 0 && nBeq m cap && fresh lo hi n H G with
 | true => match litE S H G n b m with
   | some (obs, G') => ⟨[.fv n], lessE H [b], G', n + 1, obs⟩
   | none => match litR H G n b m with
     | some (obs, G') => ⟨[.fv n], lessE H [b], G', n + 1, obs⟩
     | none => ⟨[.osl b o m cap], H, G, n, []⟩
 | false => ⟨[.osl b o m cap], H, G, n, []⟩
def hd1 : List SV → SV
 | v :: _ => v
 | [] => .val undef
mutual
def relitV (S : TypeId → Option Shp) (lo hi : Nat) (H : List Ent) (G : List FE) (n : Nat) : SV → RL5
 | .osl b o m cap => relit1 S lo hi b o m cap H G n
 | .agg cs => match relitL S lo hi H G n cs with
   | ⟨cs', H', G', n', ob⟩ => ⟨[.agg cs'], H', G', n', ob⟩
 | .tup cs => match relitL S lo hi H G n cs with
   | ⟨cs', H', G', n', ob⟩ => ⟨[.tup cs'], H', G', n', ob⟩
 | v => ⟨[v], H, G, n, []⟩
def relitL (S : TypeId → Option Shp) (lo hi : Nat) (H : List Ent) (G : List FE) (n : Nat) : List SV → RL5
 | [] => ⟨[], H, G, n, []⟩
 | v :: l => match relitV S lo hi H G n v with
   | ⟨v', H', G', n', ob⟩ => match relitL S lo hi H' G' n' l with
     | ⟨l', H2, G2, n2, ob2⟩ => ⟨hd1 v' :: l', H2, G2, n2, catP ob ob2⟩
end
section relit
variable {E : Env} {w : World} {S : TypeId → Option Shp} {lo hi : Nat}
theorem relit1_sound (hlo : E.lo = lo) (hhi : E.hi = hi) {ρ : Nm} {b o m cap : Nat} {H : List Ent} {G : List FE} {n : Nat} (hh : Hp E ρ H G w) (ho : ∀ p ∈ (relit1 S lo hi b o m cap H G n).ob, p ()) :
    ∃ ρ', Hp E ρ' (relit1 S lo hi b o m cap H G n).H (relit1 S lo hi b o m cap H G n).G w ∧ ∀ ρ'', Agr ρ' ρ'' (relit1 S lo hi b o m cap H G n).H (relit1 S lo hi b o m cap H G n).G → Agr ρ ρ'' H G ∧ (hd1 (relit1 S lo hi b o m cap H G n).v).den ρ'' = (SV.osl b o m cap).den ρ'' := by
 unfold relit1 at ho ⊢
 cases hq : (nBeq o 0 && nBeq m cap && fresh lo hi n H G) with
 | false => exact ⟨ρ, hh, fun ρ'' hr => ⟨hr, rfl⟩⟩
 | true =>
   rw [hq] at ho
   simp only [Bool.and_eq_true] at hq
   obtain ⟨⟨h1, h2⟩, h3⟩ := hq
   have h1 := nBeq_eq h1
   have h2 := nBeq_eq h2
   subst h1
   subst h2
   cases hl : litE S H G n b m with
   | none =>
     rw [hl] at ho
     cases hl2 : litR H G n b m with
     | none => exact ⟨ρ, hh, fun ρ'' hr => ⟨hr, rfl⟩⟩
     | some r =>
       obtain ⟨obs, G'⟩ := r
       simp only [hl2] at ho
       obtain ⟨⟨e, he, hid⟩, ρ', k1, k2⟩ := litR_sound hh hl2 ho (fresh_spec h3 hlo hhi)
       refine ⟨ρ', k1, fun ρ'' hr => ⟨(k2 ρ'' hr).1, ?_⟩⟩
       have := (k2 ρ'' hr).2
       simp only [hd1]
       rw [this]
       have hb : ρ''.b b = ρ.b b := by
        rw [← hid]
        exact (k2 ρ'' hr).1.1 e he
       simp only [SV.den, hb]
   | some r =>
     obtain ⟨obs, G'⟩ := r
     rw [hl] at ho
     obtain ⟨ρ', k1, k2, _, _⟩ := lit_sound hh hl ho (fresh_spec h3 hlo hhi)
     refine ⟨ρ', k1, fun ρ'' hr => ⟨(k2 ρ'' hr).1, ?_⟩⟩
     have := (k2 ρ'' hr).2
     simp only [hd1]
     rw [this]
     have hb : ρ''.b b = ρ.b b := by
      unfold litE at hl
      split at hl
      ·rename_i cs te hcs hte
       obtain ⟨e, he, hid, _⟩ := tyE_cells hcs hte
       rw [← hid]
       exact (k2 ρ'' hr).1.1 e he
      ·cases hl
     simp only [SV.den, hb]
mutual
theorem relitV_sound (hlo : E.lo = lo) (hhi : E.hi = hi) : ∀ (v : SV) {ρ : Nm} {H : List Ent} {G : List FE} {n : Nat}, Hp E ρ H G w → (∀ p ∈ (relitV S lo hi H G n v).ob, p ()) →
    ∃ ρ', Hp E ρ' (relitV S lo hi H G n v).H (relitV S lo hi H G n v).G w ∧ ∀ ρ'', Agr ρ' ρ'' (relitV S lo hi H G n v).H (relitV S lo hi H G n v).G → Agr ρ ρ'' H G ∧ (hd1 (relitV S lo hi H G n v).v).den ρ'' = v.den ρ''
 | .osl b o m cap, ρ, H, G, n, hh, ho => by
   unfold relitV at ho ⊢
   exact relit1_sound hlo hhi hh ho
 | .agg cs, ρ, H, G, n, hh, ho => by
   unfold relitV at ho ⊢
   obtain ⟨ρ', k1, k2⟩ := relitL_sound hlo hhi cs hh ho
   exact ⟨ρ', k1, fun ρ'' hr => ⟨(k2 ρ'' hr).1, by simp only [hd1, SV.den, (k2 ρ'' hr).2]⟩⟩
 | .tup cs, ρ, H, G, n, hh, ho => by
   unfold relitV at ho ⊢
   obtain ⟨ρ', k1, k2⟩ := relitL_sound hlo hhi cs hh ho
   exact ⟨ρ', k1, fun ρ'' hr => ⟨(k2 ρ'' hr).1, by simp only [hd1, SV.den, (k2 ρ'' hr).2]⟩⟩
 | .int _ _, ρ, H, G, n, hh, ho => ⟨ρ, by unfold relitV; exact hh, fun ρ'' hr => by unfold relitV at hr ⊢; exact ⟨hr, rfl⟩⟩
 | .bool _, ρ, H, G, n, hh, ho => ⟨ρ, by unfold relitV; exact hh, fun ρ'' hr => by unfold relitV at hr ⊢; exact ⟨hr, rfl⟩⟩
 | .str _, ρ, H, G, n, hh, ho => ⟨ρ, by unfold relitV; exact hh, fun ρ'' hr => by unfold relitV at hr ⊢; exact ⟨hr, rfl⟩⟩
 | .ptr _ _, ρ, H, G, n, hh, ho => ⟨ρ, by unfold relitV; exact hh, fun ρ'' hr => by unfold relitV at hr ⊢; exact ⟨hr, rfl⟩⟩
 | .ep _ _ _ _ _, ρ, H, G, n, hh, ho => ⟨ρ, by unfold relitV; exact hh, fun ρ'' hr => by unfold relitV at hr ⊢; exact ⟨hr, rfl⟩⟩
 | .fv _, ρ, H, G, n, hh, ho => ⟨ρ, by unfold relitV; exact hh, fun ρ'' hr => by unfold relitV at hr ⊢; exact ⟨hr, rfl⟩⟩
 | .fp _ _ _ _, ρ, H, G, n, hh, ho => ⟨ρ, by unfold relitV; exact hh, fun ρ'' hr => by unfold relitV at hr ⊢; exact ⟨hr, rfl⟩⟩
 | .val _, ρ, H, G, n, hh, ho => ⟨ρ, by unfold relitV; exact hh, fun ρ'' hr => by unfold relitV at hr ⊢; exact ⟨hr, rfl⟩⟩
 | .fnv _ _, ρ, H, G, n, hh, ho => ⟨ρ, by unfold relitV; exact hh, fun ρ'' hr => by unfold relitV at hr ⊢; exact ⟨hr, rfl⟩⟩
 | .fbv _ _, ρ, H, G, n, hh, ho => ⟨ρ, by unfold relitV; exact hh, fun ρ'' hr => by unfold relitV at hr ⊢; exact ⟨hr, rfl⟩⟩
 | .mp _, ρ, H, G, n, hh, ho => ⟨ρ, by unfold relitV; exact hh, fun ρ'' hr => by unfold relitV at hr ⊢; exact ⟨hr, rfl⟩⟩
theorem relitL_sound (hlo : E.lo = lo) (hhi : E.hi = hi) : ∀ (l : List SV) {ρ : Nm} {H : List Ent} {G : List FE} {n : Nat}, Hp E ρ H G w → (∀ p ∈ (relitL S lo hi H G n l).ob, p ()) →
    ∃ ρ', Hp E ρ' (relitL S lo hi H G n l).H (relitL S lo hi H G n l).G w ∧ ∀ ρ'', Agr ρ' ρ'' (relitL S lo hi H G n l).H (relitL S lo hi H G n l).G → Agr ρ ρ'' H G ∧ SV.dens ρ'' (relitL S lo hi H G n l).v = SV.dens ρ'' l
 | [], ρ, H, G, n, hh, ho => ⟨ρ, by unfold relitL; exact hh, fun ρ'' hr => by unfold relitL at hr ⊢; exact ⟨hr, rfl⟩⟩
 | v :: l, ρ, H, G, n, hh, ho => by
   unfold relitL at ho ⊢
   simp only [catP_eq] at ho
   obtain ⟨ρ1, k1, k2⟩ := relitV_sound hlo hhi v (n := n) hh fun p hp => ho p (List.mem_append_left _ hp)
   obtain ⟨ρ2, r1, r2⟩ := relitL_sound hlo hhi l (n := (relitV S lo hi H G n v).n) k1 fun p hp => ho p (List.mem_append_right _ hp)
   refine ⟨ρ2, r1, fun ρ'' hr => ?_⟩
   obtain ⟨q1, q2⟩ := r2 ρ'' hr
   obtain ⟨q3, q4⟩ := k2 ρ'' q1
   exact ⟨q3, by simp only [SV.dens, q2, q4]⟩
end
end relit
def recE (b : Nat) (v : List SV) : List Ent → List Ent
 | [] => []
 | e :: l => (match nBeq e.id b with | true => ⟨e.id, e.ty, v⟩ | false => e) :: recE b v l
theorem recE_mem {b : Nat} {v : List SV} : ∀ {l : List Ent} {e : Ent}, e ∈ recE b v l → ∃ e0 ∈ l, e0.id = e.id ∧ e0.ty = e.ty ∧ (e0 = e ∨ (e.id = b ∧ e.cells = v))
 | [], _, h => by cases h
 | x :: l, e, h => by
   unfold recE at h
   rcases List.mem_cons.1 h with h | h
   ·cases hb : nBeq x.id b with
    | true =>
      rw [hb] at h
      simp only at h
      subst h
      exact ⟨x, List.mem_cons_self, rfl, rfl, .inr ⟨nBeq_eq hb, rfl⟩⟩
    | false =>
      rw [hb] at h
      simp only at h
      subst h
      exact ⟨e, List.mem_cons_self, rfl, rfl, .inl rfl⟩
   ·obtain ⟨e0, k1, k2⟩ := recE_mem h
    exact ⟨e0, List.mem_cons_of_mem _ k1, k2⟩
theorem recE_ids {b : Nat} {v : List SV} : ∀ {l : List Ent} {e0 : Ent}, e0 ∈ l → ∃ e ∈ recE b v l, e.id = e0.id
 | [], _, h => by cases h
 | x :: l, e0, h => by
   unfold recE
   rcases List.mem_cons.1 h with h | h
   ·subst h
    refine ⟨_, List.mem_cons_self, ?_⟩
    cases hb : nBeq e0.id b <;> rfl
   ·obtain ⟨e, k1, k2⟩ := recE_ids h
    exact ⟨e, List.mem_cons_of_mem _ k1, k2⟩
theorem recE_agr {b : Nat} {v : List SV} {H : List Ent} {G : List FE} {ρ ρ' : Nm} (h : Agr ρ ρ' (recE b v H) G) : Agr ρ ρ' H G :=
 ⟨fun e0 he0 => by
  obtain ⟨e, k1, k2⟩ := recE_ids (b := b) (v := v) he0
  rw [← k2]
  exact h.1 e k1, h.2⟩
theorem Hp.recell {E : Env} {ρ : Nm} {H : List Ent} {G : List FE} {w : World} (hh : Hp E ρ H G w) {b : Nat} {v : List SV} (hc : ∀ ρ', Agr ρ ρ' H G → ∃ ty, w.heap[ρ.b b]? = some (.cells (SV.dens ρ' v).toArray ty (0, 0))) : Hp E ρ (recE b v H) G w := by
 refine ⟨hh.keep, hh.size, fun e he => ?_, fun ρ' hr e he => ?_, fun e he e' he' => ?_, hh.facts, hh.pos, fun e he => ?_, hh.alone, hh.exB, hh.al, hh.anc⟩
 ·obtain ⟨e0, k1, k2, _⟩ := recE_mem he
  rw [← k2]
  exact hh.base e0 k1
 ·obtain ⟨e0, k1, k2, k3, k4⟩ := recE_mem he
  have h0 := hh.block ρ' (recE_agr hr) e0 k1
  rcases k4 with rfl | ⟨k4, k5⟩
  ·exact h0
  ·obtain ⟨ty, h1⟩ := hc ρ' (recE_agr hr)
   rw [k2, k4, h1] at h0
   rw [k4, k5, h1, ← k3]
   simp only [Option.some.injEq, Obj.cells.injEq] at h0 ⊢
   exact ⟨trivial, h0.2⟩
 ·obtain ⟨e0, k1, k2, _⟩ := recE_mem he
  obtain ⟨e1, q1, q2, _⟩ := recE_mem he'
  rw [← k2, ← q2]
  exact hh.inj e0 k1 e1 q1
 ·obtain ⟨e0, k1, k2, _⟩ := recE_mem he
  rw [← k2]
  exact hh.apart e0 k1
def setO (ev : Operand → SV) (t0 : Nat) (v : SV) : Operand → SV
 | .tmp a => (match nBeq a t0 with | true => v | false => ev (.tmp a))
 | o => ev o
def sliceL (C : Cx) (id : Nat) (s : St) (t : TypeId) (x : Operand) (lo hi mx : Option Operand) : Option (List (Unit → Prop) × SV × List Ent × List FE) :=
 match x with
 | .tmp t0 => match s.ev (.tmp t0) with
   | .osl b 0 n cap => match nBeq n cap, cellsE s.heap b with
     | true, some cs => match relitL C.shp C.lo C.hi s.heap s.ents id cs with
       | ⟨v, H1, G1, k, ob1⟩ => match litE C.shp (recE b v H1) G1 k b n with
         | some (ob2, G2) => match sliceE C.T G2 (k + 1) (setO s.ev t0 (.fv k)) t (.tmp t0) lo hi mx with
           | some (ob3, r, G3) => match fresh C.lo C.hi k (recE b v H1) G1 && fresh C.lo C.hi (k + 1) (lessE (recE b v H1) [b]) G2 with
             | true => some (catP ob1 (catP ob2 [ob3]), r, lessE (recE b v H1) [b], G3)
             | false => none
           | none => none
         | none => none
     | _, _ => none
   | _ => none
 | _ => none
theorem litE_mem {S : TypeId → Option Shp} {H : List Ent} {G : List FE} {n b m : Nat} {r : List (Unit → Prop) × List FE} (h : litE S H G n b m = some r) : ∃ e ∈ H, e.id = b := by
 unfold litE at h
 split at h
 ·rename_i cs te hcs hte
  obtain ⟨e, k1, k2, _⟩ := mem_cellsE hcs
  exact ⟨e, k1, k2⟩
 ·cases h
theorem sliceL_sound {P : Program} {C : Cx} {E : Env} (hT : TT.ok P C.T) (hlo : E.lo = C.lo) (hhi : E.hi = C.hi) {ρ : Nm} {w : World} {s : St} (hh : Hp E ρ s.heap s.ents w) {id : Nat} {t : TypeId} {x : Operand} {lo hi mx : Option Operand} {obs : List (Unit → Prop)} {r : SV} {H : List Ent} {G : List FE}
    (h : sliceL C id s t x lo hi mx = some (obs, r, H, G)) (ho : ∀ p ∈ obs, p ()) (hmx : mx.isSome = true → hi.isSome = true) (o : Oper) (hop : o.op = .slice t x lo hi mx) (a : Act) (hA0 : ∀ ρ', Agr ρ ρ' s.heap s.ents → ∀ y, a.eval y = (s.ev y).den ρ') :
    (∃ b o n c, s.ev x = .osl b o n c) ∧ ∃ ρ', Hp E ρ' H G w ∧ ∀ ρ'', Agr ρ' ρ'' H G → Agr ρ ρ'' s.heap s.ents ∧ (execOp a.eval o).run P w = .ok (.value (r.den ρ'')) w := by
 unfold sliceL at h
 split at h
 ·rename_i t0
  split at h
  ·rename_i b n cap hx
   split at h
   ·rename_i cs hcap hcs
    have hcap := nBeq_eq hcap
    subst hcap
    refine ⟨⟨b, 0, n, n, hx⟩, ?_⟩
    generalize hr : relitL C.shp C.lo C.hi s.heap s.ents id cs = rr at h
    obtain ⟨v, H1, G1, k, ob1⟩ := rr
    simp only at h
    split at h
    ·rename_i ob2 G2 hlit
     split at h
     ·rename_i ob3 r' G3 hsl
      split at h
      ·rename_i hf
       simp only [Bool.and_eq_true] at hf
       cases h
       rw [catP_eq, catP_eq] at ho
       have hs := relitL_sound (S := C.shp) (lo := C.lo) (hi := C.hi) hlo hhi cs (n := id) hh (by rw [hr]; exact fun p hp => ho p (List.mem_append_left _ hp))
       rw [hr] at hs
       obtain ⟨ρ1, k1, k2⟩ := hs
       obtain ⟨e0, he0, hid0, hc0⟩ := mem_cellsE hcs
       have hh2 := k1.recell (b := b) (v := v) fun ρ' hg => by
        have g := k2 ρ' hg
        have g1 := k2 ρ1 (Agr.refl _ _ _)
        have hb := hh.block ρ' g.1 e0 he0
        rw [hc0, ← g.2, ← g1.1.1 e0 he0, hid0] at hb
        exact ⟨_, hb⟩
       obtain ⟨ρ2, l1, l2, _, _⟩ := lit_sound hh2 hlit (fun p hp => ho p (List.mem_append_right _ (List.mem_append_left _ hp))) (fresh_spec hf.1 hlo hhi)
       obtain ⟨ρ3, q1, q5, q3⟩ := sliceE_sound hT l1 hsl (ho _ (List.mem_append_right _ (List.mem_append_right _ List.mem_cons_self))) hmx (fresh_spec hf.2 hlo hhi) o hop
       refine ⟨ρ3, q1, fun ρ'' hg => ?_⟩
       have a3 := q3 ρ'' hg
       have a2 := l2 ρ'' a3.1
       have a0 := (k2 ρ'' (recE_agr a2.1)).1
       refine ⟨a0, a3.2 a fun y => ?_⟩
       have hy := hA0 ρ'' a0 y
       cases y with
       | tmp a' =>
         simp only [setO]
         cases hn : nBeq a' t0 with
         | true =>
           have hn := nBeq_eq hn
           subst hn
           simp only
           rw [hy, hx, a2.2]
           obtain ⟨e, he, hid⟩ := litE_mem hlit
           have := a2.1.1 e he
           rw [hid] at this
           simp only [SV.den, this]
         | false => exact hy
       | _ => exact hy
      ·cases h
     ·cases h
    ·cases h
   ·cases h
  ·cases h
 ·cases h
theorem run_append_full {P : Program} {w : World} (t ty e : TypeId) (i : TypeInfo) (z : Value) (size : Nat) (ht : P.underlying t = some (.slice e)) (hi : P.info? e = some i) (hz : i.zero = some z)
    (hsize : i.size = size) (hzs : z.cells.size = size) (ba : Addr) (n : Nat) (olds : List Value) (hlo : olds.length = n * size) (holds : ∀ j u, olds[j]? = some u → w.cell? (ba.add j) = some u)
    (a : Addr) (m c : Nat) (news : List Value) (hl : news.length = m * size) (hnews : ∀ j u, news[j]? = some u → w.cell? (a.add j) = some u) (hm : 0 < m) (h63 : n + m ≤ maxLen) (hbytes : (n + m) * i.bytes ≤ 140737488355328) :
    ∃ v' w', (Builtin.append_ #[t, t] ty #[.slice (some ba) n n, .slice (some a) m c]).run P w = .ok v' w' ∧ w'.ownsRow 0 e size v' (n + m) (olds ++ news) ∧ w.grownBy w' none ∧ ∀ k, v'.ownBlock = some k → k = w.heap.size := by
 subst hsize
 have hsmall : n + m ≤ 9223372036854775807 := by simp only [maxLen] at h63; omega
 have hlen : (olds ++ news).length = (n + m) * i.size := by rw [List.length_append, hlo, hl, Nat.add_mul]
 have hr := run_append_grow (P := P) w t ty e i z ht hi hz ba n n olds hlo holds a m c news hl hnews (by omega) (by omega) (growslice_fits (by omega) hbytes)
 have hge := grownCap_ge w (n + m) n e
 have hcm : grownCap w (n + m) n e ≤ maxLen := grownCap_le_maxLen w (n + m) n e h63
 refine ⟨_, _, hr, ⟨hlen, .inr ⟨w.heap.size, _, _, rfl, Nat.zero_le _, heap_alloc_new w.drew _, hge, hcm, ?_, ?_⟩⟩, ⟨rfl, rfl, rfl, by simp, fun k hk _ => heap_alloc_old w.drew _ (r := k) hk⟩, fun k hk => by simp [Value.ownBlock] at hk; exact hk.symm⟩
 ·simp only [Array.size_append, List.size_toArray, size_zeroCells, hzs, hlo, hl, ← Nat.add_mul]
  congr 1
  omega
 ·simp only [Array.toList_append, List.append_assoc]
  rw [← List.append_assoc, ← hlen]
  exact List.take_left
def appO (T : TT) (Y : TypeId → Option Nat) (S : TypeId → Option Shp) (H : List Ent) (G : List FE) (n : Nat) (t : TypeId) (x y : SV) : Option (List (Unit → Prop) × List FE) :=
 match x with
 | .osl _ _ m cap => match nBeq m cap, TT.look T t with
   | true, some ⟨.slice te, _, _⟩ => match TT.look T te, Y te, S te with
     | some j, some b, some e => match nBeq j.size e.size && nBlt 0 e.size && nBeq (lenL j.zero) j.size && flat e with
       | true => match srcE H G e x, srcE H G e y with
         | some d0, some d1 => some (catP ((fun u => 0 < (d0.x u).length ∧ 0 < (d1.x u).length ∧ ((d0.x u).length + (d1.x u).length) * b ≤ 140737488355328 ∧ (d0.x u).length + (d1.x u).length ≤ 140737488355328) :: d0.ob) d1.ob, ⟨n, true, te, [], .rows e (fun u => d0.x u ++ d1.x u)⟩ :: G)
         | _, _ => none
       | false => none
     | _, _, _ => none
   | _, _ => none
 | _ => none
theorem appO_sound {P : Program} {T : TT} (hT : TT.ok P T) {Y : TypeId → Option Nat} (hY : BtOk P Y) {S : TypeId → Option Shp} {E : Env} (hE : E.ok) {ρ : Nm} {H : List Ent} {G : List FE} {w : World} (hh : Hp E ρ H G w) {n : Nat} {t : TypeId} {x y : SV} {obs : List (Unit → Prop)} {G' : List FE} (h : appO T Y S H G n t x y = some (obs, G')) (ho : ∀ p ∈ obs, p ()) (hfr : Fresh E n H G) (ty : TypeId) :
    ∃ v' w' ρ', (Builtin.append_ #[t, t] ty #[x.den ρ, y.den ρ]).run P w = .ok v' w' ∧ Hp E ρ' H G' w' ∧ (∀ ρ'', Agr ρ' ρ'' H G' → Agr ρ ρ'' H G ∧ (SV.fv n).den ρ'' = v') ∧ Ext ρ H G w ρ' H G' w' .no := by
 unfold appO at h
 split at h
 ·rename_i b0 o0 m cap
  split at h
  ·rename_i te sz z0 hcap hl
   have hcap := nBeq_eq hcap
   subst hcap
   obtain ⟨d, hd, hsd⟩ := (TT.look_ok hT hl).under
   cases d <;> simp [Sh.of] at hsd
   subst hsd
   rename_i te
   split at h
   ·rename_i j b e hj hb he
    obtain ⟨i, z, hi, hsz, hz, hzc⟩ := (TT.look_ok hT hj).zeroRow
    obtain ⟨i', hi', hby⟩ := hY.ok _ _ hb
    rw [hi] at hi'
    cases hi'
    split at h
    ·rename_i hck
     simp only [Bool.and_eq_true, nBlt_iff] at hck
     obtain ⟨⟨⟨s1, s2⟩, s3⟩, hfl⟩ := hck
     have s1 := nBeq_eq s1
     have s3 := nBeq_eq s3
     rw [lenL_eq] at s3
     split at h
     ·rename_i d0 d1 hd0 hd1
      cases h
      rw [catP_eq] at ho
      have hb0 := ho _ (List.mem_append_left _ List.mem_cons_self)
      obtain ⟨q0, q1, q2, q3⟩ := hb0
      obtain ⟨sl0, news0, a1, a2, a3, a4, a5⟩ := (src_sound hh hd0 fun p hp => ho p (List.mem_append_left _ (List.mem_cons_of_mem _ hp))).ex
      obtain ⟨sl1, news1, e1, e2, e3, e4, e5⟩ := (src_sound hh hd1 fun p hp => ho p (List.mem_append_right _ hp)).ex
      have hw : i.size = e.size := hsz.trans s1
      have ne0 : news0 ≠ [] := fun hc => by
       rw [hc] at a3
       have := Nat.mul_pos q0 s2
       simp only [List.length_nil] at a3
       omega
      have ne1 : news1 ≠ [] := fun hc => by
       rw [hc] at e3
       have := Nat.mul_pos q1 s2
       simp only [List.length_nil] at e3
       omega
      obtain ⟨b1, off1, ha1, _, hc1⟩ : ∃ b off, sl0.a = some ⟨b, off, none⟩ ∧ True ∧ ∀ j u, news0[j]? = some u → w.cell? ((⟨b, off, none⟩ : Addr).add j) = some u := by
       rcases a4 with hc | ⟨b, off, ha, _, hc⟩
       ·exact absurd hc ne0
       ·exact ⟨b, off, ha, trivial, fun j u hu => by rw [add_plain]; exact hc j u hu⟩
      obtain ⟨b2, off2, ha2, _, hc2⟩ : ∃ b off, sl1.a = some ⟨b, off, none⟩ ∧ True ∧ ∀ j u, news1[j]? = some u → w.cell? ((⟨b, off, none⟩ : Addr).add j) = some u := by
       rcases e4 with hc | ⟨b, off, ha, _, hc⟩
       ·exact absurd hc ne1
       ·exact ⟨b, off, ha, trivial, fun j u hu => by rw [add_plain]; exact hc j u hu⟩
      have hx : (SV.osl b0 o0 m m).den ρ = .slice (some ⟨b1, off1, none⟩) (d0.x ()).length (d0.x ()).length := by
       rw [a1]
       simp only [SV.den, Sl.val] at a1
       injection a1 with f1 f2 f3
       simp only [Sl.val, ha1, ← a2, ← f2, ← f3]
      have hy : y.den ρ = .slice (some ⟨b2, off2, none⟩) (d1.x ()).length sl1.cap := by
       rw [e1]
       simp only [Sl.val, ha2, e2]
      obtain ⟨v', w', s', k1, k2, k3, k4, k5⟩ := app_put (P := P) hE hh (n := n) hfr (te := te) (e := e) s2 (v := .slice none 0 0) (y := []) (Z0 := fun _ => False) ⟨[], World.ownsRow_nil w 0 te e.size, fun i hi => by simp at hi⟩ (fun k hk => by simp [Value.ownBlock] at hk)
       (x := d0.x () ++ d1.x ()) (news := news0 ++ news1) (by rw [List.length_append, List.length_append, a3, e3, Nat.add_mul]) (Z1 := fun _ => True)
       (fun i hi => by
        have hi2 := hi
        rw [List.length_append] at hi2
        rcases Nat.lt_or_ge i (d0.x ()).length with hlt | hge
        ·rw [chunk_append_left a3 hlt, List.getElem_append_left hlt]
         exact Shp.rep_mono (fun _ _ => trivial) (fun _ _ => rfl) e _ _ (a5 i hlt)
        ·obtain ⟨k, rfl⟩ := Nat.exists_eq_add_of_le hge
         have hk : k < (d1.x ()).length := by omega
         rw [chunk_append_right a3, List.getElem_append_right (by omega)]
         simp only [Nat.add_sub_cancel_left]
         exact Shp.rep_mono (fun _ _ => trivial) (fun _ _ => rfl) e _ _ (e5 k hk))
       (by rw [List.length_append, List.length_nil]; omega) (X := Builtin.append_ #[t, t] ty #[(SV.osl b0 o0 m m).den ρ, y.den ρ])
       (fun cs hcs => by
        have hcs0 : cs = [] := List.eq_nil_of_length_eq_zero (by have := hcs.1; simpa using this)
        subst hcs0
        obtain ⟨v', w', r1, r2, r3, r4⟩ := run_append_full (P := P) (w := w) t ty te i z e.size hd hi hz hw (hzc.trans (s3.trans s1)) ⟨b1, off1, none⟩ (d0.x ()).length news0 a3 hc1 ⟨b2, off2, none⟩ (d1.x ()).length sl1.cap news1 e3 hc2 q1 (by simp only [maxLen]; omega) (by rw [hby]; exact q2)
        rw [hx, hy]
        refine ⟨v', w', r1, ?_, r3, fun k hk => .inr (r4 k hk)⟩
        rw [List.nil_append, List.length_append, List.length_nil, Nat.zero_add]
        exact r2)
       (al := []) (Z := fun _ => False) (fun k hk => by simp [Value.ownBlock] at hk) ⟨fun k hk => hk.elim, fun e he hk => hk.elim, fun g hg k _ hk => hk.elim, fun k hk => hk.elim⟩ (fun k hk => by simp [Value.ownBlock] at hk) (.inl hfl) (c := fun u => d0.x u ++ d1.x u) rfl
      refine ⟨v', w', _, k1, k3, fun ρ'' hr => ?_, ?_⟩
      ·obtain ⟨g1, g2⟩ := k4 ρ'' hr
       exact ⟨g1, by simp only [SV.den, g2, k2]⟩
      ·have hr2 := k4 _ (Agr.refl _ _ _)
       refine ⟨fun e' he' _ => ⟨he', hr2.1.1 e' he', hh.cells_agree hr2.1 he'⟩, fun id f _ hf hal => ?_⟩
       have hidn : n ≠ id := fun e0 => hfr.G f (findE_mem hf).1 (by rw [(findE_mem hf).2, e0])
       have hne' : f.id ≠ n := by rw [(findE_mem hf).2]; exact Ne.symm hidn
       exact ⟨f, by rw [find_cons_ne hidn]; exact hf, rfl, (Fk.refl ρ f).names (FE.foot_names (by rfl) (by simp [Nm.setS, hne']) (by simp [Nm.setS, hne'])), fun k hk => k5 k (hh.foot_lt (findE_mem hf).1 hk) (by simp [Value.ownBlock])⟩
     ·cases h
    ·cases h
   ·cases h
  ·cases h
 ·cases h
def sliceC (T : TT) (ev : Operand → SV) (t : TypeId) (x : Operand) (lo hi mx : Option Operand) : Option ((Unit → Prop) × SV) :=
 match ev x, lo, hi, mx with
 | .osl b o n cap, some q, none, none => match ev q, TT.look T t with
   | .int _ (.c m), some ⟨.slice te, _, _⟩ => match TT.look T te with
     | some j => match nBle n cap with
       | true => some (fun _ => 0 ≤ m ∧ m < n, .osl b (o + m.toNat * j.size) (n - m.toNat) (cap - m.toNat))
       | false => none
     | none => none
   | _, _ => none
 | _, _, _, _ => none
theorem sliceC_sound {P : Program} {T : TT} (hT : TT.ok P T) {ev : Operand → SV} {t : TypeId} {x : Operand} {lo hi mx : Option Operand} {ob : Unit → Prop} {v : SV} (h : sliceC T ev t x lo hi mx = some (ob, v)) (ho : ob ()) (o : Oper) (hop : o.op = .slice t x lo hi mx) (A : Act) (ρ : Nm) (hA : ∀ y, A.eval y = (ev y).den ρ) (w : World) :
    (execOp A.eval o).run P w = .ok (.value (v.den ρ)) w := by
 unfold sliceC at h
 split at h
 ·rename_i b off n cap q hx
  split at h
  ·rename_i kk m te sz z0 hq hl
   split at h
   ·rename_i j hj
    split at h
    ·rename_i hle
     have hle := nBle_le hle
     cases h
     obtain ⟨o1, o2⟩ := ho
     obtain ⟨d, hd, hsd⟩ := (TT.look_ok hT hl).under
     cases d <;> simp [Sh.of] at hsd
     subst hsd
     have b1 := bound_den (ev := ev) (x := some q) (i := some (.c m)) (by simp only [boundV, hq]) A hA
     have r := run_slice_bounds hd (TT.look_ok hT hj) (some ⟨ρ.b b, off, none⟩) n cap hle (some (.c m)) none none _ _ _ b1 rfl rfl (by simp only [lowD, den_c]; exact o1) (by simp only [lowD, highD, den_c]; omega) (by simp only [highD]; omega) trivial (by simp) w
     unfold execOp
     rw [hop]
     simp only [hA, hx, SV.den, Sem.run_bind]
     have e : sliced (some ⟨ρ.b b, off, none⟩) (lowD (some (.c m))).toNat (highD n none).toNat (capD cap none) j.size = .slice (some ⟨ρ.b b, off + m.toNat * j.size, none⟩) (n - m.toNat) (cap - m.toNat) := by
      simp only [sliced, lowD, highD, capD, den_c, Int.toNat_natCast]
      rw [if_neg (by omega), Option.map_some, add_plain]
     rw [e] at r
     erw [r]
     rfl
    ·cases h
   ·cases h
  ·cases h
 ·cases h
def appN (T : TT) (G : List FE) (t : TypeId) (y : SV) : Option (Unit → Prop) :=
 match y with
 | .fv id => match findE G id, TT.look T t with
   | some f, some ⟨.slice te, _, _⟩ => match f.c, TT.look T te with
     | .rows _ x, some _ => some (fun u => (x u).length = 0)
     | _, _ => none
   | _, _ => none
 | _ => none
theorem appN_sound {P : Program} {T : TT} (hT : TT.ok P T) {E : Env} {ρ : Nm} {H : List Ent} {G : List FE} {w : World} (hh : Hp E ρ H G w) {t : TypeId} {y : SV} {ob : Unit → Prop} (h : appN T G t y = some ob) (ho : ob ()) (a : Addr) (n cap : Nat) (hc : n ≤ cap) (ty : TypeId) :
    (Builtin.append_ #[t, t] ty #[.slice (some a) n cap, y.den ρ]).run P w = .ok (.slice (some a) n cap) w := by
 unfold appN at h
 split at h
 ·rename_i id
  split at h
  ·rename_i f te sz z0 hf hl
   split at h
   ·rename_i e x j hfc hj
    cases h
    obtain ⟨d, hd, hsd⟩ := (TT.look_ok hT hl).under
    cases d <;> simp [Sh.of] at hsd
    subst hsd
    obtain ⟨i, z, hi, hsz, hz, hzc⟩ := (TT.look_ok hT hj).zeroRow
    have hbd := (FE.reads (hh.facts f (findE_mem hf).1) hfc).bd
    have hid := (findE_mem hf).2
    have hn : (ρ.s id).n = 0 := by rw [← hid, hbd.len]; exact ho
    simp only [SV.den, Sl.val, hn]
    cases (ρ.s id).a with
    | none => simp [Builtin.append_, run_underlying hd, sizeOf, typeInfo, hi, Builtin.lenOf, Builtin.firstCells, hc, storeCells]
    | some b => simp [Builtin.append_, run_underlying hd, sizeOf, typeInfo, hi, Builtin.lenOf, Builtin.firstCells, hc, storeCells, loadCells, loadCellsFrom]
   ·cases h
  ·cases h
 ·cases h
def oslOf : List SV → Option (Nat × Nat)
 | [] => none
 | .osl b 0 n cap :: _ => (match nBeq n cap with | true => some (b, n) | false => none)
 | _ :: l => oslOf l
def setOsl (k : Nat) : List SV → List SV
 | [] => []
 | .osl b 0 n cap :: l => .fv k :: l
 | v :: l => v :: setOsl k l
theorem setOsl_den {k b n : Nat} {ρ : Nm} : ∀ {cs : List SV}, oslOf cs = some (b, n) → (SV.fv k).den ρ = (SV.osl b 0 n n).den ρ → SV.dens ρ (setOsl k cs) = SV.dens ρ cs
 | [], h, _ => by cases h
 | v :: l, h, e => by
   unfold oslOf at h
   unfold setOsl
   split at h
   ·rename_i heq
    cases heq
   ·rename_i b' n' cap l' heq
    cases heq
    cases hb : nBeq n' cap with
    | true =>
      rw [hb] at h
      cases h
      have := nBeq_eq hb
      subst this
      simp only [SV.dens, e]
    | false => rw [hb] at h; cases h
   ·rename_i v' l' hne heq
    cases heq
    simp only [SV.dens, setOsl_den h e]
def keptO (G1 : List FE) : List FE → Bool
 | [] => true
 | f :: l => (match findE G1 f.id with | some g => eqB g.own f.own | none => true) && keptO G1 l
theorem keptO_mem {G1 : List FE} : ∀ {l : List FE}, keptO G1 l = true → ∀ f ∈ l, ∀ g, findE G1 f.id = some g → g.own = f.own
 | [], _, f, hf => by cases hf
 | x :: l, h, f, hf => fun g hg => by
   simp only [keptO, Bool.and_eq_true] at h
   rcases List.mem_cons.1 hf with rfl | hf
   ·have h1 := h.1
    simp only [hg] at h1
    exact eqB_eq h1
   ·exact keptO_mem h.2 f hf g hg
def storeL (C : Cx) (id : Nat) (s : St) (t : TypeId) (x v : SV) : Option (List (Unit → Prop) × List Ent × List FE) :=
 match x, v with
 | .fp _ _ _ _, .agg cs => match oslOf cs with
   | some (b, n) => match litE C.shp s.heap s.ents id b n with
     | some (ob1, G1) => match storeN C.T (lessE s.heap [b]) G1 t x (.agg (setOsl id cs)) with
       | some (ob2, _, G2) => match fresh C.lo C.hi id s.heap s.ents && keptO G1 s.ents with
         | true => some (catP ob1 ob2, lessE s.heap [b], G2)
         | false => none
       | none => none
     | none => none
   | none => none
 | _, _ => none
theorem storeL_sound {C : Cx} {P : Program} {E : Env} {ρ : Nm} {s : St} {w : World} (hT : TT.ok P C.T) (hE : E.ok) (hlo : E.lo = C.lo) (hhi : E.hi = C.hi) (hh : Hp E ρ s.heap s.ents w) {id : Nat} {t : TypeId} {x v : SV} {obs : List (Unit → Prop)} {H2 : List Ent} {G2 : List FE}
    (h : storeL C id s t x v = some (obs, H2, G2)) (ho : ∀ p ∈ obs, p ()) (hxv : ∀ ρ', Agr ρ ρ' s.heap s.ents → x.den ρ' = x.den ρ ∧ v.den ρ' = v.den ρ) :
    ∃ w' ρ', (Instr.storeAt t (x.den ρ) (v.den ρ)).run P w = .ok () w' ∧ Hp E ρ' H2 G2 w' ∧ (∀ ρ'', Agr ρ' ρ'' H2 G2 → Agr ρ ρ'' s.heap s.ents) ∧ ∃ eid i z o cs b n, x = .fp eid i z o ∧ v = .agg cs ∧ oslOf cs = some (b, n) ∧ Ext ρ s.heap s.ents w ρ' H2 G2 w' (.two eid b) := by
 unfold storeL at h
 split at h
 ·rename_i eid i z o cs
  split at h
  ·rename_i b n hos
   split at h
   ·rename_i ob1 G1 hl
    split at h
    ·rename_i ob2 eid' G2' hs
     split at h
     ·rename_i hq
      cases h
      simp only [Bool.and_eq_true] at hq
      simp only [catP_eq] at ho
      obtain ⟨ρ1, a1, a2, a3, _⟩ := lit_sound hh hl (fun p hp => ho p (List.mem_append_left _ hp)) (fresh_spec hq.1 hlo hhi)
      obtain ⟨⟨i2, z2, o2, hx2⟩, w', ρ', b1, b2, b3, b4⟩ := storeN_sound hT hE a1 hs (fun p hp => ho p (List.mem_append_right _ hp))
      cases hx2
      obtain ⟨g1, g2⟩ := a2 ρ1 (Agr.refl _ _ _)
      have hb : ρ1.b b = ρ.b b := by
       unfold litE at hl
       split at hl
       ·rename_i c0 te hcs hte
        obtain ⟨e, he, hid, _⟩ := tyE_cells hcs hte
        rw [← hid]
        exact g1.1 e he
       ·cases hl
      have hv : (SV.agg (setOsl id cs)).den ρ1 = (SV.agg cs).den ρ := by
       rw [← (hxv ρ1 g1).2]
       simp only [SV.den]
       rw [setOsl_den hos (by rw [g2]; simp only [SV.den, hb])]
      rw [(hxv ρ1 g1).1, hv] at b1
      refine ⟨w', ρ', b1, b2, fun ρ'' hr => (a2 ρ'' (b3 ρ'' hr)).1, _, _, _, _, _, _, _, rfl, rfl, hos, ⟨fun e he hne => ?_, fun j f hne hfi hal => ?_⟩⟩
      ·obtain ⟨p1, p2, p3⟩ := a3.H e he fun hb => hne (.inr hb)
       obtain ⟨q1, q2, q3⟩ := b4.H e p1 fun hb => hne (.inl hb)
       exact ⟨q1, q2.trans p2, q3.trans p3⟩
      ·obtain ⟨f1, p1, p2, p3⟩ := a3.G j f (fun hb => hne (.inr hb)) hfi
       obtain ⟨f2, q1, q2, q3, q4⟩ := b4.G j f1 (fun hb => hne (.inl hb)) p1 hal
       have hfm := findE_mem hfi
       have hown := keptO_mem hq.2 f hfm.1 f1 (by rw [hfm.2]; exact p1)
       exact ⟨f2, q1, q2.trans p2, p3.trans q3, fun k hk => q4 k (p3.sup hown k hk)⟩
     ·cases h
    ·cases h
   ·cases h
  ·cases h
 ·cases h
def step0 (C : Cx) (id : Nat) (o : Oper) (s : St) (K : St → Prop) : Prop :=
 match o.op with
 | .alloc t => match TT.look C.T t with
   | some i => fresh C.lo C.hi id s.heap s.ents = true ∧ K ((s.newB id t i.zero).put o.dst (.ptr id 0))
   | none => False
 | .box t x => ((s.ev x).flat && fresh C.lo C.hi id s.heap s.ents) = true ∧ K ((s.newB id t (s.ev x).cells).put o.dst (.ptr id 0))
 | .build t parts => match buildV C.T s.ev t parts.toList with
   | some v => K (s.put o.dst v)
   | none => False
 | .buildSlice t n parts => match buildSliceV C.T s.ev t n parts.toList with
   | some (e, cs) => fresh C.lo C.hi id s.heap s.ents = true ∧ K ((s.newB id e cs).put o.dst (.osl id 0 n n))
   | none => False
 | .makeSlice t x y => match sameO x y, mkZ C.T C.Y C.shp s.ents id t (s.ev x) with
   | true, some (obs, G) => fresh C.lo C.hi id s.heap s.ents = true ∧ obsK obs (K ((s.withE G).put o.dst (.fv id)))
   | _, _ => False
 | .load t x => match loadV C.T s.heap t (s.ev x) with
   | some r => obK r.ob (K (s.put o.dst r.v))
   | none => entK C id o s K
 | .store t x y => match storeV C.T s.heap t (s.ev x) (s.ev y) with
   | some (b, cs) => onceE s.heap = true ∧ K ((s.withHeap b cs).put o.dst (.val undef))
   | none => match storeE C.T s.heap s.ents t (s.ev x) (s.ev y) with
     | some (obs, _, G) => obsK obs (K ((s.withE G).put o.dst (.val undef)))
     | none => match storeN C.T s.heap s.ents t (s.ev x) (s.ev y) with
       | some (obs, _, G) => obsK obs (K ((s.withE G).put o.dst (.val undef)))
       | none => match storeL C id s t (s.ev x) (s.ev y) with
         | some (obs, H, G) => obsK obs (K ((s.withHE H G).put o.dst (.val undef)))
         | none => False
 | .pick c x y => match s.ev c with
   | .bool (.c true) => K (s.put o.dst (s.ev x))
   | .bool (.c false) => K (s.put o.dst (s.ev y))
   | .bool b => (b.den = true → K (s.put o.dst (s.ev x))) ∧ (b.den = false → K (s.put o.dst (s.ev y)))
   | _ => False
 | .slice t x lo hi mx => match pureV C.T C.E s.ev (.slice t x lo hi mx) with
   | some r => obK r.ob (K (s.put o.dst r.v))
   | none => match sliceE C.T s.ents id s.ev t x lo hi mx with
     | some (ob, v, G) => (mxB mx hi && fresh C.lo C.hi id s.heap s.ents) = true ∧ Ob ob (K ((s.withE G).put o.dst v))
     | none => match sliceC C.T s.ev t x lo hi mx with
       | some (ob, v) => Ob ob (K (s.put o.dst v))
       | none => match sliceL C id s t x lo hi mx with
         | some (obs, v, H, G) => mxB mx hi = true ∧ obsK obs (K ((s.withHE H G).put o.dst v))
         | none => False
 | .call c => match c.callee with
   | .value (.tmp t) => match s.ev (.tmp t) with
     | .fnv f cs => match SpecT.look C.I f with
       | some S => pinK C s (S C.lo C.hi id (appS (evs s.ev c.args.toList) cs) s fun v s' => K ((s.take s').put o.dst v))
       | none => match SpecT.look C.S f with
         | some S => S C.lo C.hi id (appS (evs s.ev c.args.toList) cs) s fun v s' => K ((s.take s').put o.dst v)
         | none => False
     | .fbv f cs => match SpecT.look C.I f with
       | some S => pinK C s (S C.lo C.hi id (appS cs (evs s.ev c.args.toList)) s fun v s' => K ((s.take s').put o.dst v))
       | none => match SpecT.look C.S f with
         | some S => S C.lo C.hi id (appS cs (evs s.ev c.args.toList)) s fun v s' => K ((s.take s').put o.dst v)
         | none => False
     | _ => False
   | .value (.func f) => match SpecT.look C.I f with
     | some S => pinK C s (S C.lo C.hi id (evs s.ev c.args.toList) s fun v s' => K ((s.take s').put o.dst v))
     | none => match SpecT.look C.S f with
       | some S => S C.lo C.hi id (evs s.ev c.args.toList) s fun v s' => K ((s.take s').put o.dst v)
       | none => False
   | .builtin .append => match c.args.toList, c.argTypes.toList with
     | [x, y], [t, t'] => match nBeq t t' with
       | true => match s.ev x with
         | .osl b 0 n cap => match nBeq n cap, litE C.shp s.heap s.ents (id + 1) b n with
           | true, some (obs0, G0) => match appE C.T C.Y C.shp (lessE s.heap [b]) G0 id t (.fv (id + 1)) (s.ev y) with
             | some (obs, G) => (fresh C.lo C.hi (id + 1) s.heap s.ents && fresh C.lo C.hi id (lessE s.heap [b]) G0) = true ∧ obsK obs0 (obsK obs (K ((s.withHE (lessE s.heap [b]) G).put o.dst (.fv id))))
             | none => False
           | true, none => match appN C.T s.ents t (s.ev y) with
             | some ob => match appO C.T C.Y C.shp s.heap s.ents id t (.osl b 0 n cap) (s.ev y) with
               | some (obs, G) => (ob () → K (s.put o.dst (.osl b 0 n cap))) ∧ (¬ ob () → fresh C.lo C.hi id s.heap s.ents = true ∧ obsK obs (K ((s.withE G).put o.dst (.fv id))))
               | none => Ob ob (K (s.put o.dst (.osl b 0 n cap)))
             | none => False
           | _, _ => False
         | v => match appE C.T C.Y C.shp s.heap s.ents id t v (s.ev y) with
           | some (obs, G) => fresh C.lo C.hi id s.heap s.ents = true ∧ obsK obs (K ((s.withE G).put o.dst (.fv id)))
           | none => match appO C.T C.Y C.shp s.heap s.ents id t v (s.ev y) with
             | some (obs, G) => fresh C.lo C.hi id s.heap s.ents = true ∧ obsK obs (K ((s.withE G).put o.dst (.fv id)))
             | none => False
       | false => match s.ev x with
         | .osl b 0 n cap => match nBeq n cap, litE C.shp s.heap s.ents (id + 1) b n with
           | true, some (obs0, G0) => match appZ C.T C.Y C.shp G0 id t t' (.fv (id + 1)) (s.ev y) with
             | some (obs, G) => (fresh C.lo C.hi (id + 1) s.heap s.ents && fresh C.lo C.hi id (lessE s.heap [b]) G0) = true ∧ obsK obs0 (obsK obs (K ((s.withHE (lessE s.heap [b]) G).put o.dst (.fv id))))
             | none => False
           | _, _ => False
         | v => match appZ C.T C.Y C.shp s.ents id t t' v (s.ev y) with
           | some (obs, G) => fresh C.lo C.hi id s.heap s.ents = true ∧ obsK obs (K ((s.withE G).put o.dst (.fv id)))
           | none => False
     | _, _ => False
   | .builtin .copy => match c.args.toList, c.argTypes.toList with
     | [x, y], [t, _] => match copyV C.T s.heap s.ents t (s.ev x) (s.ev y) with
       | some (ob, b, cs, n) => onceE s.heap = true ∧ Ob ob (K ((s.withHeap b cs).put o.dst (.int .i64 (.c n))))
       | none => False
     | _, _ => False
   | _ => match pureV C.T C.E s.ev o.op with
     | some r => obK r.ob (K (s.put o.dst r.v))
     | none => entK C id o s K
 | op => match pureV C.T C.E s.ev op with
   | some r => obK r.ob (K (s.put o.dst r.v))
   | none => match nilO C.T s.ents s.ev op with
     | some p => (p () → K (s.put o.dst (.bool (.c true)))) ∧ (True → K (s.put o.dst (.bool (.c false))))
     | none => entK C id o s K
def chgF (C : Cx) (f : FuncId) : Chg := match SpecT.look C.I f with
 | some _ => .all
 | none => .no
def stId (C : Cx) (op : Op) (s : St) : Chg :=
 match op with
 | .store _ x y => match s.ev x with
   | .ptr b _ => .one b
   | .fp id _ _ _ => (match s.ev y with
     | .agg cs => (match oslOf cs with
       | some (b, _) => .two id b
       | none => .one id)
     | _ => .one id)
   | _ => .no
 | .slice _ x _ _ _ => match s.ev x with
   | .osl _ _ _ _ => .all
   | _ => .no
 | .call c => match c.callee with
   | .builtin .append => match c.args.toList with
     | [x, _] => match s.ev x with
       | .osl b _ _ _ => .one b
       | _ => .no
     | _ => .no
   | .builtin .copy => match c.args.toList with
     | [x, _] => match s.ev x with
       | .osl b _ _ _ => .one b
       | _ => .no
     | _ => .no
   | .value (.tmp t) => match s.ev (.tmp t) with
     | .fnv f _ => chgF C f
     | .fbv f _ => chgF C f
     | _ => .no
   | .value (.func f) => chgF C f
   | _ => .no
 | _ => .no
theorem put_heap (s : St) (d : Option Nat) (v : SV) : (s.put d v).heap = s.heap := by
 cases d with
 | none => rfl
 | some d => simp only [St.put]; cases nBlt d s.n <;> rfl
theorem put_ents (s : St) (d : Option Nat) (v : SV) : (s.put d v).ents = s.ents := by
 cases d with
 | none => rfl
 | some d => simp only [St.put]; cases nBlt d s.n <;> rfl
theorem setE_mem {b : Nat} {cs : List SV} : ∀ {l : List Ent} {x : Ent}, x ∈ l → x.id ≠ b → x ∈ setE l b cs
 | [], x, h, _ => by cases h
 | y :: l, x, h, hne => by
   simp only [setE]
   cases hb : nBeq y.id b
   ·rcases List.mem_cons.1 h with rfl | h
    ·exact List.mem_cons_self
    ·exact List.mem_cons_of_mem _ (setE_mem h hne)
   ·rcases List.mem_cons.1 h with rfl | h
    ·exact absurd (nBeq_eq hb) hne
    ·exact List.mem_cons_of_mem _ h
theorem alloc_inj {w : World} {a b : Array Value} {t : TypeId} (h : w.alloc (.cells a t) = w.alloc (.cells b t)) : a = b := by
 have h1 := heap_alloc_new w (.cells a t)
 rw [h, heap_alloc_new] at h1
 simpa using h1.symm
section step
variable {C : Cx} {P : Program} {E : Env} {ρ : Nm} {s : St} {a : Act} {w : World}
theorem find_append_ne {news G : List FE} {id : Nat} (h : ∀ f ∈ news, f.id ≠ id) : findE (news ++ G) id = findE G id := by
 induction news with
 | nil => rfl
 | cons f l ih =>
   rw [List.cons_append, find_cons_ne (h f List.mem_cons_self), ih fun g hg => h g (List.mem_cons_of_mem _ hg)]
theorem freshL_ne {lo hi : Nat} {H : List Ent} {G : List FE} : ∀ {news : List FE}, freshL lo hi H G news = true → ∀ f ∈ news, ∀ g ∈ G, f.id ≠ g.id
 | [], _, f, hf => by cases hf
 | x :: l, h, f, hf => fun g hg => by
   simp only [freshL, Bool.and_eq_true] at h
   rcases List.mem_cons.1 hf with rfl | hf
   ·exact fun e => freshG_mem h.1.1.2 g hg e.symm
   ·exact freshL_ne h.2 f hf g hg
theorem ext_new {H : List Ent} {G : List FE} (hh : Hp E ρ H G w) {n : Nat} (hfr : Fresh E n H G) (o : Obj) {H' : List Ent} (hag : ∀ ρ'', Agr (ρ.setB n w.heap.size) ρ'' H' G → Agr ρ ρ'' H G ∧ ρ''.b n = w.heap.size) (chg : Chg) (hH : ∀ e ∈ H, e ∈ H' := by exact fun e he => insE_mem he) :
    Ext ρ H G w (ρ.setB n w.heap.size) H' G (w.alloc o) chg := by
 have hr := (hag _ (Agr.refl _ _ _)).1
 refine ⟨fun e he _ => ⟨hH e he, hr.1 e he, hh.cells_agree hr he⟩, fun id f _ hfi _ => ⟨f, hfi, rfl, (Fk.refl ρ f).names (FE.foot_names (hr.2 f (findE_mem hfi).1).1 (hr.2 f (findE_mem hfi).1).2 rfl), fun k hk => Below.heap_alloc _ _ _ (hh.foot_lt (findE_mem hfi).1 hk)⟩⟩
theorem ext_st {t : TypeId} {x y : Operand} {id : Nat} {i : IE} {z o : Nat} (hx : s.ev x = .fp id i z o) {ρ' : Nm} {H' : List Ent} {G' : List FE} {w' : World} (h : Ext ρ s.heap s.ents w ρ' H' G' w' (.one id)) : Ext ρ s.heap s.ents w ρ' H' G' w' (stId C (.store t x y) s) := by
 simp only [stId, hx]
 split
 ·split
  ·exact ⟨fun e he hne => h.H e he fun hb => hne (.inl hb), fun j f hne => h.G j f fun hb => hne (.inl hb)⟩
  ·exact h
 ·exact h
theorem step0_sound (hC : C.ok P E) {id : Nat} {o : Oper} {K : St → Prop} (h : step0 C id o s K) (hf : Fit E ρ s a w) {next : Act → World → Prop} {Q : Exit → Act → World → Prop}
    (hp : ∀ s' ρ' a' w', a'.defers = E.df → PinA E C.pin a' → Hp E ρ' s'.heap s'.ents w' → C.x.pan s' → Q (.panic C.x.ch) a' w')
    (hn : ∀ s' ρ' a' w', Fit E ρ' s' a' w' → K s' → Ext ρ s.heap s.ents w ρ' s'.heap s'.ents w' (stId C o.op s) → next a' w') : o.wp P a w next Q := by
 have hA0 := fun (ρ' : Nm) (hr : Agr ρ ρ' s.heap s.ents) => hf.ev hr
 have hA := hA0 ρ (Agr.refl _ _ _)
 have ext0 : ∀ c, Ext ρ s.heap s.ents w ρ s.heap s.ents w c := fun c => Ext.refl hf.hp (fun _ _ _ _ => rfl) (Agr.refl _ _ _) (fun id f h => ⟨h, rfl⟩) c
 -- the ways on
 have val : ∀ {v : SV}, (∀ ρ', Agr ρ ρ' s.heap s.ents → (execOp a.eval o).run P w = .ok (.value (v.den ρ')) w) → K (s.put o.dst v) → o.wp P a w next Q := by
  intro v hr hk
  have h0 := hr ρ (Agr.refl _ _ _)
  unfold Oper.wp
  rw [h0, Oper.upon_value]
  refine hn _ _ _ _ (hf.put _ fun ρ' hg => ?_) hk (by rw [put_heap, put_ents]; exact ext0 _)
  have := hr ρ' hg
  rw [h0] at this
  simpa using this.symm
 have ent : entK C id o s K → o.wp P a w next Q := by
  intro h
  unfold entK at h
  split at h
  ·rename_i r news hv
   obtain ⟨hfr, h⟩ := h
   obtain ⟨ho, hk⟩ := obK_spec h
   rw [← hC.lo, ← hC.hi] at hfr
   obtain ⟨ρ', q1, q2, q5, q3⟩ := ent_sound hC.T hf.hp (fun f hf => hf) hv ho hfr o rfl
   have q4 := q3 ρ' (Agr.refl _ _ _)
   have hrun := q4.2 w (fun _ _ _ _ => rfl) a (hA0 ρ' q4.1)
   unfold Oper.wp
   rw [hrun, Oper.upon_value]
   rw [← catE_eq] at q1
   have fit' := hf.mem s.next q1 fun ρ'' hr => (q3 ρ'' (by rw [← catE_eq]; exact hr)).1
   refine hn _ ρ' _ _ (fit'.put o.dst fun ρ'' hr => ?_) hk ?_
   ·have h2 := (q3 ρ'' (by rw [← catE_eq]; exact hr))
    have := h2.2 w (fun _ _ _ _ => rfl) a (hA0 ρ'' h2.1)
    rw [hrun] at this
    simpa using this.symm
   ·rw [put_heap, put_ents]
    refine ⟨fun e he _ => ⟨he, q4.1.1 e he, hf.hp.cells_agree q4.1 he⟩, fun id' f _ hfi _ => ⟨f, ?_, rfl, (Fk.refl ρ f).names (FE.foot_names (q4.1.2 f (findE_mem hfi).1).1 (q4.1.2 f (findE_mem hfi).1).2 (q5 f (findE_mem hfi).1)), fun k hk => rfl⟩⟩
    simp only [St.withE, catE_eq]
    rw [find_append_ne fun g hg e0 => freshL_ne hfr g hg f (findE_mem hfi).1 (by rw [e0, (findE_mem hfi).2])]
    exact hfi
  ·exact h.elim
 have pur : ∀ op, o.op = op → (match pureV C.T C.E s.ev op with
     | some r => obK r.ob (K (s.put o.dst r.v))
     | none => entK C id o s K) → o.wp P a w next Q := by
  intro op hop h
  split at h
  ·rename_i r hr
   obtain ⟨ho, hk⟩ := obK_spec h
   exact val (fun ρ' hg => pure_sound hC.T hC.eqs hr ho o hop ρ' a (hA0 ρ' hg) w) hk
  ·exact ent h
 have pur2 : ∀ op, o.op = op → (match pureV C.T C.E s.ev op with
     | some r => obK r.ob (K (s.put o.dst r.v))
     | none => match nilO C.T s.ents s.ev op with
       | some p => (p () → K (s.put o.dst (.bool (.c true)))) ∧ (True → K (s.put o.dst (.bool (.c false))))
       | none => entK C id o s K) → o.wp P a w next Q := by
  intro op hop h
  split at h
  ·rename_i r hr
   obtain ⟨ho, hk⟩ := obK_spec h
   exact val (fun ρ' hg => pure_sound hC.T hC.eqs hr ho o hop ρ' a (hA0 ρ' hg) w) hk
  ·cases hn0 : nilO C.T s.ents s.ev op with
   | none => rw [hn0] at h; exact ent h
   | some p =>
     rw [hn0] at h
     obtain ⟨b, hb, hp⟩ := nilO_sound hf.hp hC.T hn0 o hop a hA
     cases b with
     | true => exact val (v := .bool (.c true)) (fun ρ' hg => by simp only [SV.den, bden_c]; exact hb) (h.1 (hp rfl))
     | false => exact val (v := .bool (.c false)) (fun ρ' hg => by simp only [SV.den, bden_c]; exact hb) (h.2 trivial)
 unfold step0 at h
 split at h
 ·rename_i t hop
  split at h
  ·rename_i i hi
   obtain ⟨hfr, hk⟩ := h
   have hfr := fresh_spec hfr hC.lo hC.hi
   obtain ⟨zv, hz, hzc⟩ := (TT.look_ok hC.T hi).zeroValue w ρ
   have hzc' : ∀ ρ', (SV.dens ρ' i.zero).toArray = zv.cells := fun ρ' => by
    obtain ⟨zv', hz', hzc'⟩ := (TT.look_ok hC.T hi).zeroValue w ρ'
    rw [hz] at hz'
    cases hz'
    exact hzc'.symm
   obtain ⟨k1, k2⟩ := hf.hp.new hC.env hfr t i.zero (cs := zv.cells) fun ρ' _ => hzc' ρ'
   unfold Oper.wp execOp
   simp only [hop, Instr.alloc, Sem.run_bind, hz, Result.andThen_ok, newVar, newRow, run_newObj_alloc, Sem.run_pure, Oper.upon_value]
   refine hn _ _ _ _ ((hf.mem s.next k1 fun ρ'' hr => (k2 ρ'' hr).1).put o.dst fun ρ'' hr => ?_) hk ?_
   ·simp only [SV.den, (k2 ρ'' hr).2]
   ·rw [put_heap, put_ents]
    exact ext_new hf.hp hfr _ k2 _
  ·exact h.elim
 ·rename_i t x hop
  obtain ⟨h1, h2⟩ := h
  simp only [Bool.and_eq_true] at h1
  have hfr := fresh_spec h1.2 hC.lo hC.hi
  have hcs : ∀ ρ', Agr ρ ρ' s.heap s.ents → (SV.dens ρ' (s.ev x).cells).toArray = (a.eval x).cells := fun ρ' hg => by rw [hA0 ρ' hg, SV.flat_cells h1.1 ρ']
  obtain ⟨k1, k2⟩ := hf.hp.new hC.env hfr t _ hcs
  unfold Oper.wp execOp
  simp only [hop, Instr.box, Sem.run_bind, Result.andThen_ok, newVar, newRow, run_newObj_alloc, Sem.run_pure, Oper.upon_value]
  refine hn _ _ _ _ ((hf.mem s.next k1 fun ρ'' hr => (k2 ρ'' hr).1).put o.dst fun ρ'' hr => ?_) h2 ?_
  ·simp only [SV.den, (k2 ρ'' hr).2]
  ·rw [put_heap, put_ents]
   exact ext_new hf.hp hfr _ k2 _
 ·rename_i t parts hop
  split at h
  ·rename_i v hv
   refine val (fun ρ' hg => ?_) h
   have := build_sound hC.T hv ρ' a (hA0 ρ' hg) w
   unfold execOp
   simp only [hop, Sem.run_bind]
   rw [show (parts.map fun (i, x) => (i, a.eval x)) = (parts.toList.map fun p => (p.1, a.eval p.2)).toArray from by apply Array.ext'; simp, this]
   rfl
  ·exact h.elim
 ·rename_i t n parts hop
  split at h
  ·rename_i e cs hv
   obtain ⟨hfr, hk⟩ := h
   have hfr := fresh_spec hfr hC.lo hC.hi
   have hb := fun ρ' hg => buildSlice_sound hC.T hv ρ' a (hA0 ρ' hg) w
   have this := hb ρ (Agr.refl _ _ _)
   have hcs : ∀ ρ', Agr ρ ρ' s.heap s.ents → (SV.dens ρ' cs).toArray = (SV.dens ρ cs).toArray := fun ρ' hg => by
    have h2 := hb ρ' hg
    rw [this] at h2
    simp only [Result.ok.injEq, true_and] at h2
    exact (alloc_inj h2).symm
   obtain ⟨k1, k2⟩ := hf.hp.new hC.env hfr e cs hcs
   unfold Oper.wp execOp
   simp only [hop, Sem.run_bind]
   rw [show (parts.map fun (i, x) => (i, a.eval x)) = (parts.toList.map fun p => (p.1, a.eval p.2)).toArray from by apply Array.ext'; simp, this]
   simp only [Result.andThen_ok, Sem.run_pure, Oper.upon_value]
   refine hn _ _ _ _ ((hf.mem s.next k1 fun ρ'' hr => (k2 ρ'' hr).1).put o.dst fun ρ'' hr => ?_) hk ?_
   ·simp only [SV.den, (k2 ρ'' hr).2]
   ·rw [put_heap, put_ents]
    exact ext_new hf.hp hfr _ k2 _
  ·exact h.elim
 ·rename_i t x y hop
  split at h
  ·rename_i obs G hs hv
   obtain ⟨hfr, hk⟩ := h
   have hfr := fresh_spec hfr hC.lo hC.hi
   obtain ⟨ho, hk⟩ := obsK_spec hk
   have hxy := sameO_eq hs
   subst hxy
   obtain ⟨v', w', ρ', k1, k2, k3, k4⟩ := mk_sound hC.T hC.Y hC.env hf.hp hv ho hfr
   unfold Oper.wp execOp
   simp only [hop, Sem.run_bind, hA, k1, Result.andThen_ok, Sem.run_pure, Oper.upon_value]
   refine hn _ ρ' _ _ ((hf.mem s.next k2 fun ρ'' hr => (k3 ρ'' hr).1).put o.dst fun ρ'' hr => (k3 ρ'' hr).2) hk ?_
   rw [put_heap, put_ents]
   exact ⟨fun e he _ => k4.H e he (fun h => h), fun id' f _ => k4.G id' f (fun h => h)⟩
  ·exact h.elim
 ·rename_i t x hop
  split at h
  ·rename_i r hv
   obtain ⟨ho, hk⟩ := obK_spec h
   refine val (fun ρ' hg => ?_) hk
   unfold execOp
   simp only [hop, Sem.run_bind, hA0 ρ' hg, load_stands hC.T (hf.hp.stands hg) hv ho]
   rfl
  ·exact ent h
 ·rename_i t x y hop
  split at h
  ·rename_i b cs hv
   obtain ⟨w', hr, k1, k2, ⟨e0, he0, hb0⟩, k4⟩ := store_sound hC.T hC.env hf.hp hv h.1 (fun ρ' hg => by rw [← hA0 ρ' hg, hA])
   unfold Oper.wp execOp
   simp only [hop, Sem.run_bind, hA, hr, Result.andThen_ok, Sem.run_pure, Oper.upon_skip]
   refine hn _ _ _ _ ((hf.mem s.next k1 k2).put o.dst fun _ _ => rfl) h.2 ?_
   have hsid : stId C (.store t x y) s = .one b := by
    unfold storeV at hv
    split at hv
    ·rename_i b' o' hx
     split at hv
     ·split at hv
      ·cases hv
       simp only [stId, hx]
      ·cases hv
     ·cases hv
    ·cases hv
   rw [put_heap, put_ents, hop, hsid]
   refine ⟨fun e he hne => ⟨setE_mem he fun e2 => hne (by first | exact e2 | exact e2.symm), rfl, rfl⟩, fun id' f _ hfi _ => ⟨f, hfi, rfl, Fk.refl _ _, fun k hk => k4 k fun e1 => ?_⟩⟩
   have := hf.hp.apart e0 he0 f (findE_mem hfi).1
   rw [hb0, ← e1] at this
   exact this hk
  ·split at h
   ·rename_i obs n G hv
    obtain ⟨ho, hk⟩ := obsK_spec h
    obtain ⟨w', hr, k1, k2, k3, f0, k4, k5⟩ := storeE_sound hC.T hC.env hf.hp hv ho
    unfold Oper.wp execOp
    simp only [hop, Sem.run_bind, hA, hr, Result.andThen_ok, Sem.run_pure, Oper.upon_skip]
    refine hn _ _ _ _ ((hf.mem s.next k1 k2).put o.dst fun _ _ => rfl) hk ?_
    have hsid : ∃ i' s' o', s.ev x = .fp n i' s' o' := by
     unfold storeE at hv
     split at hv
     ·rename_i id' i' s' o' hx
      split at hv
      ·split at hv
       ·split at hv
        ·split at hv
         ·split at hv
          ·cases hv
           exact ⟨_, _, _, hx⟩
          ·cases hv
         ·cases hv
        ·cases hv
       ·cases hv
      ·cases hv
     ·cases hv
    obtain ⟨i', s', o', hx'⟩ := hsid
    rw [put_heap, put_ents, hop]
    refine ext_st hx' ⟨fun e he _ => ⟨he, rfl, rfl⟩, fun id' f hne hfi _ => ⟨f, ?_, rfl, Fk.refl _ _, fun k hk => k5 k fun hx => ?_⟩⟩
    ·simp only [St.withE]
     rw [k3 id' fun e1 => hne (by rw [e1]; exact rfl)]
     exact hfi
    ·rcases hf.hp.sep (findE_mem hfi).1 f0 (findE_mem k4).1 k hx with h | h
     ·exact h hk
     ·rw [← h] at hfi
      exact hne (by rw [← (findE_mem hfi).2, (findE_mem k4).2]; exact rfl)
   ·split at h
    ·rename_i obs n G hv
     obtain ⟨ho, hk⟩ := obsK_spec h
     obtain ⟨⟨i', s', o', hx⟩, w', ρ', hr, k1, k2, k3⟩ := storeN_sound hC.T hC.env hf.hp hv ho
     unfold Oper.wp execOp
     simp only [hop, Sem.run_bind, hA, hr, Result.andThen_ok, Sem.run_pure, Oper.upon_skip]
     refine hn _ ρ' _ _ ((hf.mem s.next k1 k2).put o.dst fun _ _ => rfl) hk ?_
     rw [put_heap, put_ents, hop]
     exact ext_st hx k3
    ·split at h
     ·rename_i obs H2 G2 hv
      obtain ⟨ho, hk⟩ := obsK_spec h
      obtain ⟨w', ρ', hr, k1, k2, eid, i', z', o', cs, b, n, hx, hy, hos, k3⟩ := storeL_sound hC.T hC.env hC.lo hC.hi hf.hp hv ho fun ρ' hg => ⟨by rw [← hA0 ρ' hg, hA], by rw [← hA0 ρ' hg, hA]⟩
      unfold Oper.wp execOp
      simp only [hop, Sem.run_bind, hA, hr, Result.andThen_ok, Sem.run_pure, Oper.upon_skip]
      refine hn _ ρ' _ _ ((hf.mem s.next k1 k2).put o.dst fun _ _ => rfl) hk ?_
      rw [put_heap, put_ents, hop, show stId C (.store t x y) s = .two eid b from by simp only [stId, hx, hy, hos]]
      exact k3
     ·exact h.elim
 ·rename_i c x y hop
  have run : ∀ b : BE, s.ev c = .bool b → ∀ t, b.den = t → ∀ ρ', Agr ρ ρ' s.heap s.ents → (execOp a.eval o).run P w = .ok (.value ((if t = true then s.ev x else s.ev y).den ρ')) w := by
   intro b hb t ht ρ' hg
   unfold execOp
   simp only [hop, hA0 ρ' hg, hb, SV.den, asBool, Sem.run_bind, Sem.run_pure, Result.andThen_ok, ht]
   cases t <;> rfl
  split at h
  ·rename_i hb
   exact val (run _ hb true (bden_c _)) h
  ·rename_i hb
   exact val (run _ hb false (bden_c _)) h
  ·rename_i b _ _ hb
   cases ht : b.den with
   | true => exact val (run _ hb true ht) (h.1 ht)
   | false => exact val (run _ hb false ht) (h.2 ht)
  ·exact h.elim
 ·rename_i t x lo hi mx hop
  split at h
  ·rename_i r hv
   obtain ⟨ho, hk⟩ := obK_spec h
   exact val (fun ρ' hg => pure_sound hC.T hC.eqs hv ho o hop ρ' a (hA0 ρ' hg) w) hk
  ·split at h
   ·rename_i ob v G hv
    obtain ⟨h1, h2⟩ := h
    simp only [Bool.and_eq_true] at h1
    have hfr := fresh_spec h1.2 hC.lo hC.hi
    obtain ⟨ρ', q1, q5, q3⟩ := sliceE_sound hC.T hf.hp hv (h2.ob ()) (mxB_spec h1.1) hfr o hop
    have q4 := q3 ρ' (Agr.refl _ _ _)
    have hrun := q4.2 a (hA0 ρ' q4.1)
    unfold Oper.wp
    rw [hrun, Oper.upon_value]
    refine hn _ ρ' _ _ ((hf.mem s.next q1 fun ρ'' hr => (q3 ρ'' hr).1).put o.dst fun ρ'' hr => ?_) h2.k ?_
    ·have h2 := q3 ρ'' hr
     have := h2.2 a (hA0 ρ'' h2.1)
     rw [hrun] at this
     simpa using this.symm
    ·rw [put_heap, put_ents]
     refine ⟨fun e he _ => ⟨he, q4.1.1 e he, hf.hp.cells_agree q4.1 he⟩, fun id' f _ hfi _ => ?_⟩
     obtain ⟨f', r1, r2, r3⟩ := q5 id' f hfi
     exact ⟨f', r1, r2, r3, fun k hk => rfl⟩
   ·split at h
    ·rename_i ob v hv
     exact val (fun ρ' hg => sliceC_sound (P := P) hC.T hv (h.ob ()) o hop a ρ' (hA0 ρ' hg) w) h.k
    ·split at h
     ·rename_i obs v H G hv
      obtain ⟨h1, h2⟩ := h
      obtain ⟨ho, hk⟩ := obsK_spec h2
      obtain ⟨⟨b1, o1, n1, c1, hx⟩, ρ', q1, q3⟩ := sliceL_sound (P := P) hC.T hC.lo hC.hi hf.hp hv ho (mxB_spec h1) o hop a hA0
      have q4 := q3 ρ' (Agr.refl _ _ _)
      unfold Oper.wp
      rw [q4.2, Oper.upon_value]
      refine hn _ ρ' _ _ ((hf.mem s.next q1 fun ρ'' hr => (q3 ρ'' hr).1).put o.dst fun ρ'' hr => ?_) hk ?_
      ·have := (q3 ρ'' hr).2
       rw [q4.2] at this
       simpa using this.symm
      ·rw [put_heap, put_ents]
       rw [show stId C o.op s = .all from by simp only [hop, stId, hx]]
       exact ⟨fun e he hn => (hn trivial).elim, fun id' f hn => (hn trivial).elim⟩
     ·exact h.elim
 ·rename_i c hop
  split at h
  ·rename_i t hc
   split at h
   ·rename_i f cs hv
    split at h
    ·rename_i S hS
     obtain ⟨hpin, h⟩ := pinK_spec h
     have hok := hC.I _ _ hS
     obtain ⟨fn, h1, h2, h3⟩ := hok.fn
     have et : ∀ ρ', Agr ρ ρ' s.heap s.ents → a.eval (.tmp t) = (SV.fnv f cs).den ρ' := fun ρ' hg => by
      rw [hA0 ρ' hg, hv]
     have ec : ∀ ρ', Agr ρ ρ' s.heap s.ents → SV.dens ρ' cs = SV.dens ρ cs := fun ρ' hg => by
      have e := (et ρ' hg).symm.trans (et ρ (Agr.refl _ _ _))
      simp only [SV.den, Value.func.injEq, List.toArray_inj] at e
      first | exact e.2.2 | exact e.2 | simpa using e
     have e0 : ∀ ρ', Agr ρ ρ' s.heap s.ents → c.args.toList.map a.eval = SV.dens ρ' (evs s.ev c.args.toList) := fun ρ' hg => evs_den (hA0 ρ' hg) _
     have hcall := hok.calls _ _ _ _ _ _ hC.lo hC.hi h ρ w hf.hp fun ρ' hg => by rw [appS_eq, dens_append, dens_append, ← e0 ρ' hg, ← e0 ρ (Agr.refl _ _ _), ec ρ' hg]
     have e1 : c.args.map a.eval ++ (SV.dens ρ cs).toArray = (SV.dens ρ (appS (evs s.ev c.args.toList) cs)).toArray := by
      rw [appS_eq, dens_append, ← e0 ρ (Agr.refl _ _ _)]; apply Array.ext'; simp
     have e2 := et ρ (Agr.refl _ _ _)
     unfold Oper.wp execOp
     simp only [hop, resolve, hc, e2, SV.den, Deferred.ofValue, Sem.run_bind, Sem.run_pure, Result.andThen_ok, invoke, callFunc, run_program, h1, h2, h3, Bool.false_eq_true, if_false, Oper.upon_enter]
     simp only [Array.empty_append, show (fun x => Act.eval a x) = a.eval from rfl, e1]
     refine hcall.mono ?_
     rintro e w' (⟨v, s', ρ', rfl, hR, hh', hag⟩ | ⟨s', ρ', rfl, hpn, hh'⟩)
     rotate_left 1
     ·exact hp _ _ _ _ hf.defers (pin_of hC.lo hf hpin) hh' hpn
     refine hn _ ρ' _ _ ((hf.mem s'.next hh' fun ρ'' hr => (hag ρ'' hr).1).put o.dst fun ρ'' hr => (hag ρ'' hr).2) hR ?_
     rw [put_heap, put_ents]
     rw [show stId C o.op s = .all from by simp only [hop, stId, hc, hv, chgF, hS]]
     exact ⟨fun e he hn => (hn trivial).elim, fun id' f hn => (hn trivial).elim⟩
    ·split at h
     ·rename_i S hS
      rcases SpecT.look_ok hC.S hS with hok | hok
      ·obtain ⟨fn, h1, h2, h3⟩ := hok.fn
       have et : ∀ ρ', Agr ρ ρ' s.heap s.ents → a.eval (.tmp t) = (SV.fnv f cs).den ρ' := fun ρ' hg => by
        rw [hA0 ρ' hg, hv]
       have ec : ∀ ρ', Agr ρ ρ' s.heap s.ents → SV.dens ρ' cs = SV.dens ρ cs := fun ρ' hg => by
        have e := (et ρ' hg).symm.trans (et ρ (Agr.refl _ _ _))
        simp only [SV.den, Value.func.injEq, List.toArray_inj] at e
        first | exact e.2.2 | exact e.2 | simpa using e
       have e0 : ∀ ρ', Agr ρ ρ' s.heap s.ents → c.args.toList.map a.eval = SV.dens ρ' (evs s.ev c.args.toList) := fun ρ' hg => evs_den (hA0 ρ' hg) _
       have hcall := hok.calls _ _ _ _ _ _ hC.lo hC.hi h ρ w hf.hp fun ρ' hg => by rw [appS_eq, dens_append, dens_append, ← e0 ρ' hg, ← e0 ρ (Agr.refl _ _ _), ec ρ' hg]
       have e1 : c.args.map a.eval ++ (SV.dens ρ cs).toArray = (SV.dens ρ (appS (evs s.ev c.args.toList) cs)).toArray := by
        rw [appS_eq, dens_append, ← e0 ρ (Agr.refl _ _ _)]; apply Array.ext'; simp
       have e2 := et ρ (Agr.refl _ _ _)
       unfold Oper.wp execOp
       simp only [hop, resolve, hc, e2, SV.den, Deferred.ofValue, Sem.run_bind, Sem.run_pure, Result.andThen_ok, invoke, callFunc, run_program, h1, h2, h3, Bool.false_eq_true, if_false, Oper.upon_enter]
       simp only [Array.empty_append, show (fun x => Act.eval a x) = a.eval from rfl, e1]
       refine hcall.mono ?_
       rintro e w' ⟨v, s', ρ', rfl, hR, hh', hag, hext⟩
       refine hn _ ρ' _ _ ((hf.mem s'.next hh' fun ρ'' hr => (hag ρ'' hr).1).put o.dst fun ρ'' hr => (hag ρ'' hr).2) hR ?_
       rw [put_heap, put_ents]
       exact ⟨fun e he _ => hext.H e he (fun h => h), fun id' f _ => hext.G id' f (fun h => h)⟩
      ·have et : ∀ ρ', Agr ρ ρ' s.heap s.ents → a.eval (.tmp t) = (SV.fnv f cs).den ρ' := fun ρ' hg => by
         rw [hA0 ρ' hg, hv]
       have ec : ∀ ρ', Agr ρ ρ' s.heap s.ents → SV.dens ρ' cs = SV.dens ρ cs := fun ρ' hg => by
        have e := (et ρ' hg).symm.trans (et ρ (Agr.refl _ _ _))
        simp only [SV.den, Value.func.injEq, List.toArray_inj] at e
        first | exact e.2.2 | exact e.2 | simpa using e
       have e0 : ∀ ρ', Agr ρ ρ' s.heap s.ents → c.args.toList.map a.eval = SV.dens ρ' (evs s.ev c.args.toList) := fun ρ' hg => evs_den (hA0 ρ' hg) _
       have hcall := hok.runs _ _ _ _ _ _ hC.lo hC.hi h ρ w hf.hp fun ρ' hg => by rw [appS_eq, dens_append, dens_append, ← e0 ρ' hg, ← e0 ρ (Agr.refl _ _ _), ec ρ' hg]
       have e1 : c.args.map a.eval ++ (SV.dens ρ cs).toArray = (SV.dens ρ (appS (evs s.ev c.args.toList) cs)).toArray := by
        rw [appS_eq, dens_append, ← e0 ρ (Agr.refl _ _ _)]; apply Array.ext'; simp
       have e2 := et ρ (Agr.refl _ _ _)
       obtain ⟨v, s', ρ', hrun, hR, hh', hag, hext⟩ := hcall
       unfold Oper.wp execOp
       simp only [hop, resolve, hc, e2, SV.den, Deferred.ofValue, Sem.run_bind, Sem.run_pure, Result.andThen_ok, invoke]
       simp only [Array.empty_append, show (fun x => Act.eval a x) = a.eval from rfl, e1, hrun, Result.andThen_ok, Oper.upon_value]
       refine hn _ ρ' _ _ ((hf.mem s'.next hh' fun ρ'' hr => (hag ρ'' hr).1).put o.dst fun ρ'' hr => (hag ρ'' hr).2) hR ?_
       rw [put_heap, put_ents]
       exact ⟨fun e he _ => hext.H e he (fun h => h), fun id' f _ => hext.G id' f (fun h => h)⟩
     ·exact h.elim
   ·rename_i f cs hv
    split at h
    ·rename_i S hS
     obtain ⟨hpin, h⟩ := pinK_spec h
     have hok := hC.I _ _ hS
     obtain ⟨fn, h1, h2, h3⟩ := hok.fn
     have et : ∀ ρ', Agr ρ ρ' s.heap s.ents → a.eval (.tmp t) = (SV.fbv f cs).den ρ' := fun ρ' hg => by
      rw [hA0 ρ' hg, hv]
     have ec : ∀ ρ', Agr ρ ρ' s.heap s.ents → SV.dens ρ' cs = SV.dens ρ cs := fun ρ' hg => by
      have e := (et ρ' hg).symm.trans (et ρ (Agr.refl _ _ _))
      simp only [SV.den, Value.func.injEq, List.toArray_inj] at e
      first | exact e.2.1 | exact e.2 | exact e.1 | simpa using e
     have e0 : ∀ ρ', Agr ρ ρ' s.heap s.ents → c.args.toList.map a.eval = SV.dens ρ' (evs s.ev c.args.toList) := fun ρ' hg => evs_den (hA0 ρ' hg) _
     have hcall := hok.calls _ _ _ _ _ _ hC.lo hC.hi h ρ w hf.hp fun ρ' hg => by rw [appS_eq, dens_append, dens_append, ← e0 ρ' hg, ← e0 ρ (Agr.refl _ _ _), ec ρ' hg]
     have e1 : (SV.dens ρ cs).toArray ++ c.args.map a.eval = (SV.dens ρ (appS cs (evs s.ev c.args.toList))).toArray := by
      rw [appS_eq, dens_append, ← e0 ρ (Agr.refl _ _ _)]; apply Array.ext'; simp
     have e2 := et ρ (Agr.refl _ _ _)
     unfold Oper.wp execOp
     simp only [hop, resolve, hc, e2, SV.den, Deferred.ofValue, Sem.run_bind, Sem.run_pure, Result.andThen_ok, invoke, callFunc, run_program, h1, h2, h3, Bool.false_eq_true, if_false, Oper.upon_enter]
     simp only [Array.append_empty, show (fun x => Act.eval a x) = a.eval from rfl, e1]
     refine hcall.mono ?_
     rintro e w' (⟨v, s', ρ', rfl, hR, hh', hag⟩ | ⟨s', ρ', rfl, hpn, hh'⟩)
     rotate_left 1
     ·exact hp _ _ _ _ hf.defers (pin_of hC.lo hf hpin) hh' hpn
     refine hn _ ρ' _ _ ((hf.mem s'.next hh' fun ρ'' hr => (hag ρ'' hr).1).put o.dst fun ρ'' hr => (hag ρ'' hr).2) hR ?_
     rw [put_heap, put_ents]
     rw [show stId C o.op s = .all from by simp only [hop, stId, hc, hv, chgF, hS]]
     exact ⟨fun e he hn => (hn trivial).elim, fun id' f hn => (hn trivial).elim⟩
    ·split at h
     ·rename_i S hS
      rcases SpecT.look_ok hC.S hS with hok | hok
      ·obtain ⟨fn, h1, h2, h3⟩ := hok.fn
       have et : ∀ ρ', Agr ρ ρ' s.heap s.ents → a.eval (.tmp t) = (SV.fbv f cs).den ρ' := fun ρ' hg => by
        rw [hA0 ρ' hg, hv]
       have ec : ∀ ρ', Agr ρ ρ' s.heap s.ents → SV.dens ρ' cs = SV.dens ρ cs := fun ρ' hg => by
        have e := (et ρ' hg).symm.trans (et ρ (Agr.refl _ _ _))
        simp only [SV.den, Value.func.injEq, List.toArray_inj] at e
        first | exact e.2.1 | exact e.2 | exact e.1 | simpa using e
       have e0 : ∀ ρ', Agr ρ ρ' s.heap s.ents → c.args.toList.map a.eval = SV.dens ρ' (evs s.ev c.args.toList) := fun ρ' hg => evs_den (hA0 ρ' hg) _
       have hcall := hok.calls _ _ _ _ _ _ hC.lo hC.hi h ρ w hf.hp fun ρ' hg => by rw [appS_eq, dens_append, dens_append, ← e0 ρ' hg, ← e0 ρ (Agr.refl _ _ _), ec ρ' hg]
       have e1 : (SV.dens ρ cs).toArray ++ c.args.map a.eval = (SV.dens ρ (appS cs (evs s.ev c.args.toList))).toArray := by
        rw [appS_eq, dens_append, ← e0 ρ (Agr.refl _ _ _)]; apply Array.ext'; simp
       have e2 := et ρ (Agr.refl _ _ _)
       unfold Oper.wp execOp
       simp only [hop, resolve, hc, e2, SV.den, Deferred.ofValue, Sem.run_bind, Sem.run_pure, Result.andThen_ok, invoke, callFunc, run_program, h1, h2, h3, Bool.false_eq_true, if_false, Oper.upon_enter]
       simp only [Array.append_empty, show (fun x => Act.eval a x) = a.eval from rfl, e1]
       refine hcall.mono ?_
       rintro e w' ⟨v, s', ρ', rfl, hR, hh', hag, hext⟩
       refine hn _ ρ' _ _ ((hf.mem s'.next hh' fun ρ'' hr => (hag ρ'' hr).1).put o.dst fun ρ'' hr => (hag ρ'' hr).2) hR ?_
       rw [put_heap, put_ents]
       exact ⟨fun e he _ => hext.H e he (fun h => h), fun id' f _ => hext.G id' f (fun h => h)⟩
      ·have et : ∀ ρ', Agr ρ ρ' s.heap s.ents → a.eval (.tmp t) = (SV.fbv f cs).den ρ' := fun ρ' hg => by
         rw [hA0 ρ' hg, hv]
       have ec : ∀ ρ', Agr ρ ρ' s.heap s.ents → SV.dens ρ' cs = SV.dens ρ cs := fun ρ' hg => by
        have e := (et ρ' hg).symm.trans (et ρ (Agr.refl _ _ _))
        simp only [SV.den, Value.func.injEq, List.toArray_inj] at e
        first | exact e.2.1 | exact e.2 | exact e.1 | simpa using e
       have e0 : ∀ ρ', Agr ρ ρ' s.heap s.ents → c.args.toList.map a.eval = SV.dens ρ' (evs s.ev c.args.toList) := fun ρ' hg => evs_den (hA0 ρ' hg) _
       have hcall := hok.runs _ _ _ _ _ _ hC.lo hC.hi h ρ w hf.hp fun ρ' hg => by rw [appS_eq, dens_append, dens_append, ← e0 ρ' hg, ← e0 ρ (Agr.refl _ _ _), ec ρ' hg]
       have e1 : (SV.dens ρ cs).toArray ++ c.args.map a.eval = (SV.dens ρ (appS cs (evs s.ev c.args.toList))).toArray := by
        rw [appS_eq, dens_append, ← e0 ρ (Agr.refl _ _ _)]; apply Array.ext'; simp
       have e2 := et ρ (Agr.refl _ _ _)
       obtain ⟨v, s', ρ', hrun, hR, hh', hag, hext⟩ := hcall
       unfold Oper.wp execOp
       simp only [hop, resolve, hc, e2, SV.den, Deferred.ofValue, Sem.run_bind, Sem.run_pure, Result.andThen_ok, invoke]
       simp only [Array.append_empty, show (fun x => Act.eval a x) = a.eval from rfl, e1, hrun, Result.andThen_ok, Oper.upon_value]
       refine hn _ ρ' _ _ ((hf.mem s'.next hh' fun ρ'' hr => (hag ρ'' hr).1).put o.dst fun ρ'' hr => (hag ρ'' hr).2) hR ?_
       rw [put_heap, put_ents]
       exact ⟨fun e he _ => hext.H e he (fun h => h), fun id' f _ => hext.G id' f (fun h => h)⟩
     ·exact h.elim
   ·exact h.elim
  ·rename_i f hc
   split at h
   ·rename_i S hS
    obtain ⟨hpin, h⟩ := pinK_spec h
    have hok := hC.I _ _ hS
    obtain ⟨fn, h1, h2, h3⟩ := hok.fn
    have e0 : ∀ ρ', Agr ρ ρ' s.heap s.ents → c.args.toList.map a.eval = SV.dens ρ' (evs s.ev c.args.toList) := fun ρ' hg => evs_den (hA0 ρ' hg) _
    have hcall := hok.calls _ _ _ _ _ _ hC.lo hC.hi h ρ w hf.hp fun ρ' hg => by rw [← e0 ρ' hg, ← e0 ρ (Agr.refl _ _ _)]
    have e1 : c.args.map a.eval = (SV.dens ρ (evs s.ev c.args.toList)).toArray := by
     rw [← e0 ρ (Agr.refl _ _ _)]; apply Array.ext'; simp
    unfold Oper.wp execOp
    simp only [hop, resolve, hc, Act.eval, Deferred.ofValue, Sem.run_bind, Sem.run_pure, Result.andThen_ok, invoke, callFunc, run_program, h1, h2, h3, Bool.false_eq_true, if_false, Oper.upon_enter]
    simp only [Array.empty_append, Array.append_empty, show (fun x => Act.eval a x) = a.eval from rfl, e1]
    refine hcall.mono ?_
    rintro e w' (⟨v, s', ρ', rfl, hR, hh', hag⟩ | ⟨s', ρ', rfl, hpn, hh'⟩)
    rotate_left 1
    ·exact hp _ _ _ _ hf.defers (pin_of hC.lo hf hpin) hh' hpn
    refine hn _ ρ' _ _ ((hf.mem s'.next hh' fun ρ'' hr => (hag ρ'' hr).1).put o.dst fun ρ'' hr => (hag ρ'' hr).2) hR ?_
    rw [put_heap, put_ents]
    rw [show stId C o.op s = .all from by simp only [hop, stId, hc, chgF, hS]]
    exact ⟨fun e he hn => (hn trivial).elim, fun id' f hn => (hn trivial).elim⟩
   ·split at h
    ·rename_i S hS
     rcases SpecT.look_ok hC.S hS with hok | hok
     ·obtain ⟨fn, h1, h2, h3⟩ := hok.fn
      have e0 : ∀ ρ', Agr ρ ρ' s.heap s.ents → c.args.toList.map a.eval = SV.dens ρ' (evs s.ev c.args.toList) := fun ρ' hg => evs_den (hA0 ρ' hg) _
      have hcall := hok.calls _ _ _ _ _ _ hC.lo hC.hi h ρ w hf.hp fun ρ' hg => by rw [← e0 ρ' hg, ← e0 ρ (Agr.refl _ _ _)]
      have e1 : c.args.map a.eval = (SV.dens ρ (evs s.ev c.args.toList)).toArray := by
       rw [← e0 ρ (Agr.refl _ _ _)]; apply Array.ext'; simp
      unfold Oper.wp execOp
      simp only [hop, resolve, hc, Act.eval, Deferred.ofValue, Sem.run_bind, Sem.run_pure, Result.andThen_ok, invoke, callFunc, run_program, h1, h2, h3, Bool.false_eq_true, if_false, Oper.upon_enter]
      simp only [Array.empty_append, Array.append_empty, show (fun x => Act.eval a x) = a.eval from rfl, e1]
      refine hcall.mono ?_
      rintro e w' ⟨v, s', ρ', rfl, hR, hh', hag, hext⟩
      refine hn _ ρ' _ _ ((hf.mem s'.next hh' fun ρ'' hr => (hag ρ'' hr).1).put o.dst fun ρ'' hr => (hag ρ'' hr).2) hR ?_
      rw [put_heap, put_ents]
      exact ⟨fun e he _ => hext.H e he (fun h => h), fun id' f _ => hext.G id' f (fun h => h)⟩
     ·have e0 : ∀ ρ', Agr ρ ρ' s.heap s.ents → c.args.toList.map a.eval = SV.dens ρ' (evs s.ev c.args.toList) := fun ρ' hg => evs_den (hA0 ρ' hg) _
      have hcall := hok.runs _ _ _ _ _ _ hC.lo hC.hi h ρ w hf.hp fun ρ' hg => by rw [← e0 ρ' hg, ← e0 ρ (Agr.refl _ _ _)]
      have e1 : c.args.map a.eval = (SV.dens ρ (evs s.ev c.args.toList)).toArray := by
       rw [← e0 ρ (Agr.refl _ _ _)]; apply Array.ext'; simp
      obtain ⟨v, s', ρ', hrun, hR, hh', hag, hext⟩ := hcall
      unfold Oper.wp execOp
      simp only [hop, resolve, hc, Act.eval, Deferred.ofValue, Sem.run_bind, Sem.run_pure, Result.andThen_ok, invoke]
      simp only [Array.empty_append, Array.append_empty, show (fun x => Act.eval a x) = a.eval from rfl, e1, hrun, Result.andThen_ok, Oper.upon_value]
      refine hn _ ρ' _ _ ((hf.mem s'.next hh' fun ρ'' hr => (hag ρ'' hr).1).put o.dst fun ρ'' hr => (hag ρ'' hr).2) hR ?_
      rw [put_heap, put_ents]
      exact ⟨fun e he _ => hext.H e he (fun h => h), fun id' f _ => hext.G id' f (fun h => h)⟩
    ·exact h.elim
  ·rename_i hc
   split at h
   ·rename_i x y t t' hargs hts
    cases htt : nBeq t t' with
    | false =>
      rw [htt] at h
      simp only [] at h
      have e1 : c.args = #[x, y] := by apply Array.ext'; simp [hargs]
      have e2 : c.argTypes = #[t, t'] := by apply Array.ext'; simp [hts]
      split at h
      ·rename_i b n cap hx
       split at h
       ·rename_i obs0 G0 hcap hlit
        have hcap := nBeq_eq hcap
        subst hcap
        split at h
        ·rename_i obs G hv
         obtain ⟨hfr, hk⟩ := h
         simp only [Bool.and_eq_true] at hfr
         obtain ⟨ho0, hk⟩ := obsK_spec hk
         obtain ⟨ho, hk⟩ := obsK_spec hk
         obtain ⟨ρ1, l1, l2, l3, l5⟩ := lit_sound hf.hp hlit ho0 (fresh_spec hfr.1 hC.lo hC.hi)
         obtain ⟨v', w', ρ', k1, k2, k3, k4, k6⟩ := appZ_sound hC.T hC.Y hC.env l1 hv ho (fresh_spec hfr.2 hC.lo hC.hi) o.type
         have l4 := l2 ρ1 (Agr.refl _ _ _)
         have k5 := k3 ρ' (Agr.refl _ _ _)
         rw [l4.2, show (s.ev y).den ρ1 = (s.ev y).den ρ from by rw [← hA0 ρ1 l4.1, hA]] at k1
         unfold Oper.wp execOp
         simp only [hop, resolve, hc, invoke, builtin, e1, e2, Sem.run_bind, Sem.run_pure, Result.andThen_ok, List.map_toArray, List.map_cons, List.map_nil, hA, hx, k1, Oper.upon_value]
         refine hn _ ρ' _ _ ((hf.mem s.next k2 fun ρ'' hr => (l2 ρ'' (k3 ρ'' hr).1).1).put o.dst fun ρ'' hr => (k3 ρ'' hr).2) hk ?_
         have hsid : stId C (.call c) s = .one b := by
          simp only [stId, hc, hargs, hx]
         rw [put_heap, put_ents, hop, hsid]
         refine l3.trans k4 fun f hf' k hk => k6 k (hf.hp.foot_lt hf' hk) fun h => ?_
         rw [l4.2] at h
         simp [SV.den, Value.ownBlock] at h
         exact l5 f hf' (by rw [h]; exact hk)
        ·exact h.elim
       ·exact h.elim
      ·rename_i v hnv
       split at h
       ·rename_i obs G hv
        obtain ⟨hfr, hk⟩ := h
        have hfr := fresh_spec hfr hC.lo hC.hi
        obtain ⟨ho, hk⟩ := obsK_spec hk
        obtain ⟨v', w', ρ', k1, k2, k3, k4, k6⟩ := appZ_sound hC.T hC.Y hC.env hf.hp hv ho hfr o.type
        unfold Oper.wp execOp
        simp only [hop, resolve, hc, invoke, builtin, e1, e2, Sem.run_bind, Sem.run_pure, Result.andThen_ok, List.map_toArray, List.map_cons, List.map_nil, hA, k1, Oper.upon_value]
        refine hn _ ρ' _ _ ((hf.mem s.next k2 fun ρ'' hr => (k3 ρ'' hr).1).put o.dst fun ρ'' hr => (k3 ρ'' hr).2) hk ?_
        rw [put_heap, put_ents]
        exact ⟨fun e he _ => k4.H e he (fun h => h), fun id' f _ => k4.G id' f (fun h => h)⟩
       ·exact h.elim
    | true =>
    rw [htt] at h
    have htt := nBeq_eq htt
    subst htt
    have e1 : c.args = #[x, y] := by apply Array.ext'; simp [hargs]
    have e2 : c.argTypes = #[t, t] := by apply Array.ext'; simp [hts]
    simp only [] at h
    split at h
    ·rename_i b n cap hx
     split at h
     ·rename_i obs0 G0 hcap hlit
      have hcap := nBeq_eq hcap
      subst hcap
      split at h
      ·rename_i obs G hv
       obtain ⟨hfr, hk⟩ := h
       simp only [Bool.and_eq_true] at hfr
       obtain ⟨ho0, hk⟩ := obsK_spec hk
       obtain ⟨ho, hk⟩ := obsK_spec hk
       obtain ⟨ρ1, l1, l2, l3, l5⟩ := lit_sound hf.hp hlit ho0 (fresh_spec hfr.1 hC.lo hC.hi)
       obtain ⟨v', w', ρ', k1, k2, k3, k4, k6⟩ := app_sound hC.T hC.Y hC.env l1 hv ho (fresh_spec hfr.2 hC.lo hC.hi) o.type
       have l4 := l2 ρ1 (Agr.refl _ _ _)
       have k5 := k3 ρ' (Agr.refl _ _ _)
       rw [l4.2, show (s.ev y).den ρ1 = (s.ev y).den ρ from by rw [← hA0 ρ1 l4.1, hA]] at k1
       unfold Oper.wp execOp
       simp only [hop, resolve, hc, invoke, builtin, e1, e2, Sem.run_bind, Sem.run_pure, Result.andThen_ok, List.map_toArray, List.map_cons, List.map_nil, hA, hx, k1, Oper.upon_value]
       refine hn _ ρ' _ _ ((hf.mem s.next k2 fun ρ'' hr => (l2 ρ'' (k3 ρ'' hr).1).1).put o.dst fun ρ'' hr => (k3 ρ'' hr).2) hk ?_
       have hsid : stId C (.call c) s = .one b := by
        simp only [stId, hc, hargs, hx]
       rw [put_heap, put_ents, hop, hsid]
       refine l3.trans k4 fun f hf' k hk => k6 k (hf.hp.foot_lt hf' hk) fun h => ?_
       rw [l4.2] at h
       simp [SV.den, Value.ownBlock] at h
       exact l5 f hf' (by rw [h]; exact hk)
      ·exact h.elim
     ·rename_i hcap hlit
      have hcap := nBeq_eq hcap
      subst hcap
      split at h
      ·rename_i ob hv
       have same : ob () → K (s.put o.dst (.osl b 0 n n)) → o.wp P a w next Q := by
        intro hob hk
        refine val (fun ρ' hg => ?_) hk
        have hrun := appN_sound (P := P) hC.T hf.hp hv hob ⟨ρ.b b, 0, none⟩ n n (Nat.le_refl _) o.type
        have hbb : (SV.osl b 0 n n).den ρ' = (SV.osl b 0 n n).den ρ := by rw [← hx, ← hA0 ρ' hg, hA]
        rw [hbb]
        unfold execOp
        simp only [hop, resolve, hc, invoke, builtin, e1, e2, Sem.run_bind, Sem.run_pure, Result.andThen_ok, List.map_toArray, List.map_cons, List.map_nil, hA, hx, SV.den, hrun]
       split at h
       ·rename_i obs G hv2
        by_cases hob : ob ()
        ·exact same hob (h.1 hob)
        ·obtain ⟨hfr, hk⟩ := h.2 hob
         have hfr := fresh_spec hfr hC.lo hC.hi
         obtain ⟨ho, hk⟩ := obsK_spec hk
         obtain ⟨v', w', ρ', k1, k2, k3, k4⟩ := appO_sound hC.T hC.Y hC.env hf.hp hv2 ho hfr o.type
         unfold Oper.wp execOp
         simp only [hop, resolve, hc, invoke, builtin, e1, e2, Sem.run_bind, Sem.run_pure, Result.andThen_ok, List.map_toArray, List.map_cons, List.map_nil, hA, hx, k1, Oper.upon_value]
         refine hn _ ρ' _ _ ((hf.mem s.next k2 fun ρ'' hr => (k3 ρ'' hr).1).put o.dst fun ρ'' hr => (k3 ρ'' hr).2) hk ?_
         rw [put_heap, put_ents]
         exact ⟨fun e he _ => k4.H e he (fun h => h), fun id' f _ => k4.G id' f (fun h => h)⟩
       ·exact same (h.ob ()) h.k
      ·exact h.elim
     ·exact h.elim
    ·rename_i v hnv
     split at h
     ·rename_i obs G hv
      obtain ⟨hfr, hk⟩ := h
      have hfr := fresh_spec hfr hC.lo hC.hi
      obtain ⟨ho, hk⟩ := obsK_spec hk
      obtain ⟨v', w', ρ', k1, k2, k3, k4, k6⟩ := app_sound hC.T hC.Y hC.env hf.hp hv ho hfr o.type
      unfold Oper.wp execOp
      simp only [hop, resolve, hc, invoke, builtin, e1, e2, Sem.run_bind, Sem.run_pure, Result.andThen_ok, List.map_toArray, List.map_cons, List.map_nil, hA, k1, Oper.upon_value]
      refine hn _ ρ' _ _ ((hf.mem s.next k2 fun ρ'' hr => (k3 ρ'' hr).1).put o.dst fun ρ'' hr => (k3 ρ'' hr).2) hk ?_
      rw [put_heap, put_ents]
      exact ⟨fun e he _ => k4.H e he (fun h => h), fun id' f _ => k4.G id' f (fun h => h)⟩
     ·split at h
      ·rename_i obs G hv
       obtain ⟨hfr, hk⟩ := h
       have hfr := fresh_spec hfr hC.lo hC.hi
       obtain ⟨ho, hk⟩ := obsK_spec hk
       obtain ⟨v', w', ρ', k1, k2, k3, k4⟩ := appO_sound hC.T hC.Y hC.env hf.hp hv ho hfr o.type
       unfold Oper.wp execOp
       simp only [hop, resolve, hc, invoke, builtin, e1, e2, Sem.run_bind, Sem.run_pure, Result.andThen_ok, List.map_toArray, List.map_cons, List.map_nil, hA, k1, Oper.upon_value]
       refine hn _ ρ' _ _ ((hf.mem s.next k2 fun ρ'' hr => (k3 ρ'' hr).1).put o.dst fun ρ'' hr => (k3 ρ'' hr).2) hk ?_
       rw [put_heap, put_ents]
       exact ⟨fun e he _ => k4.H e he (fun h => h), fun id' f _ => k4.G id' f (fun h => h)⟩
      ·exact h.elim
   ·exact h.elim
  ·rename_i hc
   split at h
   ·rename_i x y t t' hargs hts
    split at h
    ·rename_i ob b cs n hv
     have e1 : c.args = #[x, y] := by apply Array.ext'; simp [hargs]
     have e2 : c.argTypes = #[t, t'] := by apply Array.ext'; simp [hts]
     obtain ⟨w', hr, k1, k2, ⟨e0, he0, hb0⟩, ⟨o', m', cap', hx⟩, k4⟩ := copy_sound hC.T hC.env hf.hp (t' := t') (ty := o.type) hv (h.2.ob ()) h.1
     unfold Oper.wp execOp
     simp only [hop, resolve, hc, invoke, builtin, e1, e2, Sem.run_bind, Sem.run_pure, Result.andThen_ok, List.map_toArray, List.map_cons, List.map_nil, hA, hr, Oper.upon_value]
     refine hn _ _ _ _ ((hf.mem s.next k1 k2).put o.dst fun ρ'' _ => by simp only [SV.den, den_c]; rfl) h.2.k ?_
     have hsid : stId C (.call c) s = .one b := by
      simp only [stId, hc, hargs, hx]
     rw [put_heap, put_ents, hop, hsid]
     refine ⟨fun e he hne => ⟨setE_mem he fun e2 => hne (by first | exact e2 | exact e2.symm), rfl, rfl⟩, fun id' f _ hfi _ => ⟨f, hfi, rfl, Fk.refl _ _, fun k hk => k4 k fun e1 => ?_⟩⟩
     have := hf.hp.apart e0 he0 f (findE_mem hfi).1
     rw [hb0, ← e1] at this
     exact this hk
    ·exact h.elim
   ·exact h.elim
  ·rename_i hne1 hne2
   rw [hop] at h
   exact pur _ hop h
 ·exact pur2 _ rfl h
end step
end
end Go.Proofs.YtkifmppmfkpfbaaGreat.V
