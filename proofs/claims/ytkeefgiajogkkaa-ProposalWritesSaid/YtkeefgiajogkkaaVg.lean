/- The walker: contracts of functions that take pointers and function values. -/
import Derived.Test.YtkeefgiajogkkaaVj
set_option linter.unusedVariables false
set_option linter.unusedSimpArgs false
namespace Go.Proofs.Ytkeefgiajogkkaa.V
open Go.RowKit
inductive AV where
 | v | p (sz : Nat) | f (fid : FuncId) (ps : List (Option Nat))
def ptrOf : Value → Value
 | .slice a _ _ => .pointer a
 | x => x
def capV : List (Option Nat) → List Value → List Value
 | none :: l, x :: xs => x :: capV l xs
 | some _ :: l, x :: xs => ptrOf x :: capV l xs
 | _, _ => []
def unV : List AV → List Value → List Value
 | .v :: l, x :: xs => x :: unV l xs
 | .p _ :: l, x :: xs => ptrOf x :: unV l xs
 | .f fid ps :: l, xs => .func (.func fid) #[] (capV ps (xs.take ps.length)).toArray :: unV l (xs.drop ps.length)
 | _, _ => []
def ptrS (sz : Nat) : SV → SV
 | .fv id => .fp id (.c 0) sz 0
 | _ => .val undef
def isFv : SV → Bool
 | .fv _ => true
 | _ => false
def capS : List (Option Nat) → List SV → List SV
 | none :: l, x :: xs => x :: capS l xs
 | some sz :: l, x :: xs => ptrS sz x :: capS l xs
 | _, _ => []
def skipS : List (Option Nat) → List SV → List SV
 | _ :: l, _ :: xs => skipS l xs
 | _, xs => xs
def unS : List AV → List SV → List SV
 | .v :: l, x :: xs => x :: unS l xs
 | .p sz :: l, x :: xs => ptrS sz x :: unS l xs
 | .f fid ps :: l, xs => .fnv fid (capS ps xs) :: unS l (skipS ps xs)
 | _, _ => []
def capFv : List (Option Nat) → List SV → Bool
 | none :: l, _ :: xs => capFv l xs
 | some _ :: l, x :: xs => isFv x && capFv l xs
 | _, _ => true
def allFv : List AV → List SV → Bool
 | .v :: l, _ :: xs => allFv l xs
 | .p _ :: l, x :: xs => isFv x && allFv l xs
 | .f _ ps :: l, xs => capFv ps xs && allFv l (skipS ps xs)
 | _, _ => true
def plainV : Value → Prop
 | .slice (some ⟨_, _, none⟩) _ _ => True
 | _ => False
def capPl : List (Option Nat) → List Value → Prop
 | none :: l, _ :: xs => capPl l xs
 | some _ :: l, x :: xs => plainV x ∧ capPl l xs
 | _, _ => True
def allPl : List AV → List Value → Prop
 | .v :: l, _ :: xs => allPl l xs
 | .p _ :: l, x :: xs => plainV x ∧ allPl l xs
 | .f _ ps :: l, xs => capPl ps (xs.take ps.length) ∧ allPl l (xs.drop ps.length)
 | _, _ => True
theorem ptrS_den {ρ : Nm} {sz : Nat} {x : SV} (h : isFv x = true) (hp : plainV (x.den ρ)) : (ptrS sz x).den ρ = ptrOf (x.den ρ) := by
 cases x with
 | fv id =>
   simp only [SV.den, Sl.val] at hp
   simp only [ptrS, SV.den, ptrOf, Sl.val]
   revert hp
   unfold plainV Sl.at
   split
   ·rename_i b o n c e
    intro _
    injection e with e1 _ _
    rw [e1]
    simp [den_c]
   ·intro hp; exact hp.elim
 | _ => cases h
theorem capS_den {ρ : Nm} : ∀ (ps : List (Option Nat)) (xs : List SV), capFv ps xs = true → capPl ps ((SV.dens ρ xs).take ps.length) → SV.dens ρ (capS ps xs) = capV ps ((SV.dens ρ xs).take ps.length)
 | [], xs, _, _ => by simp [capS, capV, SV.dens]
 | none :: l, [], _, _ => by simp [capS, capV, SV.dens]
 | some _ :: l, [], _, _ => by simp [capS, capV, SV.dens]
 | none :: l, x :: xs, h, hp => by
   simp only [capS, SV.dens, List.length_cons, List.take_succ_cons, capV]
   simp only [capFv] at h
   simp only [SV.dens, List.length_cons, List.take_succ_cons, capPl] at hp
   rw [capS_den l xs h hp]
 | some sz :: l, x :: xs, h, hp => by
   simp only [capS, SV.dens, List.length_cons, List.take_succ_cons, capV]
   simp only [capFv, Bool.and_eq_true] at h
   simp only [SV.dens, List.length_cons, List.take_succ_cons, capPl] at hp
   rw [capS_den l xs h.2 hp.2, ptrS_den h.1 hp.1]
theorem skipS_den {ρ : Nm} : ∀ (ps : List (Option Nat)) (xs : List SV), SV.dens ρ (skipS ps xs) = (SV.dens ρ xs).drop ps.length
 | [], xs => by simp [skipS]
 | _ :: l, [] => by simp [skipS, SV.dens]
 | _ :: l, x :: xs => by simp only [skipS, SV.dens, List.length_cons, List.drop_succ_cons]; exact skipS_den l xs
theorem unS_den {ρ : Nm} : ∀ (vs : List AV) (xs : List SV), allFv vs xs = true → allPl vs (SV.dens ρ xs) → SV.dens ρ (unS vs xs) = unV vs (SV.dens ρ xs)
 | [], xs, _, _ => by simp [unS, unV, SV.dens]
 | .v :: l, [], _, _ => by simp [unS, unV, SV.dens]
 | .p _ :: l, [], _, _ => by simp [unS, unV, SV.dens]
 | .v :: l, x :: xs, h, hp => by
   simp only [unS, SV.dens, unV]
   rw [unS_den l xs h hp]
 | .p sz :: l, x :: xs, h, hp => by
   simp only [allFv, Bool.and_eq_true] at h
   simp only [unS, SV.dens, unV]
   simp only [SV.dens, allPl] at hp
   rw [unS_den l xs h.2 hp.2, ptrS_den h.1 hp.1]
 | .f fid ps :: l, xs, h, hp => by
   simp only [allFv, Bool.and_eq_true] at h
   simp only [allPl] at hp
   simp only [unS, SV.dens, unV, SV.den]
   rw [capS_den ps xs h.1 hp.1, unS_den l (skipS ps xs) h.2 (by rw [skipS_den]; exact hp.2), skipS_den]
def flP (G : List FE) (sz : Nat) : SV → Option (SV × List (Unit → Prop))
 | .ptr b o => match nBeq o 0 with
   | true => some (.osl b 0 1 1, [])
   | false => none
 | .fp id i s o => match i with
   | .c k => match nBeq o 0 && nBeq s sz && nBeq k.toNat 0, findE G id with
     | true, some f => match f.c with
       | .rows e x => (match nBeq s e.size with | true => some (.fv id, [obLt e x (.c 0)]) | false => none)
       | _ => none
     | _, _ => none
   | _ => none
 | _ => none
def flC (G : List FE) : List (Option Nat) → List SV → Option (List SV × List (Unit → Prop))
 | [], [] => some ([], [])
 | none :: l, x :: xs => match flC G l xs with
   | some (ys, o) => some (x :: ys, o)
   | none => none
 | some sz :: l, x :: xs => match flP G sz x, flC G l xs with
   | some (y, o1), some (ys, o) => some (y :: ys, catP o1 o)
   | _, _ => none
 | _, _ => none
def flatA (G : List FE) : List AV → List SV → Option (List SV × List (Unit → Prop))
 | [], [] => some ([], [])
 | .v :: l, x :: xs => match flatA G l xs with
   | some (ys, o) => some (x :: ys, o)
   | none => none
 | .p sz :: l, x :: xs => match flP G sz x, flatA G l xs with
   | some (y, o1), some (ys, o) => some (y :: ys, catP o1 o)
   | _, _ => none
 | .f fid ps :: l, x :: xs => match x with
   | .fnv g cs => match nBeq g fid, flC G ps cs, flatA G l xs with
     | true, some (y, o1), some (ys, o) => some (appS y ys, catP o1 o)
     | _, _, _ => none
   | _ => none
 | _, _ => none
section flat
variable {E : Env} {ρ : Nm} {w : World} {H : List Ent} {G : List FE}
theorem flP_sound (hh : Hp E ρ H G w) {sz : Nat} {x y : SV} {obs : List (Unit → Prop)} (h : flP G sz x = some (y, obs)) (ho : ∀ p ∈ obs, p ()) : plainV (y.den ρ) ∧ ptrOf (y.den ρ) = x.den ρ := by
 unfold flP at h
 split at h
 ·rename_i b o
  cases hb : nBeq o 0 with
  | false => rw [hb] at h; cases h
  | true =>
    rw [hb] at h
    have hb := nBeq_eq hb
    subst hb
    cases h
    exact ⟨trivial, rfl⟩
 ·rename_i id i s o
  split at h
  ·rename_i k
   split at h
   ·rename_i f hb hf
    split at h
    ·rename_i e x hc
     cases hs : nBeq s e.size with
     | false => rw [hs] at h; cases h
     | true =>
       rw [hs] at h
       cases h
       simp only [Bool.and_eq_true] at hb
       obtain ⟨⟨b1, b2⟩, b3⟩ := hb
       have b1 := nBeq_eq b1
       have b3 := nBeq_eq b3
       have hs := nBeq_eq hs
       subst b1
       obtain ⟨hm, hid⟩ := findE_mem hf
       obtain ⟨h0, h1⟩ := ho _ List.mem_cons_self
       obtain ⟨b, off, cs, k1, k2, _⟩ := at_elem (hh.facts f hm) hc (hh.pos f hm e x hc) h0 h1
       rw [hid] at k1 k2
       have k3 := k1 0
       simp only [den_c] at k3 ⊢
       refine ⟨?_, ?_⟩
       ·simp only [SV.den, Sl.val, k2]
        trivial
       ·simp only [SV.den, Sl.val, ptrOf, den_c, b3, k2]
        simp only [Int.toNat_zero, Nat.zero_mul, Nat.zero_add, Nat.add_zero] at k3 ⊢
        rw [k3]
    ·cases h
   ·cases h
  ·cases h
 ·cases h
theorem flC_sound (hh : Hp E ρ H G w) : ∀ (ps : List (Option Nat)) (xs ys : List SV) (obs : List (Unit → Prop)), flC G ps xs = some (ys, obs) → (∀ p ∈ obs, p ()) → ys.length = ps.length ∧ capPl ps (SV.dens ρ ys) ∧ capV ps (SV.dens ρ ys) = SV.dens ρ xs
 | [], [], ys, obs, h, _ => by
   simp only [flC] at h
   cases h
   exact ⟨rfl, trivial, rfl⟩
 | [], _ :: _, ys, obs, h, _ => by simp [flC] at h
 | none :: l, [], ys, obs, h, _ => by simp [flC] at h
 | some _ :: l, [], ys, obs, h, _ => by simp [flC] at h
 | none :: l, x :: xs, ys, obs, h, ho => by
   simp only [flC] at h
   split at h
   ·rename_i ys' o' h1
    cases h
    obtain ⟨a1, a2, a3⟩ := flC_sound hh l xs ys' obs h1 ho
    exact ⟨by simp [a1], by simpa only [SV.dens, capPl] using a2, by simp only [SV.dens, capV, a3]⟩
   ·cases h
 | some sz :: l, x :: xs, ys, obs, h, ho => by
   simp only [flC] at h
   split at h
   ·rename_i y o1 ys' o2 h1 h2
    cases h
    rw [catP_eq] at ho
    obtain ⟨b1, b2⟩ := flP_sound hh h1 fun p hp => ho p (List.mem_append_left _ hp)
    obtain ⟨a1, a2, a3⟩ := flC_sound hh l xs ys' o2 h2 fun p hp => ho p (List.mem_append_right _ hp)
    exact ⟨by simp [a1], ⟨b1, a2⟩, by simp only [SV.dens, capV, a3, b2]⟩
   ·cases h
theorem flat_sound (hh : Hp E ρ H G w) : ∀ (vs : List AV) (xs ys : List SV) (obs : List (Unit → Prop)), flatA G vs xs = some (ys, obs) → (∀ p ∈ obs, p ()) → allPl vs (SV.dens ρ ys) ∧ unV vs (SV.dens ρ ys) = SV.dens ρ xs
 | [], [], ys, obs, h, _ => by
   simp only [flatA] at h
   cases h
   exact ⟨trivial, rfl⟩
 | [], _ :: _, ys, obs, h, _ => by simp [flatA] at h
 | .v :: l, [], ys, obs, h, _ => by simp [flatA] at h
 | .p _ :: l, [], ys, obs, h, _ => by simp [flatA] at h
 | .f _ _ :: l, [], ys, obs, h, _ => by simp [flatA] at h
 | .v :: l, x :: xs, ys, obs, h, ho => by
   simp only [flatA] at h
   split at h
   ·rename_i ys' o' h1
    cases h
    obtain ⟨a2, a3⟩ := flat_sound hh l xs ys' obs h1 ho
    exact ⟨by simpa only [SV.dens, allPl] using a2, by simp only [SV.dens, unV, a3]⟩
   ·cases h
 | .p sz :: l, x :: xs, ys, obs, h, ho => by
   simp only [flatA] at h
   split at h
   ·rename_i y o1 ys' o2 h1 h2
    cases h
    rw [catP_eq] at ho
    obtain ⟨b1, b2⟩ := flP_sound hh h1 fun p hp => ho p (List.mem_append_left _ hp)
    obtain ⟨a2, a3⟩ := flat_sound hh l xs ys' o2 h2 fun p hp => ho p (List.mem_append_right _ hp)
    exact ⟨⟨b1, a2⟩, by simp only [SV.dens, unV, a3, b2]⟩
   ·cases h
 | .f fid ps :: l, x :: xs, ys, obs, h, ho => by
   simp only [flatA] at h
   split at h
   ·rename_i g cs
    split at h
    ·rename_i y o1 ys' o2 h0 h1 h2
     cases h
     have h0 := nBeq_eq h0
     subst h0
     rw [catP_eq] at ho
     obtain ⟨b0, b1, b2⟩ := flC_sound hh ps cs y o1 h1 fun p hp => ho p (List.mem_append_left _ hp)
     obtain ⟨a2, a3⟩ := flat_sound hh l xs ys' o2 h2 fun p hp => ho p (List.mem_append_right _ hp)
     have e0 : (SV.dens ρ y).length = ps.length := by rw [dens_map, List.length_map, b0]
     have e1 : (SV.dens ρ (appS y ys')).take ps.length = SV.dens ρ y := by rw [appS_eq, dens_append]; exact List.take_left' e0
     have e2 : (SV.dens ρ (appS y ys')).drop ps.length = SV.dens ρ ys' := by rw [appS_eq, dens_append]; exact List.drop_left' e0
     refine ⟨?_, ?_⟩
     ·simp only [allPl, e1, e2]
      exact ⟨b1, a2⟩
     ·simp only [unV, e1, e2, SV.dens, SV.den, a3, b2]
    ·cases h
   ·cases h
end flat
def fnSpecV (vs : List AV) (as rs : List Shp) (ts : List TypeId) (pre : Shp.Ds as → Prop) (post : Shp.Ds as → Shp.Ds rs → Prop) : Spec := fun lo hi id args s K =>
 match flatA s.ents vs args with
 | some (fa, obs) => obsK obs (fnSpec as rs ts pre post lo hi id fa s K)
 | none => False
def vcWV (C : Cx) (fn : Func) (vs : List AV) (as rs : List Shp) (ts : List TypeId) (x : Shp.Ds as) (post : Shp.Ds rs → Prop) : Prop :=
 match svArgs as (fun _ => x) 0 with
 | some (svs, ents) => (freshL C.lo C.hi [] [] ents && allFv vs svs) = true ∧ vcFL C fn (unS vs svs) [] ents 1000 (retPost rs ts post)
 | none => False
section spec
variable {E : Env} {ρ : Nm} {w : World} {H : List Ent} {G : List FE}
theorem spec_of_vcV {vs : List AV} {P : Program} {C : Cx} {f : FuncId} {fn : Func} (hn : hasFn P f) (hfn : P.funcs[f]? = some fn) (hcalm : calmF fn = true) {as rs : List Shp} {ts : List TypeId} {pre : Shp.Ds as → Prop} {post : Shp.Ds as → Shp.Ds rs → Prop}
    (hC : ∀ E : Env, E.ok → E.lo = C.lo → E.hi = C.hi → C.ok P E) (h : ∀ x, Shp.lims as x → pre x → vcWV C fn vs as rs ts x (post x)) {E : Env} (hE : E.ok) (hnp : ∀ s, ¬ C.x.pan s := by exact fun _ h => h) : SpecOk P E f (fnSpecV vs as rs ts pre post) := by
 refine ⟨hn, ?_⟩
 intro lo hi id args s K hlo hhi hs ρ w hh hargs
 unfold fnSpecV at hs
 split at hs
 rotate_left
 ·exact hs.elim
 rename_i fa obs hfa
 obtain ⟨hobs, hs⟩ := obsK_spec hs
 obtain ⟨hplain, hun⟩ := flat_sound hh vs args fa obs hfa hobs
 unfold fnSpec at hs
 split at hs
 ·rename_i d hd
  obtain ⟨hob, hs⟩ := obsK_spec hs
  have hpre := hs.ob ()
  have hall := hs.k.all
  have hv := h _ (decArgs_lims hh as fa d hd hob) hpre
  unfold vcWV at hv
  split at hv
  ·rename_i svs ents hsv
   obtain ⟨hfr, hv⟩ := hv
   simp only [Bool.and_eq_true] at hfr
   obtain ⟨hfr, hfv⟩ := hfr
   obtain ⟨⟨ρc, c1, c2⟩, c3⟩ := svArgs_sound hh (fun _ k => k < w.heap.size) C.lo C.hi (fun _ _ h => h) as fa d 0 svs ents hd hob hsv hfr
   have hE1 := callEnv_ok w (fun _ k => k < w.heap.size) C.lo C.hi ρ
   refine (calls_of_vcL (hC _ hE1 rfl rfl) hfn hcalm (unS vs svs) (ρ := ρc) (H := []) (G := ents) (nx := 1000) (xs := (SV.dens ρ args).toArray) (fun ρ' hr => by rw [unS_den vs svs hfv (by rw [c2 ρ' hr]; exact hplain), c2 ρ' hr, hun]) w c1 hv ?_ rfl fun s ρ w' _ h => (hnp s h).elim)
   intro v s1 ρ1 a1 w1 hf1 hinv hpost
   unfold retPost at hpost
   split at hpost
   ·rename_i l hl
    split at hpost
    ·rename_i d1 cs hd1 hcs
     obtain ⟨hok, hpost⟩ := hpost
     simp only [Bool.and_eq_true] at hok
     obtain ⟨hok, hbs⟩ := hok
     obtain ⟨hob1, hfin⟩ := obsK_spec hpost
     have hbs : d1.bs = [] := by
      cases hb : d1.bs with
      | nil => rfl
      | cons _ _ => rw [hb] at hbs; cases hbs
     have hs2 := hall _ ⟨hfin.ok, decArgs_lims hf1.hp rs l d1 hd1 hob1⟩
     split at hs2
     ·rename_i vs news hlf
      split at hs2
      ·rename_i us hus
       obtain ⟨hfr2, hk⟩ := hs2
       have hbel : Below w.heap.size w w1 := hf1.hp.keep
       have hh1 := hh.below hE hbel
       have hlv := decArgs_leaves hf1.hp rs l cs d1 hd1 hcs hob1 hbs
       rw [← kindss_leaves rs (fun _ => d1.x ())] at hok
       obtain ⟨ρ', r1, r2, r3, r4⟩ := lfRs_sound hlo hhi hf1.hp hh.size (fun _ _ _ => trivial) _ cs ts [] id vs news ρ hlf hh1 (fun e he => hh.lt he) (fun f hf k hk => hh.foot_lt hf hk) hlv hok hfr2
       have val : ∀ ρ'', Agr ρ' ρ'' s.heap (news ++ s.ents) → (tupR us).den ρ'' = v.den ρ1 := fun ρ'' hr => tupR_den hl (decArgs_length rs l d1 hd1) (packR_den hf1.hp rs l cs vs us d1 hd1 hob1 hcs (r2 ρ'' hr).2 hus)
       have r0 := (r2 ρ' (Agr.refl _ _ _)).1
       refine ⟨tupR us, _, ρ', by rw [val ρ' (Agr.refl _ _ _)], hk, by simp only [catE_eq]; exact r1, fun ρ'' hr => ?_, ?_⟩
       ·simp only [catE_eq] at hr
        exact ⟨(r2 ρ'' hr).1, by rw [val ρ'' hr, val ρ' (Agr.refl _ _ _)]⟩
       ·refine ⟨fun e he _ => ⟨he, r0.1 e he, hh.cells_agree r0 he⟩, fun id' f _ hf _ => ⟨f, ?_, rfl, (Fk.refl ρ f).names (FE.foot_names (r0.2 f (findE_mem hf).1).1 (r0.2 f (findE_mem hf).1).2 (r3 f (findE_mem hf).1)), fun k hk => hbel.block k (hh.foot_lt (findE_mem hf).1 hk)⟩⟩
        simp only [catE_eq]
        rw [find_append_ne fun g hg e0 => freshL_ne hfr2 g hg f (findE_mem hf).1 (by rw [e0, (findE_mem hf).2])]
        exact hf
      ·exact hs2.elim
     ·exact hs2.elim
    ·exact hpost.elim
   ·exact hpost.elim
  ·exact hv.elim
 ·exact hs.elim
end spec
end Go.Proofs.Ytkeefgiajogkkaa.V
