import Derived.Test.YtkifmppmfkpfbaaGreatW15
import Derived.Test.YtkifmppmfkpfbaaGreatW03
import Derived.OneCell
import Derived.Test.YtkifmppmfkpfbaaGreatProg
import Derived.LoopTactic
set_option linter.unusedVariables false
set_option linter.unusedSimpArgs false
namespace Go.Proofs.YtkifmppmfkpfbaaGreat.V
open Go.RowKit
section
inductive AV where
 | v | p (sz : Nat) | f (fid : FuncId) (ps : List (Option Nat))
def ptrOf : Value → Value
 | .slice a _ _ => .pointer a
 | x => x
def capV : List (Option Nat) → List Value → List Value
 | none :: l, x :: xs => x :: capV l xs
 | some _ :: l, x :: xs => ptrOf x :: capV l xs
 | _, _ => []
def unV : List AV → List Value → List Value
 | .v :: l, x :: xs => x :: unV l xs
 | .p _ :: l, x :: xs => ptrOf x :: unV l xs
 | .f fid ps :: l, xs => .func (.func fid) #[] (capV ps (xs.take ps.length)).toArray :: unV l (xs.drop ps.length)
 | _, _ => []
def ptrS (sz : Nat) : SV → SV
 | .fv id => .fp id (.c 0) sz 0
 | _ => .val undef
def isFv : SV → Bool
 | .fv _ => true
 | _ => false
def capS : List (Option Nat) → List SV → List SV
 | none :: l, x :: xs => x :: capS l xs
 | some sz :: l, x :: xs => ptrS sz x :: capS l xs
 | _, _ => []
def skipS : List (Option Nat) → List SV → List SV
 | _ :: l, _ :: xs => skipS l xs
 | _, xs => xs
def unS : List AV → List SV → List SV
 | .v :: l, x :: xs => x :: unS l xs
 | .p sz :: l, x :: xs => ptrS sz x :: unS l xs
 | .f fid ps :: l, xs => .fnv fid (capS ps xs) :: unS l (skipS ps xs)
 | _, _ => []
def capFv : List (Option Nat) → List SV → Bool
 | none :: l, _ :: xs => capFv l xs
 | some _ :: l, x :: xs => isFv x && capFv l xs
 | _, _ => true
def allFv : List AV → List SV → Bool
 | .v :: l, _ :: xs => allFv l xs
 | .p _ :: l, x :: xs => isFv x && allFv l xs
 | .f _ ps :: l, xs => capFv ps xs && allFv l (skipS ps xs)
 | _, _ => true
def plainV : Value → Prop
 | .slice (some ⟨_, _, none⟩) _ _ => True
 | _ => False
def capPl : List (Option Nat) → List Value → Prop
 | none :: l, _ :: xs => capPl l xs
 | some _ :: l, x :: xs => plainV x ∧ capPl l xs
 | _, _ => True
def allPl : List AV → List Value → Prop
 | .v :: l, _ :: xs => allPl l xs
 | .p _ :: l, x :: xs => plainV x ∧ allPl l xs
 | .f _ ps :: l, xs => capPl ps (xs.take ps.length) ∧ allPl l (xs.drop ps.length)
 | _, _ => True
theorem ptrS_den {ρ : Nm} {sz : Nat} {x : SV} (h : isFv x = true) (hp : plainV (x.den ρ)) : (ptrS sz x).den ρ = ptrOf (x.den ρ) := by
 cases x with
 | fv id =>
   simp only [SV.den, Sl.val] at hp
   simp only [ptrS, SV.den, ptrOf, Sl.val]
   revert hp
   unfold plainV Sl.at
   split
   ·rename_i b o n c e
    intro _
    injection e with e1 _ _
    rw [e1]
    simp [den_c]
   ·intro hp; exact hp.elim
 | _ => cases h
theorem capS_den {ρ : Nm} : ∀ (ps : List (Option Nat)) (xs : List SV), capFv ps xs = true → capPl ps ((SV.dens ρ xs).take ps.length) → SV.dens ρ (capS ps xs) = capV ps ((SV.dens ρ xs).take ps.length)
 | [], xs, _, _ => by simp [capS, capV, SV.dens]
 | none :: l, [], _, _ => by simp [capS, capV, SV.dens]
 | some _ :: l, [], _, _ => by simp [capS, capV, SV.dens]
 | none :: l, x :: xs, h, hp => by
   simp only [capS, SV.dens, List.length_cons, List.take_succ_cons, capV]
   simp only [capFv] at h
   simp only [SV.dens, List.length_cons, List.take_succ_cons, capPl] at hp
   rw [capS_den l xs h hp]
 | some sz :: l, x :: xs, h, hp => by
   simp only [capS, SV.dens, List.length_cons, List.take_succ_cons, capV]
   simp only [capFv, Bool.and_eq_true] at h
   simp only [SV.dens, List.length_cons, List.take_succ_cons, capPl] at hp
   rw [capS_den l xs h.2 hp.2, ptrS_den h.1 hp.1]
theorem skipS_den {ρ : Nm} : ∀ (ps : List (Option Nat)) (xs : List SV), SV.dens ρ (skipS ps xs) = (SV.dens ρ xs).drop ps.length
 | [], xs => by simp [skipS]
 | _ :: l, [] => by simp [skipS, SV.dens]
 | _ :: l, x :: xs => by simp only [skipS, SV.dens, List.length_cons, List.drop_succ_cons]; exact skipS_den l xs
theorem unS_den {ρ : Nm} : ∀ (vs : List AV) (xs : List SV), allFv vs xs = true → allPl vs (SV.dens ρ xs) → SV.dens ρ (unS vs xs) = unV vs (SV.dens ρ xs)
 | [], xs, _, _ => by simp [unS, unV, SV.dens]
 | .v :: l, [], _, _ => by simp [unS, unV, SV.dens]
 | .p _ :: l, [], _, _ => by simp [unS, unV, SV.dens]
 | .v :: l, x :: xs, h, hp => by
   simp only [unS, SV.dens, unV]
   rw [unS_den l xs h hp]
 | .p sz :: l, x :: xs, h, hp => by
   simp only [allFv, Bool.and_eq_true] at h
   simp only [unS, SV.dens, unV]
   simp only [SV.dens, allPl] at hp
   rw [unS_den l xs h.2 hp.2, ptrS_den h.1 hp.1]
 | .f fid ps :: l, xs, h, hp => by
   simp only [allFv, Bool.and_eq_true] at h
   simp only [allPl] at hp
   simp only [unS, SV.dens, unV, SV.den]
   rw [capS_den ps xs h.1 hp.1, unS_den l (skipS ps xs) h.2 (by rw [skipS_den]; exact hp.2), skipS_den]
def flP (G : List FE) (sz : Nat) : SV → Option (SV × List (Unit → Prop))
 | .ptr b o => match nBeq o 0 with
   | true => some (.osl b 0 1 1, [])
   | false => none
 | .fp id i s o => match i with
   | .c k => match nBeq o 0 && nBeq s sz && nBeq k.toNat 0, findE G id with
     | true, some f => match f.c with
       | .rows e x => (match nBeq s e.size with | true => some (.fv id, [obLt e x (.c 0)]) | false => none)
       | _ => none
     | _, _ => none
   | _ => none
 | _ => none
def flC (G : List FE) : List (Option Nat) → List SV → Option (List SV × List (Unit → Prop))
 | [], [] => some ([], [])
 | none :: l, x :: xs => match flC G l xs with
   | some (ys, o) => some (x :: ys, o)
   | none => none
 | some sz :: l, x :: xs => match flP G sz x, flC G l xs with
   | some (y, o1), some (ys, o) => some (y :: ys, catP o1 o)
   | _, _ => none
 | _, _ => none
def flatA (G : List FE) : List AV → List SV → Option (List SV × List (Unit → Prop))
 | [], [] => some ([], [])
 | .v :: l, x :: xs => match flatA G l xs with
   | some (ys, o) => some (x :: ys, o)
   | none => none
 | .p sz :: l, x :: xs => match flP G sz x, flatA G l xs with
   | some (y, o1), some (ys, o) => some (y :: ys, catP o1 o)
   | _, _ => none
 | .f fid ps :: l, x :: xs => match x with
   | .fnv g cs => match nBeq g fid, flC G ps cs, flatA G l xs with
     | true, some (y, o1), some (ys, o) => some (appS y ys, catP o1 o)
     | _, _, _ => none
   | _ => none
 | _, _ => none
section flat
variable {E : Env} {ρ : Nm} {w : World} {H : List Ent} {G : List FE}
theorem flP_sound (hh : Hp E ρ H G w) {sz : Nat} {x y : SV} {obs : List (Unit → Prop)} (h : flP G sz x = some (y, obs)) (ho : ∀ p ∈ obs, p ()) : plainV (y.den ρ) ∧ ptrOf (y.den ρ) = x.den ρ := by
 unfold flP at h
 split at h
 ·rename_i b o
  cases hb : nBeq o 0 with
  | false => rw [hb] at h; cases h
  | true =>
    rw [hb] at h
    have hb := nBeq_eq hb
    subst hb
    cases h
    exact ⟨trivial, rfl⟩
 ·rename_i id i s o
  split at h
  ·rename_i k
   split at h
   ·rename_i f hb hf
    split at h
    ·rename_i e x hc
     cases hs : nBeq s e.size with
     | false => rw [hs] at h; cases h
     | true =>
       rw [hs] at h
       cases h
       simp only [Bool.and_eq_true] at hb
       obtain ⟨⟨b1, b2⟩, b3⟩ := hb
       have b1 := nBeq_eq b1
       have b3 := nBeq_eq b3
       have hs := nBeq_eq hs
       subst b1
       obtain ⟨hm, hid⟩ := findE_mem hf
       obtain ⟨h0, h1⟩ := ho _ List.mem_cons_self
       obtain ⟨b, off, cs, k1, k2, _⟩ := at_elem (hh.facts f hm) hc (hh.pos f hm e x hc) h0 h1
       rw [hid] at k1 k2
       have k3 := k1 0
       simp only [den_c] at k3 ⊢
       refine ⟨?_, ?_⟩
       ·simp only [SV.den, Sl.val, k2]
        trivial
       ·simp only [SV.den, Sl.val, ptrOf, den_c, b3, k2]
        simp only [Int.toNat_zero, Nat.zero_mul, Nat.zero_add, Nat.add_zero] at k3 ⊢
        rw [k3]
    ·cases h
   ·cases h
  ·cases h
 ·cases h
theorem flC_sound (hh : Hp E ρ H G w) : ∀ (ps : List (Option Nat)) (xs ys : List SV) (obs : List (Unit → Prop)), flC G ps xs = some (ys, obs) → (∀ p ∈ obs, p ()) → ys.length = ps.length ∧ capPl ps (SV.dens ρ ys) ∧ capV ps (SV.dens ρ ys) = SV.dens ρ xs
 | [], [], ys, obs, h, _ => by
   simp only [flC] at h
   cases h
   exact ⟨rfl, trivial, rfl⟩
 | [], _ :: _, ys, obs, h, _ => by simp [flC] at h
 | none :: l, [], ys, obs, h, _ => by simp [flC] at h
 | some _ :: l, [], ys, obs, h, _ => by simp [flC] at h
 | none :: l, x :: xs, ys, obs, h, ho => by
   simp only [flC] at h
   split at h
   ·rename_i ys' o' h1
    cases h
    obtain ⟨a1, a2, a3⟩ := flC_sound hh l xs ys' obs h1 ho
    exact ⟨by simp [a1], by simpa only [SV.dens, capPl] using a2, by simp only [SV.dens, capV, a3]⟩
   ·cases h
 | some sz :: l, x :: xs, ys, obs, h, ho => by
   simp only [flC] at h
   split at h
   ·rename_i y o1 ys' o2 h1 h2
    cases h
    rw [catP_eq] at ho
    obtain ⟨b1, b2⟩ := flP_sound hh h1 fun p hp => ho p (List.mem_append_left _ hp)
    obtain ⟨a1, a2, a3⟩ := flC_sound hh l xs ys' o2 h2 fun p hp => ho p (List.mem_append_right _ hp)
    exact ⟨by simp [a1], ⟨b1, a2⟩, by simp only [SV.dens, capV, a3, b2]⟩
   ·cases h
theorem flat_sound (hh : Hp E ρ H G w) : ∀ (vs : List AV) (xs ys : List SV) (obs : List (Unit → Prop)), flatA G vs xs = some (ys, obs) → (∀ p ∈ obs, p ()) → allPl vs (SV.dens ρ ys) ∧ unV vs (SV.dens ρ ys) = SV.dens ρ xs
 | [], [], ys, obs, h, _ => by
   simp only [flatA] at h
   cases h
   exact ⟨trivial, rfl⟩
 | [], _ :: _, ys, obs, h, _ => by simp [flatA] at h
 | .v :: l, [], ys, obs, h, _ => by simp [flatA] at h
 | .p _ :: l, [], ys, obs, h, _ => by simp [flatA] at h
 | .f _ _ :: l, [], ys, obs, h, _ => by simp [flatA] at h
 | .v :: l, x :: xs, ys, obs, h, ho => by
   simp only [flatA] at h
   split at h
   ·rename_i ys' o' h1
    cases h
    obtain ⟨a2, a3⟩ := flat_sound hh l xs ys' obs h1 ho
    exact ⟨by simpa only [SV.dens, allPl] using a2, by simp only [SV.dens, unV, a3]⟩
   ·cases h
 | .p sz :: l, x :: xs, ys, obs, h, ho => by
   simp only [flatA] at h
   split at h
   ·rename_i y o1 ys' o2 h1 h2
    cases h
    rw [catP_eq] at ho
    obtain ⟨b1, b2⟩ := flP_sound hh h1 fun p hp => ho p (List.mem_append_left _ hp)
    obtain ⟨a2, a3⟩ := flat_sound hh l xs ys' o2 h2 fun p hp => ho p (List.mem_append_right _ hp)
    exact ⟨⟨b1, a2⟩, by simp only [SV.dens, unV, a3, b2]⟩
   ·cases h
 | .f fid ps :: l, x :: xs, ys, obs, h, ho => by
   simp only [flatA] at h
   split at h
   ·rename_i g cs
    split at h
    ·rename_i y o1 ys' o2 h0 h1 h2
     cases h
     have h0 := nBeq_eq h0
     subst h0
     rw [catP_eq] at ho
     obtain ⟨b0, b1, b2⟩ := flC_sound hh ps cs y o1 h1 fun p hp => ho p (List.mem_append_left _ hp)
     obtain ⟨a2, a3⟩ := flat_sound hh l xs ys' o2 h2 fun p hp => ho p (List.mem_append_right _ hp)
     have e0 : (SV.dens ρ y).length = ps.length := by rw [dens_map, List.length_map, b0]
     have e1 : (SV.dens ρ (appS y ys')).take ps.length = SV.dens ρ y := by rw [appS_eq, dens_append]; exact List.take_left' e0
     have e2 : (SV.dens ρ (appS y ys')).drop ps.length = SV.dens ρ ys' := by rw [appS_eq, dens_append]; exact List.drop_left' e0
     refine ⟨?_, ?_⟩
     ·simp only [allPl, e1, e2]
      exact ⟨b1, a2⟩
     ·simp only [unV, e1, e2, SV.dens, SV.den, a3, b2]
    ·cases h
   ·cases h
end flat
def fnSpecV (vs : List AV) (as9 rs : List Shp) (ts : List TypeId) (pre : Shp.Ds as9 → Prop) (post : Shp.Ds as9 → Shp.Ds rs → Prop) : Spec := fun lo hi id args s K =>
 match flatA s.ents vs args with
 | some (fa, obs) => obsK obs (fnSpec as9 rs ts pre post lo hi id fa s K)
 | none => False
def vcWV (C : Cx) (fn : Func) (vs : List AV) (as9 rs : List Shp) (ts : List TypeId) (x : Shp.Ds as9) (post : Shp.Ds rs → Prop) : Prop :=
 match svArgs as9 (fun _ => x) 0 with
 | some (svs, ents) => (freshL C.lo C.hi [] [] ents && allFv vs svs) = true ∧ vcFL C fn (unS vs svs) [] ents 1000 (retPost rs ts post)
 | none => False
section spec
variable {E : Env} {ρ : Nm} {w : World} {H : List Ent} {G : List FE}
theorem spec_of_vcV {vs : List AV} {P : Program} {C : Cx} {f : FuncId} {fn : Func} (hn : hasFn P f) (hfn : P.funcs[f]? = some fn) (hcalm : calmF fn = true) {as9 rs : List Shp} {ts : List TypeId} {pre : Shp.Ds as9 → Prop} {post : Shp.Ds as9 → Shp.Ds rs → Prop}
    (hC : ∀ E : Env, E.ok → E.lo = C.lo → E.hi = C.hi → C.ok P E) (h : ∀ x, Shp.lims as9 x → pre x → vcWV C fn vs as9 rs ts x (post x)) {E : Env} (hE : E.ok) (hnp : ∀ s, ¬ C.x.pan s := by exact fun _ h => h) : SpecOk P E f (fnSpecV vs as9 rs ts pre post) := by
 refine ⟨hn, ?_⟩
 intro lo hi id args s K hlo hhi hs ρ w hh hargs
 unfold fnSpecV at hs
 split at hs
 rotate_left
 ·exact hs.elim
 rename_i fa obs hfa
 obtain ⟨hobs, hs⟩ := obsK_spec hs
 obtain ⟨hplain, hun⟩ := flat_sound hh vs args fa obs hfa hobs
 unfold fnSpec at hs
 split at hs
 ·rename_i d hd
  obtain ⟨hob, hs⟩ := obsK_spec hs
  have hpre := hs.ob ()
  have hall := hs.k.all
  have hv := h _ (decArgs_lims hh as9 fa d hd hob) hpre
  unfold vcWV at hv
  split at hv
  ·rename_i svs ents hsv
   obtain ⟨hfr, hv⟩ := hv
   simp only [Bool.and_eq_true] at hfr
   obtain ⟨hfr, hfv⟩ := hfr
   obtain ⟨⟨ρc, c1, c2⟩, c3⟩ := svArgs_sound hh (fun _ k => k < w.heap.size) C.lo C.hi (fun _ _ h => h) as9 fa d 0 svs ents hd hob hsv hfr
   have hE1 := callEnv_ok w (fun _ k => k < w.heap.size) C.lo C.hi ρ
   refine (calls_of_vcL (hC _ hE1 rfl rfl) hfn hcalm (unS vs svs) (ρ := ρc) (H := []) (G := ents) (nx := 1000) (xs := (SV.dens ρ args).toArray) (fun ρ' hr => by rw [unS_den vs svs hfv (by rw [c2 ρ' hr]; exact hplain), c2 ρ' hr, hun]) w c1 hv ?_ rfl fun s ρ w' _ h => (hnp s h).elim)
   intro v s1 ρ1 a1 w1 hf1 hinv hpost
   unfold retPost at hpost
   split at hpost
   ·rename_i l hl
    split at hpost
    ·rename_i d1 cs hd1 hcs
     obtain ⟨hok, hpost⟩ := hpost
     simp only [Bool.and_eq_true] at hok
     obtain ⟨hok, hbs⟩ := hok
     obtain ⟨hob1, hfin⟩ := obsK_spec hpost
     have hbs : d1.bs = [] := by
      cases hb : d1.bs with
      | nil => rfl
      | cons _ _ => rw [hb] at hbs; cases hbs
     have hs2 := hall _ ⟨hfin.ok, decArgs_lims hf1.hp rs l d1 hd1 hob1⟩
     split at hs2
     ·rename_i vs news hlf
      split at hs2
      ·rename_i us hus
       obtain ⟨hfr2, hk⟩ := hs2
       have hbel : Below w.heap.size w w1 := hf1.hp.keep
       have hh1 := hh.below hE hbel
       have hlv := decArgs_leaves hf1.hp rs l cs d1 hd1 hcs hob1 hbs
       rw [← kindss_leaves rs (fun _ => d1.x ())] at hok
       obtain ⟨ρ', r1, r2, r3, r4⟩ := lfRs_sound hlo hhi hf1.hp hh.size (fun _ _ _ => trivial) _ cs ts [] id vs news ρ hlf hh1 (fun e he => hh.lt he) (fun f hf k hk => hh.foot_lt hf hk) hlv hok hfr2
       have val : ∀ ρ'', Agr ρ' ρ'' s.heap (news ++ s.ents) → (tupR us).den ρ'' = v.den ρ1 := fun ρ'' hr => tupR_den hl (decArgs_length rs l d1 hd1) (packR_den hf1.hp rs l cs vs us d1 hd1 hob1 hcs (r2 ρ'' hr).2 hus)
       have r0 := (r2 ρ' (Agr.refl _ _ _)).1
       refine ⟨tupR us, _, ρ', by rw [val ρ' (Agr.refl _ _ _)], hk, by simp only [catE_eq]; exact r1, fun ρ'' hr => ?_, ?_⟩
       ·simp only [catE_eq] at hr
        exact ⟨(r2 ρ'' hr).1, by rw [val ρ'' hr, val ρ' (Agr.refl _ _ _)]⟩
       ·refine ⟨fun e he _ => ⟨he, r0.1 e he, hh.cells_agree r0 he⟩, fun id' f _ hf _ => ⟨f, ?_, rfl, (Fk.refl ρ f).names (FE.foot_names (r0.2 f (findE_mem hf).1).1 (r0.2 f (findE_mem hf).1).2 (r3 f (findE_mem hf).1)), fun k hk => hbel.block k (hh.foot_lt (findE_mem hf).1 hk)⟩⟩
        simp only [catE_eq]
        rw [find_append_ne fun g hg e0 => freshL_ne hfr2 g hg f (findE_mem hf).1 (by rw [e0, (findE_mem hf).2])]
        exact hf
      ·exact hs2.elim
     ·exact hs2.elim
    ·exact hpost.elim
   ·exact hpost.elim
  ·exact hv.elim
 ·exact hs.elim
end spec
end
end Go.Proofs.YtkifmppmfkpfbaaGreat.V
namespace Go.Proofs.YtkifmppmfkpfbaaGreat
open Go.RowKit
section
structure Keep (B p : Nat) (w w' : World) : Prop where
 os : w'.os = w.os
 tape : w'.tape = w.tape
 output : w'.output = w.output
 size : w.heap.size ≤ w'.heap.size
 block : ∀ k, k < B → k ≠ p → w'.heap[k]? = w.heap[k]?
theorem Keep.refl (B p : Nat) (w : World) : Keep B p w w := ⟨rfl, rfl, rfl, Nat.le_refl _, fun _ _ _ => rfl⟩
theorem Keep.trans {B p : Nat} {a b c : World} (h : Keep B p a b) (k : Keep B p b c) : Keep B p a c :=
 ⟨k.os.trans h.os, k.tape.trans h.tape, k.output.trans h.output, Nat.le_trans h.size k.size, fun i hi hp => (k.block i hi hp).trans (h.block i hi hp)⟩
theorem Keep.mono {B B' p : Nat} {w w' : World} (h : Keep B p w w') (hB : B' ≤ B) : Keep B' p w w' := ⟨h.os, h.tape, h.output, h.size, fun k hk hp => h.block k (Nat.lt_of_lt_of_le hk hB) hp⟩
theorem Keep.of_below {B p : Nat} {w w' : World} (h : Below B w w') : Keep B p w w' := ⟨h.os, h.tape, h.output, h.size, fun k hk _ => h.block k hk⟩
theorem Keep.then {B p : Nat} {a b c : World} (h : Keep B p a b) (k : Below B b c) : Keep B p a c := h.trans (.of_below k)
theorem Keep.alloc {B p : Nat} {a w : World} (h : Keep B p a w) (hB : B ≤ w.heap.size) (o : Obj) : Keep B p a (w.alloc o) := h.then ((Below.refl _ _).alloc hB o)
theorem Keep.drew {B p : Nat} {a w : World} (h : Keep B p a w) : Keep B p a w.drew := h.then (Below.refl _ _).drew
theorem Keep.drewN {B p : Nat} {a w : World} (h : Keep B p a w) (n : Nat) : Keep B p a (w.drewN n) := h.then (below_drewN (Below.refl _ _) n)
theorem Keep.setCell {B p : Nat} {a w : World} (h : Keep B p a w) {x : Addr} (hx : B ≤ x.block ∨ x.block = p) (u : Value) : Keep B p a (w.setCell x u) :=
 h.trans ⟨rfl, rfl, rfl, by simp [World.setCell], fun k hk hp => Below.heap_setCell _ _ _ _ (by omega)⟩
theorem Keep.below {B p : Nat} {w w' : World} (h : Keep B p w w') (hp : B ≤ p) : Below B w w' := ⟨h.os, h.tape, h.output, h.size, fun k hk => h.block k hk (by omega)⟩
theorem Keep.cell {B p : Nat} {w w' : World} (h : Keep B p w w') {a : Addr} {v : Value} (hc : w.cell? a = some v) (hB : a.block < B) (hp : a.block ≠ p) : w'.cell? a = some v :=
 (World.cell?_of_block (h.block a.block hB hp)).trans hc
theorem Bs.keep {w w' : World} {a : Option Addr} {len cap : Nat} {l : List UInt8} {p : Nat} (h : Bs w a len cap l) (K : Keep w.heap.size p w w') (ha : 0 < len → ∀ x, a = some x → x.block ≠ p) : Bs w' a len cap l :=
 ⟨h.len_eq, h.le, h.cap_le, h.len_le, fun hl => by
  obtain ⟨b, off, e, hc⟩ := h.cells hl
  exact ⟨b, off, e, fun i hi => K.cell (hc i hi) (World.block_lt_of_cell? w _ (hc i hi)) (ha hl ⟨b, off, none⟩ e)⟩⟩
theorem blk_cell {w : World} {b : Nat} {cs : Array Value} {T : TypeId} (h : w.heap[b]? = some (.cells cs T (0, 0))) (o : Nat) : w.cell? ⟨b, o, none⟩ = cs[o]? := by simp [World.cell?, h]
theorem blk_free {w : World} {b : Nat} {cs : Array Value} {T : TypeId} (h : w.heap[b]? = some (.cells cs T (0, 0))) (o : Nat) : w.frozen? ⟨b, o, none⟩ = false := by simp [World.frozen?, h]
theorem blk_new (w : World) (o : Obj) (b : Nat) (h : b = w.heap.size) : (w.alloc o).heap[b]? = some o := by subst h; exact heap_alloc_new w o
theorem blk_set {w : World} {b : Nat} {cs : Array Value} {T : TypeId} (h : w.heap[b]? = some (.cells cs T (0, 0))) (o : Nat) (v : Value) : (w.setCell ⟨b, o, none⟩ v).heap[b]? = some (.cells (cs.setIfInBounds o v) T (0, 0)) := by
 show (w.heap.modify b _)[b]? = _
 rw [Array.getElem?_modify, if_pos rfl, h]
 rfl
structure Cd (T : TypeId) (B p : Nat) (w : World) : Prop where
 lt : p < B
 size : B ≤ w.heap.size
 block : ∃ a n cap l, ∃ k : Nat, w.heap[p]? = some (.cells #[.slice a n cap, .int .i64 k] T (0, 0)) ∧ Bs w a n cap l ∧ (0 < n → ∀ x, a = some x → x.block ≠ p ∧ x.block < B)
theorem Cd.keep {T : TypeId} {B p : Nat} {w w' : World} (h : Cd T B p w) (hb : Below B w w') : Cd T B p w' := by
 obtain ⟨a, n, cap, l, k, h1, h2, h4⟩ := h.block
 refine ⟨h.lt, Nat.le_trans h.size hb.size, a, n, cap, l, k, by rw [hb.block p h.lt]; exact h1, ⟨h2.len_eq, h2.le, h2.cap_le, h2.len_le, fun hl => ?_⟩, h4⟩
 obtain ⟨b, off, e, hc⟩ := h2.cells hl
 refine ⟨b, off, e, fun i hi => ?_⟩
 rw [hb.cell (p := ⟨b, off + i, none⟩) (h4 hl ⟨b, off, none⟩ e).2]
 exact hc i hi
theorem Cd.alloc {T : TypeId} {B p : Nat} {w : World} (h : Cd T B p w) (o : Obj) : Cd T B p (w.alloc o) := h.keep ((Below.refl _ _).alloc h.size o)
theorem Cd.drew {T : TypeId} {B p : Nat} {w : World} (h : Cd T B p w) : Cd T B p w.drew := h.keep (Below.refl _ _).drew
theorem Cd.drewN {T : TypeId} {B p : Nat} {w : World} (h : Cd T B p w) (n : Nat) : Cd T B p (w.drewN n) := h.keep (below_drewN (Below.refl _ _) n)
theorem Cd.setCell {T : TypeId} {B p : Nat} {w : World} (h : Cd T B p w) {x : Addr} (hx : B ≤ x.block) (u : Value) : Cd T B p (w.setCell x u) := h.keep ((Below.refl _ _).setCell hx u)
theorem Cd.new {T : TypeId} {w : World} {a : Option Addr} {n cap : Nat} {l : List UInt8} (h : Bs w a n cap l) (ha : 0 < n → ∀ x, a = some x → x.block < w.heap.size) :
    Cd T (w.heap.size + 1) w.heap.size (w.alloc (.cells #[.slice a n cap, .int .i64 0] T)) :=
 ⟨by omega, by simp, a, n, cap, l, 0, blk_new w _ _ rfl, h.mono ((Below.refl _ _).alloc (Nat.le_refl _) _), fun hn x hx => by have := ha hn x hx; omega⟩
theorem Cd.put {T : TypeId} {B p : Nat} {w : World} (h : Cd T B p w) (k : Nat) : Cd T B p (w.setCell ⟨p, 1, none⟩ (.int .i64 k)) := by
 obtain ⟨a, n, cap, l, k0, hb, g, ha⟩ := h.block
 refine ⟨h.lt, by have := h.size; simp [World.setCell]; exact this, a, n, cap, l, k, ?_, ?_, ha⟩
 ·have := blk_set hb 1 (.int .i64 (k : Int))
  simpa using this
 ·exact g.keep ((Keep.refl w.heap.size p w).setCell (.inr rfl) _) (fun hn x hx => (ha hn x hx).1)
theorem setCell_same {w : World} {b : Nat} {cs : Array Value} {T : TypeId} {o : Nat} {v : Value} (h : w.heap[b]? = some (.cells cs T (0, 0))) (hv : cs[o]? = some v) : w.setCell ⟨b, o, none⟩ v = w := by
 have hlt := lt_of_block h
 have ho : o < cs.size := (Array.getElem?_eq_some_iff.1 hv).1
 have key : (w.setCell ⟨b, o, none⟩ v).heap = w.heap := by
  apply Array.ext_getElem?
  intro i
  by_cases e : i = b
  ·subst e
   rw [blk_set h o v, h]
   congr 2
   apply Array.ext_getElem?
   intro j
   rw [Array.getElem?_setIfInBounds]
   split
   ·rename_i e; subst e; exact hv.symm
   ·rfl
  ·exact Below.heap_setCell _ _ _ _ e
 show { w with heap := (w.setCell ⟨b, o, none⟩ v).heap } = w
 rw [key]
structure Drew (T : TypeId) (B p : Nat) (w w' : World) : Prop where
 cd : Cd T B p w'
 keep : Keep w.heap.size p w w'
theorem Drew.of_below {T : TypeId} {B p : Nat} {w w' : World} (h : Cd T B p w) (hb : Below w.heap.size w w') : Drew T B p w w' := ⟨h.keep (hb.mono h.size), .of_below hb⟩
theorem Drew.put {T : TypeId} {B p : Nat} {a w : World} (h : Drew T B p a w) (k : Nat) : Drew T B p a (w.setCell ⟨p, 1, none⟩ (.int .i64 k)) := ⟨h.cd.put k, h.keep.setCell (.inr rfl) _⟩
def lit (l : List Int) (x : Int) : Int := l.getD x.toNat 0
def Nxt (p : Nat) (n : Int) (w : World) (e : Ending) (w' : World) : Prop := ∃ (x : Int) (k m : Nat), e = .returned (.int .i64 x) ∧ 0 ≤ x ∧ x < n ∧ w' = (w.setCell ⟨p, 1, none⟩ (.int .i64 k)).drewN m
theorem Drew.trans {T : TypeId} {B p : Nat} {a b c : World} (h : Drew T B p a b) (k : Drew T B p b c) : Drew T B p a c := ⟨k.cd, h.keep.trans (k.keep.mono h.keep.size)⟩
theorem Drew.refl {T : TypeId} {B p : Nat} {w : World} (h : Cd T B p w) : Drew T B p w w := ⟨h, .refl _ _ _⟩
theorem Drew.alloc {T : TypeId} {B p : Nat} {a w : World} (h : Drew T B p a w) (o : Obj) : Drew T B p a (w.alloc o) := ⟨h.cd.alloc o, h.keep.alloc h.keep.size o⟩
theorem Drew.drew {T : TypeId} {B p : Nat} {a w : World} (h : Drew T B p a w) : Drew T B p a w.drew := ⟨h.cd.drew, h.keep.drew⟩
theorem Drew.drewN {T : TypeId} {B p : Nat} {a w : World} (h : Drew T B p a w) (n : Nat) : Drew T B p a (w.drewN n) := ⟨h.cd.drewN n, h.keep.drewN n⟩
theorem Drew.setCell {T : TypeId} {B p : Nat} {a w : World} (h : Drew T B p a w) {x : Addr} (hB : B ≤ a.heap.size) (hx : a.heap.size ≤ x.block) (u : Value) : Drew T B p a (w.setCell x u) :=
 ⟨h.cd.setCell (Nat.le_trans hB hx) u, h.keep.setCell (.inl hx) u⟩
theorem Drew.then {T : TypeId} {B p : Nat} {a b c : World} (h : Drew T B p a b) (k : Below b.heap.size b c) : Drew T B p a c := ⟨h.cd.keep (k.mono h.cd.size), h.keep.then (k.mono h.keep.size)⟩
end
section
set_option maxHeartbeats 400000 in
theorem mk_Left (p n cap k : Nat) (a : Option Addr) (w : World) (hb : w.heap[p]? = some (.cells #[.slice a n cap, .int .i64 k] 74 (0, 0))) :
    Calls Tryz.prog 33 #[.pointer (some ⟨p, 0, none⟩)] w fun e w' => e = .returned (.bool (decide (k < n))) ∧ Quiet w w' := by
 have hc := blk_cell hb
 clear hb
 go_enter Tryz.func33, Tryz.ntmps33
 go_wp2_with fail
 go_quiet (fail)
 go_wp2_with fail
 go_ret
 exact ⟨rfl, _, rfl⟩
set_option maxHeartbeats 400000 in
theorem mk_Next (B p : Nat) (n : Int) (w : World) (h : Cd 74 B p w) (h1 : 1 ≤ n) (h2 : n ≤ 65536) :
    Calls Tryz.prog 12 #[.pointer (some ⟨p, 0, none⟩), .int .i64 n] w fun e w' => Nxt p n w e w' := by
 obtain ⟨a, m, cap, l, k, hb, g, ha⟩ := h.block
 by_cases hlt : k < m
 ·have hd : decide (k < m) = true := by simpa using hlt
  go_enter Tryz.func12, Tryz.ntmps12
  go_wp2_with fail
  refine (mk_Left p m cap k a w hb).mono ?_
  rw [hd]
  rintro e w1 ⟨rfl, ⟨nq, rfl⟩⟩
  have hc := blk_cell hb
  have hf := blk_free hb
  obtain ⟨b, off, rfl, hcl⟩ := g.cells (by omega)
  have hl := g.len_eq
  have ck := hcl k (by omega)
  have hlb := g.len_le
  have hx := (l[k]'(by omega)).toNat_lt
  generalize l[k]'(by omega) = x at ck hx
  obtain ⟨hbp, hbB⟩ := ha (by omega) _ rfl
  simp only at hbp hbB
  have hpb : ¬ p = b := fun e => hbp e.symm
  have ck2 : ((w.setCell ⟨p, 1, none⟩ (.int .i64 (k + 1))).cell? ⟨b, off + k, none⟩) = some (.int .u8 x.toNat) := by
   rw [World.cell?_of_block (w := w) (Below.heap_setCell _ _ _ _ hbp)]; exact ck
  have ck3 : ((w.setCell ⟨p, 1, none⟩ (.int .i64 (k + 1))).cell? ⟨p, 1, none⟩) = some (.int .i64 (k + 1)) := by
   rw [blk_cell (blk_set hb 1 _)]; rfl
  have ck4 : ((w.setCell ⟨p, 1, none⟩ (.int .i64 (k + 1))).cell? ⟨p, 0, none⟩) = some (.slice (some ⟨b, off, none⟩) m cap) := by
   rw [blk_cell (blk_set hb 1 _)]; rfl
  clear hl
  go_wp2_with fail
  go_quiet (fail)
  go_wp2_with fail
  go_ret
  exact ⟨(x.toNat : Int) % n, k + 1, _, rfl, Int.emod_nonneg _ (by omega), Int.emod_lt_of_pos _ (by omega), (World.drewN_drewN (w.setCell ⟨p, 1, none⟩ (.int .i64 ((k : Int) + 1))) _ _)⟩
 ·have hd : decide (k < m) = false := by simpa using hlt
  go_enter Tryz.func12, Tryz.ntmps12
  go_wp2_with fail
  refine (mk_Left p m cap k a w hb).mono ?_
  rw [hd]
  rintro e w1 ⟨rfl, ⟨nq, rfl⟩⟩
  have hs := Lib.hid (setCell_same hb (o := 1) (v := .int .i64 k) rfl)
  go_wp2_with fail
  go_ret
  exact ⟨0, k, nq, rfl, by omega, by omega, by rw [hs.out]⟩
end
end Go.Proofs.YtkifmppmfkpfbaaGreat
namespace Go.Proofs.YtkifmppmfkpfbaaGreat.V
open Go.RowKit
section
def codesAt (T : TypeId) (G : List FE) : SV → Option Nat
 | .ptr i 0 => match findE G i with
   | some f => match f.c with
     | .codes (.cd T') => (match nBeq T' T with
       | true => some i
       | false => none)
     | _ => none
   | none => none
 | _ => none
def nones : List Shp → List (Option TypeId)
 | [] => []
 | _ :: az => none :: nones az
def aliveAll (G : List FE) : List Nat → Bool
 | [] => true
 | i :: l => aliveE G i && aliveAll G l
def drSpec (T : TypeId) (az rs : List Shp) (ros : List RO) (pre : Shp.Ds az → Prop) (post : Shp.Ds az → Shp.Ds rs → Prop) : Spec := fun lo hi id args s K =>
 match args with
 | [] => False
 | v :: rest => match codesAt T s.ents v with
   | none => False
   | some i => match decArgs s.heap s.ents az rest with
     | none => False
     | some d => match argIds s.heap s.ents az rest with
       | none => False
       | some per => aliveAll s.ents (allIds per) = true ∧ obsK d.ob (Ob (fun u => pre (d.x u)) (AllT (fun y => post (d.x ()) y ∧ Shp.lims rs y) fun y => match lfRsT [] [] (leavess rs fun _ => y) ros id with
         | some (vs, news) => match packR rs vs with
           | some us => freshL lo hi s.heap s.ents news = true ∧ K (tupR us) ⟨s.fr, s.n, s.heap, catE news s.ents, s.next⟩
           | none => False
         | none => False))
def isCodes (T : TypeId) (G : List FE) (i : Nat) : Bool := match findE G i with
 | some f => (match f.c with
   | .codes (.cd T') => nBeq T' T
   | _ => false)
 | none => false
def retPostD (T : TypeId) (j : Nat) (rs : List Shp) (ros : List RO) (post : Shp.Ds rs → Prop) (v : SV) (s : St) : Prop := isCodes T s.ents j = true ∧ retPostT rs ros [] [] post v (s.withE (killE s.ents [j]))
def vcWD (T : TypeId) (C : Cx) (fn : Func) (az rs : List Shp) (ros : List RO) (x : Shp.Ds az) (post : Shp.Ds rs → Prop) : Prop :=
 match svArgsT az (nones az) (fun _ => x) 1 with
 | some (svs, ents) => freshL C.lo C.hi [] [] ents = true ∧ vcFL C fn (.ptr C.hi 0 :: svs) [] (⟨C.hi, false, 0, [0], .codes (.cd T)⟩ :: ents) 1000 (holK C (retPostD T C.hi rs ros post))
 | none => False
theorem codesAt_spec {T : TypeId} {G : List FE} {v : SV} {i : Nat} (h : codesAt T G v = some i) : v = .ptr i 0 ∧ ∃ f, findE G i = some f ∧ f.c = .codes (.cd T) := by
 unfold codesAt at h
 split at h
 ·split at h
  ·rename_i f hf
   split at h
   ·rename_i T' hc
    cases hq : nBeq T' T with
    | false => rw [hq] at h; cases h
    | true =>
      rw [hq] at h
      cases h
      exact ⟨rfl, f, hf, by rw [hc, nBeq_eq hq]⟩
   ·cases h
  ·cases h
 ·cases h
theorem isCodes_spec {T : TypeId} {G : List FE} {i : Nat} (h : isCodes T G i = true) : ∃ f, findE G i = some f ∧ f.c = .codes (.cd T) := by
 unfold isCodes at h
 split at h
 ·rename_i f hf
  split at h
  ·rename_i T' hc
   exact ⟨f, hf, by rw [hc, nBeq_eq h]⟩
  ·cases h
 ·cases h
theorem mem_aliveAll {G : List FE} : ∀ {l : List Nat}, aliveAll G l = true → ∀ i ∈ l, aliveE G i = true
 | [], _, i, h => by cases h
 | x :: l, h, i, hi => by
   simp only [aliveAll, Bool.and_eq_true] at h
   rcases List.mem_cons.1 hi with rfl | hi
   ·exact h.1
   ·exact mem_aliveAll h.2 i hi
theorem tkIds_nones : ∀ (az : List Shp) (per : List (List Nat × List Nat)), tkIds (nones az) per = []
 | [], _ => by unfold tkIds; split <;> first | rfl | (simp [nones] at *)
 | _ :: az, [] => rfl
 | _ :: az, _ :: per => by simp only [nones, tkIds]; exact tkIds_nones az per
theorem tkOk_nones {G : List FE} : ∀ (az : List Shp) (per : List (List Nat × List Nat)), per.length = az.length → tkOk G (nones az) per = true
 | [], [], _ => rfl
 | [], _ :: _, h => by simp at h
 | _ :: az, [], h => by simp at h
 | _ :: az, p :: per, h => by
   simp only [nones, tkOk, Bool.and_eq_true]
   refine ⟨?_, tkOk_nones az per (by simpa using h)⟩
   rw [tkIds_nones]
   generalize p.1 = l
   induction l with
   | nil => rfl
   | cons x l ih => simp only [apartN, memN, ih]; rfl
section draw
variable {E : Env} {ρ : Nm} {w : World} {H : List Ent} {G : List FE}
theorem argIds_bs : ∀ (az : List Shp) (l : List SV) (per : List (List Nat × List Nat)), argIds H G az l = some per → ∀ p ∈ per, ∀ b ∈ p.2, ∃ x ∈ H, x.id = b
 | [], l, per, hp, p, hm, b, hb => by
   simp only [argIds] at hp
   split at hp
   ·cases hp; cases hm
   ·cases hp
 | e :: az, l, per, hp, p, hm, b, hb => by
   simp only [argIds] at hp
   split at hp
   ·cases hp
   ·split at hp
    ·rename_i cs hcs
     split at hp
     ·rename_i d1 r2 hd1 h2
      cases hp
      rcases List.mem_cons.1 hm with rfl | hm
      ·exact dec_bs e cs d1 hd1 b hb
      ·exact argIds_bs az _ r2 h2 p hm b hb
     ·cases hp
    ·cases hp
theorem draw_hp (hE : E.ok) (hh : Hp E ρ H G w) {f : FE} (hf : f ∈ G) {T : TypeId} (hc : f.c = .codes (.cd T)) {w' : World} (hb : BelowX w.heap.size (fun k => k = ρ.b f.id) w w') (hcd : ∃ l, Cds T (ρ.b f.id) (ρ.s f.id).a (ρ.s f.id).n (ρ.s f.id).cap l w') :
    Hp E ρ H G w' ∧ ∀ g ∈ G, g ≠ f → ∀ k, g.foot ρ k → w'.heap[k]? = w.heap[k]? := by
 have hx : f.excl ρ (ρ.b f.id) := by unfold FE.excl; rw [hc]
 have oth : ∀ g ∈ G, g ≠ f → ∀ k, g.foot ρ k → w'.heap[k]? = w.heap[k]? := fun g hg hne k hk => hb.block k (hh.foot_lt hg hk) fun e0 => by
  rcases hh.sep hg f hf _ hx with h | h
  ·exact h (e0 ▸ hk)
  ·exact hne h.symm
 have hkeep : E.keep w' := hE.keepX w w' hh.keep ⟨hb.os, hb.tape, hb.output, hb.size, fun k hk hm => hb.block k (by have := hh.size; omega) fun e0 => by
  rcases hh.exB f hf _ hx with h | h
  ·exact hm (e0 ▸ h)
  ·omega⟩
 refine ⟨⟨hkeep, Nat.le_trans hh.size hb.size, hh.base, fun ρ' hr e he => (hb.block _ (hh.lt he) fun e0 => ?_).trans (hh.block ρ' hr e he), hh.inj, fun g hg => ?_, hh.pos, hh.apart, hh.alone, hh.exB, hh.al, hh.anc⟩, oth⟩
 ·exact hh.apart e he f hf (e0 ▸ FE.excl_foot hx)
 ·by_cases hgf : g = f
  ·subst hgf
   obtain ⟨l, hl⟩ := hcd
   have := hh.facts g hg
   unfold FE.holds at this ⊢
   rw [hc] at this ⊢
   obtain ⟨l0, _, hz⟩ := this
   exact ⟨l, hl, hz⟩
  ·exact FE.stable (hh.facts g hg) hb.size (oth g hg hgf)
def drawEnv (w : World) (p : Nat) (z0 : Nat → Nat → Prop) (lo hi : Nat) (ρ : Nm) : Env := ⟨BelowX w.heap.size (fun k => k = p) w, w.heap.size, fun k => k = p, z0, lo, hi, ρ, []⟩
theorem drawEnv_ok (w : World) (p : Nat) (z0 : Nat → Nat → Prop) (lo hi : Nat) (ρ : Nm) : (drawEnv w p z0 lo hi ρ).ok := ⟨fun w1 w2 h1 h2 => BelowX.trans h1 h2⟩
def Nm.asN (ρ : Nm) (j : Nat) (ρ0 : Nm) (i : Nat) : Nm := ⟨fun n => if n = j then ρ0.b i else ρ.b n, fun n => if n = j then ρ0.s i else ρ.s n, fun n => if n = j then ρ0.z i else ρ.z n⟩
theorem freshL_lt {lo hi : Nat} : ∀ {ents : List FE} {H : List Ent} {G : List FE}, freshL lo hi H G ents = true → ∀ f ∈ ents, f.id < hi
 | [], _, _, _, f, hf => by cases hf
 | g :: l, H, G, h, f, hf => by
   simp only [freshL, Bool.and_eq_true, nBlt_iff] at h
   rcases List.mem_cons.1 hf with rfl | hf
   ·exact h.1.1.1.1.2
   ·exact freshL_lt h.2 f hf
theorem hp_codes {z0 : Nat → Nat → Prop} {lo hi : Nat} {ρc : Nm} {ents : List FE} {ids bs : List Nat} (hh : Hp E ρ H G w) {f : FE} (hf : f ∈ G) {T : TypeId} (hc : f.c = .codes (.cd T)) (h : Hp (callEnvT w (fun k => k = ρ.b f.id) z0 lo hi ρ) ρc [] ents w)
    (hz0 : ∀ k, k < w.heap.size → z0 0 k) (hfr : freshL lo hi [] [] ents = true) (hids : aliveAll G ids = true) (hbs : ∀ b ∈ bs, ∃ x ∈ H, x.id = b) (he : ∀ g ∈ ents, (∀ k, g.foot ρc k → DFoot ρ G ids bs k) ∧ ∀ k, ¬ g.excl ρc k) (hno : ∀ g ∈ ents, ∀ T, g.c ≠ .codes T) :
    Hp (drawEnv w (ρ.b f.id) z0 lo hi (ρ.asN hi ρ f.id)) (ρc.asN hi ρ f.id) [] (⟨hi, false, 0, [0], .codes (.cd T)⟩ :: ents) w := by
 have hx : f.excl ρ (ρ.b f.id) := by unfold FE.excl; rw [hc]
 have ff := hh.facts f hf
 unfold FE.holds at ff
 rw [hc] at ff
 have nb : ∀ g ∈ ents, g.id ≠ hi := fun g hg => by have := freshL_lt hfr g hg; omega
 have fn : ∀ g ∈ ents, g.foot (ρc.asN hi ρ f.id) = g.foot ρc := fun g hg => FE.foot_names (by simp [Nm.asN, nb g hg]) (by simp [Nm.asN, nb g hg]) (by simp [Nm.asN, nb g hg])
 have xn : ∀ g ∈ ents, g.excl (ρc.asN hi ρ f.id) = g.excl ρc := fun g hg => FE.excl_names (by simp [Nm.asN, nb g hg]) (by simp [Nm.asN, nb g hg])
 have foot0 : ∀ k, (⟨hi, false, 0, [0], .codes (.cd T)⟩ : FE).foot (ρc.asN hi ρ f.id) k → f.foot ρ k := by
  intro k hk
  unfold FE.foot at hk ⊢
  simp only [Nm.asN, if_true] at hk
  rw [hc]
  exact hk
 refine ⟨BelowX.of (Below.refl _ _) _, Nat.le_refl _, fun e he => (by cases he), fun _ _ e he => (by cases he), fun e he => (by cases he), fun g hg => ?_, fun g hg => ?_, fun e he => (by cases he), List.pairwise_cons.2 ⟨fun g hg k => ⟨fun hxk hk => ?_, fun hxk => ?_⟩, ?_⟩, fun g hg k hk => ?_, fun g hg k hk => ?_, fun i hi' => ?_⟩
 ·rcases List.mem_cons.1 hg with rfl | hg
  ·unfold FE.holds
   simp only [Nm.asN, if_true]
   exact ff
  ·rw [FE.holds_names (ρ := ρc) (by simp [Nm.asN, nb g hg]) (by simp [Nm.asN, nb g hg]) (by simp [Nm.asN, nb g hg]) fun k hk => by
     rw [noN_of (hno g hg)] at hk
     cases hk]
   exact h.facts g hg
 ·rcases List.mem_cons.1 hg with rfl | hg
  ·intro e x he; cases he
  ·exact h.pos g hg
 ·unfold FE.excl at hxk
  simp only [Nm.asN, if_true] at hxk
  subst hxk
  rw [fn g hg] at hk
  rcases (he g hg).1 _ hk with ⟨i, hi, g', hg', hk'⟩ | ⟨b, hb, hk'⟩
  ·have ha := mem_aliveAll hids i hi
   unfold aliveE at ha
   rw [hg'] at ha
   rcases hh.sep (findE_mem hg').1 f hf _ hx with h | h
   ·exact h hk'
   ·subst h
    simp only [hc] at ha
    cases ha
  ·obtain ⟨x, hx', rfl⟩ := hbs b hb
   exact hh.apart x hx' f hf (hk' ▸ FE.excl_foot hx)
 ·rw [xn g hg] at hxk
  exact ((he g hg).2 k hxk).elim
 ·exact h.alone.imp_of_mem fun {g g'} hg hg' hs k => by rw [fn g hg, fn g' hg', xn g hg, xn g' hg']; exact hs k
 ·rcases List.mem_cons.1 hg with rfl | hg
  ·unfold FE.excl at hk
   simp only [Nm.asN, if_true] at hk
   exact .inl hk
  ·rw [xn g hg] at hk; exact h.exB g hg k hk
 ·rcases List.mem_cons.1 hg with rfl | hg
  ·exact .inr ⟨0, List.mem_singleton_self _, hz0 k (hh.foot_lt hf (foot0 k hk))⟩
  ·rw [fn g hg] at hk; exact h.al g hg k hk
 ·have := h.anc i hi'
  have e1 : ρc.b i = ρ.b i := this.1
  have e2 : ρc.s i = ρ.s i := this.2
  simp only [drawEnv, Nm.asN]
  split <;> simp [e1, e2]
theorem spec_of_vcD {P : Program} {C : Cx} {f : FuncId} {fn : Func} (hn : hasFn P f) (hfn : P.funcs[f]? = some fn) (hcalm : calmF fn = true) {T : TypeId} {az rs : List Shp} {ros : List RO} {pre : Shp.Ds az → Prop} {post : Shp.Ds az → Shp.Ds rs → Prop}
    (hC : ∀ E : Env, E.ok → E.lo = C.lo → E.hi = C.hi → C.ok P E) (h : ∀ x, Shp.lims az x → pre x → vcWD T C fn az rs ros x (post x)) {E : Env} (hE : E.ok) (hnp : ∀ s, ¬ C.x.pan s := by exact fun _ h => h) : SpecOk P E f (drSpec T az rs ros pre post) := by
 refine ⟨hn, ?_⟩
 intro lo hi id args s K hlo hhi hs ρ w hh hargs
 unfold drSpec at hs
 split at hs
 ·exact hs.elim
 rename_i v0 rest
 split at hs
 ·exact hs.elim
 rename_i i hi0
 obtain ⟨rfl, fc, hfc, hfcc⟩ := codesAt_spec hi0
 split at hs
 ·exact hs.elim
 rename_i d hd
 split at hs
 ·exact hs.elim
 rename_i per hper
 obtain ⟨hal, hs⟩ := hs
 obtain ⟨hob, hs⟩ := obsK_spec hs
 have hpre := hs.ob ()
 have hall := hs.k.all
 have hfcm := (findE_mem hfc).1
 have hfci := (findE_mem hfc).2
 have hv := h _ (decArgs_lims hh az rest d hd hob) hpre
 unfold vcWD at hv
 split at hv
 rotate_left
 ·exact hv.elim
 rename_i svs ents hsv
 obtain ⟨hfr, hv⟩ := hv
 obtain ⟨hperids, hperlen⟩ := argIds_dec az rest d per hd hper
 have hmay0 : ∀ k, ¬ mayOf ρ s.ents (tkIds (nones az) per) k := by
  rw [tkIds_nones]
  rintro k ⟨j, hj, _⟩
  cases hj
 obtain ⟨⟨ρc, c1, c2, c3⟩, hbsall⟩ := svArgsT_sound hh (fun k => k = ρ.b fc.id) (fun j k => k < w.heap.size) C.lo C.hi az (nones az) rest d 1 per svs ents hd hob hper (tkOk_nones az per hperlen) hsv hfr
  (fun j p hj k hk => DFoot.lt hh (argIds_bs az rest per hper p (List.mem_of_getElem? hj)) hk) (fun k hk => (hmay0 k hk).elim)
 have c1' := hp_codes (ids := allIds per) (bs := allBs per) hh hfcm hfcc c1 (fun k hk => hk) hfr hal hbsall (fun g hg => ⟨(c3 g hg).1, fun k hk => hmay0 k ((c3 g hg).2.1 k hk)⟩) (fun g hg => (c3 g hg).2.2)
 have hE1 := drawEnv_ok w (ρ.b fc.id) (fun j k => k < w.heap.size) C.lo C.hi (ρ.asN C.hi ρ fc.id)
 refine (calls_of_vcH (hC _ hE1 rfl rfl) hfn hcalm (.ptr C.hi 0 :: svs) (ρ := ρc.asN C.hi ρ fc.id) (H := []) (G := ⟨C.hi, false, 0, [0], .codes (.cd T)⟩ :: ents) (nx := 1000) (xs := (SV.dens ρ (.ptr i 0 :: rest)).toArray) (fun ρ' hr => ?_) w c1' hv ?_ rfl fun s ρ w' _ h => (hnp s h).elim)
 ·have h1 := (hr.2 _ List.mem_cons_self).1
  simp only [Nm.asN, if_true] at h1
  have h2 : Agr ρc ρ' [] ents := ⟨fun e he => (by cases he), fun g hg => by
   have hne : g.id ≠ C.hi := by have := freshL_lt hfr g hg; omega
   have := hr.2 g (List.mem_cons_of_mem _ hg)
   simpa [Nm.asN, hne] using this⟩
  simp only [SV.dens, SV.den, c2 ρ' h2, h1, hfci]
 intro v s1 ρ1 a1 w1 hf1 hinv hpost
 obtain ⟨hic, hpost⟩ := hpost
 obtain ⟨fd, hfd, hfdc⟩ := isCodes_spec hic
 have hcd : ∃ l, Cds T (ρ.b fc.id) (ρ.s fc.id).a (ρ.s fc.id).n (ρ.s fc.id).cap l w1 := by
  have h1 := hf1.hp.facts fd (findE_mem hfd).1
  have h2 := hf1.hp.anc C.hi (.inr (Nat.le_refl _))
  unfold FE.holds at h1
  rw [hfdc, (findE_mem hfd).2] at h1
  simp only [drawEnv, Nm.asN, if_true] at h2
  rw [h2.1, h2.2] at h1
  exact ⟨_, h1.choose_spec.1⟩
 have hbel : BelowX w.heap.size (fun k => k = ρ.b fc.id) w w1 := hf1.hp.keep
 obtain ⟨hh1, hoth⟩ := draw_hp hE hh hfcm hfcc hbel hcd
 have hk1 := (kill_sound [C.hi] s1.ents hf1.hp).1
 have hgone : ∀ g ∈ killE s1.ents [C.hi], ¬ g.foot ρ1 (ρ.b fc.id) := kill_may [C.hi] s1.ents hf1.hp ⟨C.hi, List.mem_singleton_self _, fd, hfd, by
  have h2 := hf1.hp.anc C.hi (.inr (Nat.le_refl _))
  simp only [drawEnv, Nm.asN, if_true] at h2
  unfold FE.excl
  rw [hfdc, (findE_mem hfd).2, h2.1]⟩
 have hp0 : Hp ⟨fun _ => True, w.heap.size, fun _ => False, fun j k => k < w.heap.size, C.lo, C.hi, ρ.asN C.hi ρ fc.id, []⟩ ρ1 s1.heap (killE s1.ents [C.hi]) w1 :=
  ⟨trivial, hk1.size, hk1.base, hk1.block, hk1.inj, hk1.facts, hk1.pos, hk1.apart, hk1.alone, fun g hg k hx => (hk1.exB g hg k hx).imp (fun e0 => hgone g hg (by rw [← show k = ρ.b fc.id from e0]; exact FE.excl_foot hx)) (fun h => h), hk1.al, hk1.anc⟩
 revert hpost
 simp only [St.withE]
 revert hp0
 generalize killE s1.ents [C.hi] = Gd
 intro hp0 hpost
 unfold retPostT at hpost
 split at hpost
 rotate_left
 ·exact hpost.elim
 rename_i l hl
 split at hpost
 rotate_left
 ·exact hpost.elim
 rename_i d1 cs hd1 hcs
 obtain ⟨hok, hpost⟩ := hpost
 simp only [Bool.and_eq_true] at hok
 obtain ⟨hok, hbs⟩ := hok
 obtain ⟨hob1, hfin⟩ := obsK_spec hpost
 have hbs : d1.bs = [] := by
  cases hb : d1.bs with
  | nil => rfl
  | cons _ _ => rw [hb] at hbs; cases hbs
 have hs2 := hall _ ⟨hfin.ok, decArgs_lims hp0 rs l d1 hd1 hob1⟩
 split at hs2
 rotate_left
 ·exact hs2.elim
 rename_i vs news hlf
 split at hs2
 rotate_left
 ·exact hs2.elim
 rename_i us hus
 obtain ⟨hfr2, hk⟩ := hs2
 have hlv := decArgs_leaves hp0 rs l cs d1 hd1 hcs hob1 hbs
 rw [← kindss_leaves rs (fun _ => d1.x ())] at hok
 have places : Places E ρ s.heap s.ents ⟨fun _ => True, w.heap.size, fun _ => False, fun j k => k < w.heap.size, C.lo, C.hi, ρ.asN C.hi ρ fc.id, []⟩ w1 [] [] [] [] (fun _ => False) (fun _ => False) (fun _ => False) :=
  ⟨hh.size, fun e he => ⟨hh.lt he, fun h => h, fun h => h⟩, fun g hg k hk => hh.foot_lt hg hk, fun g hg k => ⟨fun h => h.elim, fun _ h => h, fun _ h => h⟩, fun j hj => (by cases hj), fun j hj => (by cases hj), fun k h => h, fun k h => h.elim, fun k h => h.elim, fun k h => h.elim, fun k h => h.elim (fun h => h.elim) (fun h => h.elim)⟩
 obtain ⟨ρ', r1, r2, r3, r4⟩ := lfRsT_sound hlo hhi hp0 places hh1 _ cs ros [] id vs news hlf hlv hok hfr2
 have val : ∀ ρ'', Agr ρ' ρ'' s.heap (news ++ s.ents) → (tupR us).den ρ'' = v.den ρ1 := fun ρ'' hr => tupR_den hl (decArgs_length rs l d1 hd1) (packR_den hp0 rs l cs vs us d1 hd1 hob1 hcs (r2 ρ'' hr).2 hus)
 have r0 := (r2 ρ' (Agr.refl _ _ _)).1
 refine ⟨tupR us, _, ρ', by rw [val ρ' (Agr.refl _ _ _)], hk, by simp only [catE_eq]; exact r1, fun ρ'' hr => ?_, ?_⟩
 ·simp only [catE_eq] at hr
  exact ⟨(r2 ρ'' hr).1, by rw [val ρ'' hr, val ρ' (Agr.refl _ _ _)]⟩
 ·refine ⟨fun e he _ => ⟨he, r0.1 e he, hh.cells_agree r0 he⟩, fun id' f _ hf hali => ⟨f, ?_, rfl, (Fk.refl ρ f).names (FE.foot_names (r0.2 f (findE_mem hf).1).1 (r0.2 f (findE_mem hf).1).2 (r3 f (findE_mem hf).1)), fun k hk => hoth f (findE_mem hf).1 (fun e0 => ?_) k hk⟩⟩
  ·simp only [catE_eq]
   rw [find_append_ne fun g hg e0 => freshL_ne hfr2 g hg f (findE_mem hf).1 (by rw [e0, (findE_mem hf).2])]
   exact hf
  ·subst e0
   simp only [catE_eq] at hali
   unfold aliveE at hali
   rw [find_append_ne fun g hg e0 => freshL_ne hfr2 g hg f (findE_mem hf).1 (by rw [e0, (findE_mem hf).2]), hf] at hali
   simp only [hfcc] at hali
   cases hali
end draw
end
end Go.Proofs.YtkifmppmfkpfbaaGreat.V
