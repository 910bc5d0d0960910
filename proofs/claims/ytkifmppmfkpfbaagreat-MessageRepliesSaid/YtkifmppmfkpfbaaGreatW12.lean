import Derived.Test.YtkifmppmfkpfbaaGreatW11
import Derived.LoopN
set_option linter.unusedVariables false
set_option linter.unusedSimpArgs false
namespace Go.Proofs.YtkifmppmfkpfbaaGreat.V
open Go.RowKit
section
def opOf (ops : List Oper) (t : Nat) : Option Op :=
 match ops with
 | [] => none
 | o :: l => match o.dst with
   | some d => (match nBeq d t with | true => some o.op | false => opOf l t)
   | none => opOf l t
def onlyFv : List SV → Option Nat → Option Nat
 | [], r => r
 | .fv i :: l, none => onlyFv l (some i)
 | .fv _ :: _, some _ => none
 | _ :: l, r => onlyFv l r
def onlyPt : List SV → Option Nat
 | [] => none
 | .ptr b _ :: _ => some b
 | _ :: l => onlyPt l
def rootOf (ops : List Oper) (s : St) : Nat → Operand → Option Nat
 | 0, _ => none
 | n + 1, x => match x with
   | .tmp t => match opOf ops t with
     | some (.fieldAddr _ y _) => rootOf ops s n y
     | some (.indexAddr _ y _) => rootOf ops s n y
     | some (.move y) => rootOf ops s n y
     | some (.assign y) => match s.ev (.tmp t) with
       | .fv id => some id
       | _ => rootOf ops s n y
     | some (.nilCheck y) => rootOf ops s n y
     | some (.slice _ y _ _ _) => rootOf ops s n y
     | some (.alloc _) => some 1000000000000
     | some (.box _ _) => some 1000000000000
     | some (.buildSlice _ _ _) => some 1000000000000
     | some (.load _ (.tmp y)) => match opOf ops y with
       | some (.fieldAddr _ (.tmp z) _) => match opOf ops z with
         | some _ => none
         | none => match s.ev (.tmp z) with
           | .ptr b _ => match cellsE s.heap b with
             | some cs => match onlyFv cs none with
               | some i => some i
               | none => onlyPt cs
             | none => none
           | _ => none
       | some _ => none
       | none => match s.ev (.tmp y) with
         | .ptr b o => match cellsE s.heap b with
           | some cs => match nthL cs o with
             | some (.fv id) => some id
             | _ => some b
           | none => none
         | .fp id _ _ _ => some id
         | _ => none
     | some _ => none
     | none => match s.ev (.tmp t) with
       | .ptr b _ => some b
       | .osl b _ _ _ => some b
       | .fv id => some id
       | .fp id _ _ _ => some id
       | .val _ => some 1000000000000
       | .int _ _ => some 1000000000000
       | .bool _ => some 1000000000000
       | .str _ => some 1000000000000
       | _ => none
   | _ => some 1000000000000
def rootsOf (all : List Oper) (s : St) : List Oper → Option (List Nat)
 | [] => some []
 | o :: l => match o.op with
   | .store _ x _ => match rootOf all s 8 x, rootsOf all s l with
     | some b, some r => some (b :: r)
     | _, _ => none
   | .call c => match c.callee with
     | .builtin .append => match c.args.toList with
       | x :: _ => match rootOf all s 8 x, rootsOf all s l with
         | some b, some r => some (b :: r)
         | none, r => r
         | _, _ => none
       | [] => rootsOf all s l
     | .builtin .copy => match c.args.toList with
       | x :: _ => match rootOf all s 8 x, rootsOf all s l with
         | some b, some r => some (b :: r)
         | _, _ => none
       | [] => rootsOf all s l
     | _ => rootsOf all s l
   | _ => rootsOf all s l
def argRoots (all : List Oper) (s : St) : List Operand → Option (List Nat)
 | [] => some []
 | x :: l => match rootOf all s 8 x, argRoots all s l with
   | some b, some r => some (b :: r)
   | _, _ => none
def fvsC : List SV → List Nat
 | [] => []
 | .fv id :: l => id :: fvsC l
 | _ :: l => fvsC l
def partRoots (all : List Oper) (s : St) : List (Nat × Operand) → List Nat
 | [] => []
 | (_, x) :: l => match rootOf all s 8 x with
   | some b => b :: partRoots all s l
   | none => partRoots all s l
def litRoots (all : List Oper) (s : St) : List (Nat × Operand) → List Nat
 | [] => []
 | (_, x) :: l => match x with
   | .tmp t => match opOf all t with
     | some (.load _ y) => match rootOf all s 8 y with
       | some b => match cellsE s.heap b with
         | some cs => catN (fvsC cs) (litRoots all s l)
         | none => litRoots all s l
       | none => litRoots all s l
     | some (.build _ parts) => catN (partRoots all s parts.toList) (litRoots all s l)
     | _ => litRoots all s l
   | _ => litRoots all s l
def takesOf (all : List Oper) (s : St) : List Oper → Option (List Nat)
 | [] => some []
 | o :: l => match o.op with
   | .call c => match c.callee with
     | .builtin .len => takesOf all s l
     | .builtin .max => takesOf all s l
     | .builtin .min => takesOf all s l
     | .builtin .copy => takesOf all s l
     | _ => match argRoots all s c.args.toList, takesOf all s l with
       | some b, some r => some (catN b r)
       | _, _ => none
   | .slice _ x _ _ _ => match rootOf all s 8 x, takesOf all s l with
     | some b, some r => some (b :: r)
     | _, _ => none
   | .buildSlice _ _ es => match takesOf all s l with
     | some r => some (catN (litRoots all s es.toList) r)
     | none => none
   | _ => takesOf all s l
def quietE (ops : List Oper) (s : St) : List Ent :=
 match rootsOf ops s ops with
 | some r => lessE s.heap r
 | none => []
theorem quietE_mem {ops : List Oper} {s : St} {e : Ent} (h : e ∈ quietE ops s) : e ∈ s.heap := by
 unfold quietE at h
 split at h
 ·exact lessE_mem h
 ·cases h
def keepF (own : Option (List Nat)) (st : List Nat) : List FE → List Nat
 | [] => []
 | f :: l => match f.c with
   | .rows _ _ => match memN f.id st with
     | true => keepF own st l
     | false => match f.own with
       | false => f.id :: keepF own st l
       | true => match own with
         | none => keepF own st l
         | some r => match memN f.id r with
           | true => keepF own st l
           | false => f.id :: keepF own st l
   | _ => keepF own st l
def quietQ (ops : List Oper) (s : St) : List Nat :=
 match rootsOf ops s ops with
 | some r => keepF (takesOf ops s ops) r s.ents
 | none => []
def isI (C : Cx) (f : FuncId) : Bool := match SpecT.look C.I f with
 | some _ => true
 | none => false
def hasI (C : Cx) (s : St) : List Oper → Bool
 | [] => false
 | o :: l => (match o.op with
   | .mapUpdate _ _ _ _ => C.inl
   | .store _ _ _ => C.x.hol
   | .insert _ _ _ _ => C.inl
   | .call c => (match c.callee with
     | .value (.tmp t) => (match s.ev (.tmp t) with
       | .fnv f _ => isI C f
       | .fbv f _ => isI C f
       | _ => C.inl)
     | .value (.func f) => isI C f
     | _ => false)
   | _ => false) || hasI C s l
def quietEI (C : Cx) (ops : List Oper) (s : St) : List Ent := match hasI C s ops with
 | true => []
 | false => quietE ops s
theorem quietEI_mem {C : Cx} {ops : List Oper} {s : St} {e : Ent} (h : e ∈ quietEI C ops s) : e ∈ s.heap := by
 unfold quietEI at h
 split at h
 ·cases h
 ·exact quietE_mem h
def quietQI (C : Cx) (ops : List Oper) (s : St) : List Nat := match hasI C s ops with
 | true => []
 | false => quietQ ops s
def allFound (G : List FE) : List Nat → Bool
 | [] => true
 | i :: l => aliveE G i && allFound G l
theorem allFound_mem {G : List FE} : ∀ {l : List Nat}, allFound G l = true → ∀ i ∈ l, aliveE G i = true
 | [], _, i, h => by cases h
 | j :: l, h, i, hi => by
   simp only [allFound, Bool.and_eq_true] at h
   rcases List.mem_cons.1 hi with rfl | hi
   ·exact h.1
   ·exact allFound_mem h.2 i hi
def repB : List Oper → List Bool
 | [] => []
 | _ :: l => false :: repB l
theorem repB_eq (l : List Oper) : repB l = List.replicate l.length false := by
 induction l with
 | nil => rfl
 | cons x l ih => simp [repB, ih, List.replicate_succ]
def lenO : List Oper → Nat
 | [] => 0
 | _ :: l => lenO l + 1
theorem lenO_eq (l : List Oper) : lenO l = l.length := by
 induction l with
 | nil => rfl
 | cons x l ih => simp [lenO, ih]
structure Goes (lo hi : Nat) (s : St) (R : St → Prop) : Prop where
 go : ∀ (E : Env) (ρ : Nm) (a : Act) (w : World), E.lo = lo → E.hi = hi → Fit E ρ s a w → ∃ s' ρ', Fit E ρ' s' a w ∧ R s'
def seqK (n : St → Prop) (K : Exit → St → Prop) (e : Exit) (s : St) : Prop :=
 match e with
 | .normal => n s
 | e => K e s
def blockK (id : Nat) (K : Exit → St → Prop) (e : Exit) (s : St) : Prop :=
 match e with
 | .exit j => (match nBeq j id with | true => K .normal s | false => K (.exit j) s)
 | e => K e s
def scopeK (K : Exit → St → Prop) (e : Exit) (s : St) : Prop :=
 match e with
 | .goto _ => False
 | e => K e s
def regK (n : Nat) (K : Exit → St → Prop) (s : St) : Prop := K .normal ⟨s.fr, s.n, s.heap, s.ents, match nBlt s.next n with | true => n | false => s.next⟩
structure UnrI (lo hi : Nat) (f : St → (Exit → St → Prop) → Prop) (K : Exit → St → Prop) (s : St) : Prop where
 h : ∃ I : Nat → St → Prop, (Goes lo hi s fun s0 => ∃ n, I n s0) ∧ ∀ n s', I n s' → f s' (seqK (fun s'' => Goes lo hi s'' fun s3 => ∃ k, k < n ∧ I k s3) K)
def unr (lo hi : Nat) (f : St → (Exit → St → Prop) → Prop) (K : Exit → St → Prop) : Nat → St → Prop
 | 0, s => UnrI lo hi f K s
 | k + 1, s => f s (seqK (fun s' => unr lo hi f K k s') K)
structure Cb (p : Prop) : Prop where
 h : p
structure Mg (R : (St → Prop) → Prop) (K : St → Prop) : Prop where
 ex : ∃ s0, Cb (R fun s => s = s0) ∧ Cb (K s0)
def noBr : List Oper → Bool
 | [] => true
 | o :: l => (match o.guard with
   | none => true
   | some _ => false) && (match o.op with
   | .call c => (match c.callee with
     | .value _ => false
     | _ => true)
   | _ => true) && noBr l
def chgs : List Oper → Nat
 | [] => 0
 | o :: l => (match o.op with
   | .alloc _ => 1
   | .box _ _ => 1
   | .buildSlice _ _ _ => 1
   | .makeSlice _ _ _ => 1
   | .store _ _ _ => 1
   | .call _ => 1
   | .slice _ _ _ _ _ => 1
   | _ => 0) + chgs l
def loadsN : List Oper → Nat
 | [] => 0
 | o :: l => (match o.op with
   | .load _ _ => 1
   | _ => 0) + loadsN l
def mrgs (ops : List Oper) : Bool := nBlt 1 (chgs ops) || (nBlt 0 (chgs ops) && nBlt 1 (loadsN ops))
def mergeK (m : Bool) (R : (St → Prop) → Prop) (K : St → Prop) : Prop := match m with
 | true => Mg R K
 | false => R K
theorem mergeK_spec {m : Bool} {R : (St → Prop) → Prop} {K : St → Prop} (h : mergeK m R K) : ∃ K', R K' ∧ ∀ s, K' s → K s := by
 cases m with
 | true =>
   obtain ⟨s0, h1, h2⟩ := h.ex
   exact ⟨_, h1.h, fun s e => e ▸ h2.h⟩
 | false => exact ⟨K, h, fun _ h => h⟩
def endsN : Code → Bool
 | .ret => false
 | .exit _ => false
 | .seq a b => endsN a && endsN b
 | .cond _ a b => endsN a || endsN b
 | _ => true
def guardB : List Oper → Bool
 | [] => false
 | o :: l => match o.guard with
   | some _ => true
   | none => guardB l
def joinC : Code → Bool
 | .cond _ a b => endsN a || endsN b
 | .region _ ops draw => (match draw with | true => nBlt 1 (chgs ops.toList) | false => guardB ops.toList)
 | .seq _ b => joinC b
 | .block _ _ => true
 | _ => false
structure JoinT (f g : St → (Exit → St → Prop) → Prop) (lo hi : Nat) (s : St) (K : Exit → St → Prop) (d : (Exit → St → Prop) → Prop) : Prop where
 h : f s (seqK (fun s' => g s' K) K) ∨ (∃ R : St → Prop, f s (seqK (fun s' => Goes lo hi s' R) K) ∧ ∀ s', R s' → g s' K) ∨ d (seqK (fun s' => g s' K) K)
theorem JoinT.left {f g : St → (Exit → St → Prop) → Prop} {lo hi : Nat} {s : St} {K : Exit → St → Prop} {d : (Exit → St → Prop) → Prop} (h : f s (seqK (fun s' => g s' K) K)) : JoinT f g lo hi s K d := ⟨.inl h⟩
structure AllT {α : Type} (Q : α → Prop) (K : α → Prop) : Prop where
 all : ∀ x, Q x → K x
theorem Goes.self {lo hi : Nat} {s : St} {R : St → Prop} (h : R s) : Goes lo hi s R := ⟨fun _ ρ _ _ _ _ hf => ⟨s, ρ, hf, h⟩⟩
structure Ex2 {α β : Type} (p : α → Prop) (q : β → Prop) (F : α → β → St) (s : St) : Prop where
 ex : ∃ a b, p a ∧ q b ∧ s = F a b
theorem JoinT.mg2 {f g : St → (Exit → St → Prop) → Prop} {lo hi : Nat} {s : St} {K : Exit → St → Prop} {d : (Exit → St → Prop) → Prop} {α β : Type} {p : α → Prop} {q : β → Prop} {F : α → β → St} (h1 : f s (seqK (fun s' => Goes lo hi s' (Ex2 p q F)) K)) (h2 : AllT p fun a => AllT q fun b => g (F a b) K) : JoinT f g lo hi s K d :=
 ⟨.inr <| .inl ⟨_, h1, fun s' h => by obtain ⟨a, b, ha, hb, rfl⟩ := h.ex; exact (h2.all a ha).all b hb⟩⟩
def dpC (C : Cx) : Code → St → (Exit → St → Prop) → Prop
 | .region _ ops draw, s, K => (draw && allFound s.ents (quietQI C ops.toList s) && dstFree C.pin ops.toList) = true ∧ Lz fun _ => vcSets C ops.toList (quietEI C ops.toList s) s.next (regK (s.next + 64 * lenO ops.toList) K) (lenO ops.toList) [⟨repB ops.toList, quietQI C ops.toList s, S0 s⟩]
 | _, _, _ => False
def vc (C : Cx) : Code → St → (Exit → St → Prop) → Prop
 | .skip, s, K => K .normal s
 | .region _ ops draw, s, K =>
   match draw with
   | false => vcList C ops.toList ops.toList s (K .normal)
   | true => (allFound s.ents (quietQI C ops.toList s) && dstFree C.pin ops.toList) = true ∧ mergeK (noBr ops.toList && mrgs ops.toList) (fun K' => vcAny C ops.toList (quietEI C ops.toList s) s.next K' (lenO ops.toList) (repB ops.toList) (quietQI C ops.toList s) s) (regK (s.next + 64 * lenO ops.toList) K)
 | .seq a b, s, K => match joinC a with
   | true => JoinT (fun s K => vc C a s K) (fun s K => vc C b s K) C.lo C.hi s K (fun K => dpC C a s K)
   | false => vc C a s (seqK (fun s' => vc C b s' K) K)
 | .cond c t e, s, K => match s.ev c with
   | .bool (.c true) => vc C t s K
   | .bool (.c false) => vc C e s K
   | .bool b => (b.den = true → vc C t s K) ∧ (b.den = false → vc C e s K)
   | _ => False
 | .block id body, s, K => vc C body s (blockK id K)
 | .loop body, s, K => ∃ k, unr C.lo C.hi (fun s K => vc C body s K) K k s
 | .scope body, s, K => vc C body s (scopeK K)
 | .exit id, s, K => K (.exit id) s
 | .label _, s, K => K .normal s
 | .ret, s, K => K .ret s
 | _, _, _ => False
def calmC : Code → Bool
 | .region _ ops draw => nodefs ops && (match draw with | true => calm ops | false => true)
 | .seq a b => calmC a && calmC b
 | .cond _ a b => calmC a && calmC b
 | .block _ c => calmC c
 | .loop c => calmC c
 | .scope c => calmC c
 | _ => true
section code
variable {C : Cx} {P : Program} {E : Env}
theorem dp_sound {r : Option Nat} (hC : C.ok P E) {c : Code} {K : Exit → St → Prop} {Q : Exit → Act → World → Prop} (hc : calmC c = true) (hQ : PanOk E C.pin C.x Q)
    (hK : ∀ s' ρ' a' w', Fit E ρ' s' a' w' → K .normal s' → Q .normal a' w') {s : St} {ρ : Nm} {a : Act} {w : World} (h : dpC C c s K) (hf : Fit E ρ s a w) : Cwp r P c Q a w := by
 unfold dpC at h
 split at h
 ·rename_i id ops draw
  obtain ⟨h0, h⟩ := h
  simp only [Bool.and_eq_true] at h0
  obtain ⟨⟨rfl, hfound⟩, hpd⟩ := h0
  simp only [calmC, Bool.and_eq_true] at hc
  refine cwp_region_held (S := fun w' => Stands ρ (quietEI C ops.toList s) w' ∧ ∀ k, (∃ i ∈ quietQI C ops.toList s, ∃ f, findE s.ents i = some f ∧ f.foot ρ k) → w'.heap[k]? = w.drew.heap[k]?) hC.mixed ?_
  have hf' : Fit E ρ s a w.drew := ⟨hf.len, hf.lim, hf.tmps, hf.defers, hf.hp.change (hC.env.keep _ _ hf.hp.keep (Below.refl _ _).drew) (Nat.le_refl _) (fun _ _ => rfl) fun _ _ _ _ => rfl⟩
  have := sets_sound (rn := r) hC (ops := ops) hc.2 hc.1 hpd (base := s.next) (K := regK (s.next + 64 * lenO ops.toList) K) (Q := Q) hQ
   (fun s' ρ' a' w' hf' hk => hK ⟨s'.fr, s'.n, s'.heap, s'.ents, match nBlt s'.next (s.next + 64 * lenO ops.toList) with | true => s.next + 64 * lenO ops.toList | false => s'.next⟩ _ _ _ ⟨hf'.len, hf'.lim, hf'.tmps, hf'.defers, hf'.hp⟩ hk) ρ (H := quietEI C ops.toList s)
   (fun k => ∃ i ∈ quietQI C ops.toList s, ∃ f, findE s.ents i = some f ∧ f.foot ρ k) w.drew
   (lenO ops.toList) [⟨repB ops.toList, quietQI C ops.toList s, S0 s⟩] h.h (repB ops.toList) (quietQI C ops.toList s) s ρ a w.drew (by simp [repB_eq]) (SetIn.at SetAt.i0) hf'
   ⟨fun e he => ⟨quietEI_mem he, rfl, rfl⟩, fun i hi => by
    obtain ⟨f, e, x, h1, h2⟩ := aliveE_spec (allFound_mem hfound i hi)
    exact ⟨f, h1, ⟨e, x, h2⟩, fun k hk => ⟨i, hi, f, h1, hk⟩⟩, fun k hk => hk, fun _ _ => rfl⟩
  rw [repB_eq, lenO_eq] at this
  simpa using this
 ·exact h.elim
theorem vc_sound {r : Option Nat} (hC : C.ok P E) : ∀ (c : Code) (K : Exit → St → Prop) (Q : Exit → Act → World → Prop), calmC c = true → PanOk E C.pin C.x Q →
    (∀ e s' ρ' a' w', Fit E ρ' s' a' w' → K e s' → Q e a' w') → ∀ (s : St) (ρ : Nm) (a : Act) (w : World), vc C c s K → Fit E ρ s a w → Cwp r P c Q a w
 | .skip, K, Q, _, _, hK, s, ρ, a, w, h, hf => wpIn_skip (hK _ _ _ _ _ hf h)
 | .region id ops draw, K, Q, hc, hQ, hK, s, ρ, a, w, h, hf => by
   simp only [calmC, Bool.and_eq_true] at hc
   cases draw with
   | false => exact cwp_region_list (list_sound hC hQ (fun s' ρ' a' w' hf' hk => hK _ _ _ _ _ hf' hk) _ _ _ _ _ (nodefL_of hc.1) h hf)
   | true =>
     simp only [vc] at h
     obtain ⟨hfound, h⟩ := h
     rw [Bool.and_eq_true] at hfound
     obtain ⟨hfound, hpd⟩ := hfound
     obtain ⟨K', h, hK'⟩ := mergeK_spec h
     refine cwp_region_held (S := fun w' => Stands ρ (quietEI C ops.toList s) w' ∧ ∀ k, (∃ i ∈ quietQI C ops.toList s, ∃ f, findE s.ents i = some f ∧ f.foot ρ k) → w'.heap[k]? = w.drew.heap[k]?) hC.mixed ?_
     have hf' : Fit E ρ s a w.drew := ⟨hf.len, hf.lim, hf.tmps, hf.defers, hf.hp.change (hC.env.keep _ _ hf.hp.keep (Below.refl _ _).drew) (Nat.le_refl _) (fun _ _ => rfl) fun _ _ _ _ => rfl⟩
     have := any_sound (rn := r) hC (ops := ops) hc.2 hc.1 hpd (base := s.next) (K := K') (Q := Q) hQ
      (fun s' ρ' a' w' hf' hk => hK .normal ⟨s'.fr, s'.n, s'.heap, s'.ents, match nBlt s'.next (s.next + 64 * lenO ops.toList) with | true => s.next + 64 * lenO ops.toList | false => s'.next⟩ _ _ _ ⟨hf'.len, hf'.lim, hf'.tmps, hf'.defers, hf'.hp⟩ (hK' _ hk)) ρ (H := quietEI C ops.toList s)
      (fun k => ∃ i ∈ quietQI C ops.toList s, ∃ f, findE s.ents i = some f ∧ f.foot ρ k) w.drew
      (lenO ops.toList) (repB ops.toList) (quietQI C ops.toList s) s ρ a w.drew (by simp [repB_eq]) h hf'
      ⟨fun e he => ⟨quietEI_mem he, rfl, rfl⟩, fun i hi => by
       obtain ⟨f, e, x, h1, h2⟩ := aliveE_spec (allFound_mem hfound i hi)
       exact ⟨f, h1, ⟨e, x, h2⟩, fun k hk => ⟨i, hi, f, h1, hk⟩⟩, fun k hk => hk, fun _ _ => rfl⟩
     rw [repB_eq, lenO_eq] at this
     simpa using this
 | .seq x y, K, Q, hc, hQ, hK, s, ρ, a, w, h, hf => by
   simp only [calmC, Bool.and_eq_true] at hc
   simp only [vc] at h
   have plain : vc C x s (seqK (fun s' => vc C y s' K) K) → Cwp r P (Code.seq x y) Q a w := by
    intro h
    refine wpIn_seq (vc_sound hC x _ (Exit.then (Cwp r P y Q) Q) hc.1 ⟨hQ.ins, hQ.pan⟩ ?_ s ρ a w h hf)
    intro e s' ρ' a' w' hf' hk
    cases e with
    | normal => exact vc_sound hC y K Q hc.2 hQ hK s' ρ' a' w' hk hf'
    | _ => exact hK _ _ _ _ _ hf' hk
   cases hj : joinC x with
   | false => rw [hj] at h; exact plain h
   | true =>
     rw [hj] at h
     rcases h.h with h | ⟨R, h1, h2⟩ | h
     ·exact plain h
     rotate_left 1
     ·refine wpIn_seq (dp_sound (Q := Exit.then (Cwp r P y Q) Q) hC hc.1 ⟨hQ.ins, hQ.pan⟩ (fun s' ρ' a' w' hf' hk => ?_) h hf)
      exact vc_sound hC y K Q hc.2 hQ hK s' ρ' a' w' hk hf'
     ·refine wpIn_seq (vc_sound hC x _ (Exit.then (Cwp r P y Q) Q) hc.1 ⟨hQ.ins, hQ.pan⟩ ?_ s ρ a w h1 hf)
      intro e s' ρ' a' w' hf' hk
      cases e with
      | normal =>
        obtain ⟨s2, ρ2, hf2, hr⟩ := hk.go E ρ' a' w' hC.lo hC.hi hf'
        exact vc_sound hC y K Q hc.2 hQ hK s2 ρ2 a' w' (h2 s2 hr) hf2
      | _ => exact hK _ _ _ _ _ hf' hk
 | .cond c x y, K, Q, hc, hQ, hK, s, ρ, a, w, h, hf => by
   simp only [calmC, Bool.and_eq_true] at hc
   unfold vc at h
   have he := hf.ev (Agr.refl _ _ _) c
   split at h
   ·rename_i hb
    rw [hb] at he
    simp only [SV.den, bden_c] at he
    exact wpIn_cond_true he (vc_sound hC x K Q hc.1 hQ hK s ρ a w h hf)
   ·rename_i hb
    rw [hb] at he
    simp only [SV.den, bden_c] at he
    exact wpIn_cond_false he (vc_sound hC y K Q hc.2 hQ hK s ρ a w h hf)
   ·rename_i b _ _ hb
    rw [hb] at he
    simp only [SV.den] at he
    exact wpIn_cond_split he (fun ht => vc_sound hC x K Q hc.1 hQ hK s ρ a w (h.1 ht) hf) (fun ht => vc_sound hC y K Q hc.2 hQ hK s ρ a w (h.2 ht) hf)
   ·exact h.elim
 | .block id body, K, Q, hc, hQ, hK, s, ρ, a, w, h, hf => by
   simp only [calmC] at hc
   simp only [vc] at h
   refine wpIn_block (vc_sound hC body _ (Exit.inBlock id Q) hc ⟨hQ.ins, hQ.pan⟩ ?_ s ρ a w h hf)
   intro e s' ρ' a' w' hf' hk
   cases e with
   | exit j =>
     simp only [blockK] at hk
     simp only [Exit.inBlock]
     cases hj : nBeq j id with
     | true =>
       rw [hj] at hk
       rw [if_pos (nBeq_eq hj)]
       exact hK _ _ _ _ _ hf' hk
     | false =>
       rw [hj] at hk
       rw [if_neg (by intro e2; subst e2; simp at hj)]
       exact hK _ _ _ _ _ hf' hk
   | _ => exact hK _ _ _ _ _ hf' hk
 | .loop body, K, Q, hc, hQ, hK, s, ρ, a, w, h, hf => by
   simp only [calmC] at hc
   simp only [vc] at h
   obtain ⟨k, h⟩ := h
   refine cwp_loop_least ?_
   have key : ∀ (k : Nat) (s : St) (ρ : Nm) (a : Act) (w : World), unr C.lo C.hi (fun s K => vc C body s K) K k s → Fit E ρ s a w → LoopR r P body Q a w := by
    intro k
    induction k with
    | zero =>
      intro s ρ a w h hf
      obtain ⟨I, h0, hr⟩ := h.h
      obtain ⟨s0, ρ0, hf0, n0, hI0⟩ := h0.go E ρ a w hC.lo hC.hi hf
      have go : ∀ (n : Nat) (s : St) (ρ : Nm) (a : Act) (w : World), I n s → Fit E ρ s a w → LoopR r P body Q a w := by
       intro n
       induction n using Nat.strongRecOn with
       | _ n ih =>
         intro s ρ a w hI hf
         refine LoopR.round (vc_sound hC body _ (Exit.then _ Q) hc ⟨hQ.ins, hQ.pan⟩ ?_ s ρ a w (hr n s hI) hf)
         intro e s' ρ' a' w' hf' hk
         cases e with
         | normal =>
           obtain ⟨s3, ρ3, hf3, k, hlt, hI3⟩ := hk.go E ρ' a' w' hC.lo hC.hi hf'
           exact ih k hlt s3 ρ3 _ _ hI3 hf3
         | _ => exact hK _ _ _ _ _ hf' hk
      exact go n0 s0 ρ0 a w hI0 hf0
    | succ k ih =>
      intro s ρ a w h hf
      refine LoopR.round (vc_sound hC body _ (Exit.then _ Q) hc ⟨hQ.ins, hQ.pan⟩ ?_ s ρ a w h hf)
      intro e s' ρ' a' w' hf' hk
      cases e with
      | normal => exact ih s' ρ' a' w' hk hf'
      | _ => exact hK _ _ _ _ _ hf' hk
   exact key k s ρ a w h hf
 | .scope body, K, Q, hc, hQ, hK, s, ρ, a, w, h, hf => by
   simp only [calmC] at hc
   simp only [vc] at h
   refine cwp_scope (vc_sound hC body _ (Exit.noGoto Q) hc ⟨hQ.ins, hQ.pan⟩ ?_ s ρ a w h hf)
   intro e s' ρ' a' w' hf' hk
   cases e with
   | goto l => exact hk.elim
   | _ => exact hK _ _ _ _ _ hf' hk
 | .exit id, K, Q, _, _, hK, s, ρ, a, w, h, hf => wpIn_exit (hK _ _ _ _ _ hf h)
 | .label l, K, Q, _, _, hK, s, ρ, a, w, h, hf => wpIn_label (hK _ _ _ _ _ hf h)
 | .ret, K, Q, _, _, hK, s, ρ, a, w, h, hf => wpIn_ret (hK _ _ _ _ _ hf h)
 | .goto l, K, Q, _, _, hK, s, ρ, a, w, h, hf => by simp only [vc] at h
 | .rangeFunc _ _ _ _, K, Q, _, _, hK, s, ρ, a, w, h, hf => by simp only [vc] at h
 | .refuse _, K, Q, _, _, hK, s, ρ, a, w, h, hf => by simp only [vc] at h
end code
mutual
theorem den_z (b : Nat → Nat) (s : Nat → Sl) (z z' : Nat → Nat → Prop) : ∀ v : SV, v.den ⟨b, s, z⟩ = v.den ⟨b, s, z'⟩
 | .int _ _ | .bool _ | .str _ | .ptr _ _ | .osl _ _ _ _ | .ep _ _ _ _ _ | .fv _ | .fp _ _ _ _ | .val _ => by simp only [SV.den]
 | .agg cs => by simp only [SV.den, dens_z b s z z' cs]
 | .tup cs => by simp only [SV.den, dens_z b s z z' cs]
 | .fnv f cs => by simp only [SV.den, dens_z b s z z' cs]
 | .fbv f cs => by simp only [SV.den, dens_z b s z z' cs]
 | .mp id => by simp only [SV.den]
theorem dens_z (b : Nat → Nat) (s : Nat → Sl) (z z' : Nat → Nat → Prop) : ∀ l : List SV, SV.dens ⟨b, s, z⟩ l = SV.dens ⟨b, s, z'⟩ l
 | [] => rfl
 | v :: l => by simp only [SV.dens, den_z b s z z' v, dens_z b s z z' l]
end
theorem Fit.rename {E : Env} {ρ : Nm} {s : St} {a : Act} {w : World} (hf : Fit E ρ s a w) {ρ' : Nm} (hr : Agr ρ ρ' s.heap s.ents) : Fit { E with ρ0 := ρ', lo := 0, hi := 0 } ⟨ρ'.b, ρ'.s, ρ.z⟩ ⟨s.fr, s.n, s.heap, s.ents.map deadE, s.next⟩ a w := by
 have up : ∀ ρ'', Agr ⟨ρ'.b, ρ'.s, ρ.z⟩ ρ'' s.heap (s.ents.map deadE) → Agr ρ ρ'' s.heap s.ents := fun ρ'' h => ⟨fun e he => (h.1 e he).trans (hr.1 e he), fun f hf => by
  have := h.2 (deadE f) (List.mem_map_of_mem hf)
  exact ⟨this.1.trans (hr.2 f hf).1, this.2.trans (hr.2 f hf).2⟩⟩
 have h := hf.hp
 have nofoot : ∀ f ∈ s.ents.map deadE, ∀ k, ¬ f.foot ⟨ρ'.b, ρ'.s, ρ.z⟩ k := fun f hfm k hk => by
  obtain ⟨g, _, rfl⟩ := List.mem_map.1 hfm
  unfold FE.foot deadE at hk
  exact hk
 refine ⟨hf.len, hf.lim, fun ρ'' h => hf.tmps ρ'' (up ρ'' h), hf.defers, ⟨h.keep, h.size, fun e he => ?_, fun ρ'' hg e he => ?_, fun e he e' he' heq => ?_, fun f hfm => ?_, fun f hfm e x hx => ?_, fun e he f hfm => nofoot f hfm _, ?_, fun f hfm k hk => (nofoot f hfm k (FE.excl_foot hk)).elim, fun f hfm k hk => (nofoot f hfm k hk).elim, fun i _ => ⟨rfl, rfl⟩⟩⟩
 ·show E.B ≤ ρ'.b e.id; rw [hr.1 e he]; exact h.base e he
 ·show w.heap[ρ'.b e.id]? = _; rw [hr.1 e he]; exact h.block ρ'' (up ρ'' hg) e he
 ·change ρ'.b e.id = ρ'.b e'.id at heq; rw [hr.1 e he, hr.1 e' he'] at heq; exact h.inj e he e' he' heq
 ·obtain ⟨g, _, rfl⟩ := List.mem_map.1 hfm
  unfold FE.holds deadE
  trivial
 ·obtain ⟨g, _, rfl⟩ := List.mem_map.1 hfm
  cases hx
 ·exact List.pairwise_of_forall_mem_list fun f hfm g hgm k => ⟨fun hk => (nofoot f hfm k (FE.excl_foot hk)).elim, fun hk => (nofoot g hgm k (FE.excl_foot hk)).elim⟩
def resOne (T : TT) (s : St) : ResultVar → Option SV
 | .tmp t => some (s.ev (.tmp t))
 | .cell x t => match loadV T s.heap t (s.ev (.tmp x)) with
   | some ⟨none, v⟩ => some v
   | _ => none
def resAll (T : TT) (s : St) : List ResultVar → Option (List SV)
 | [] => some []
 | r :: l => match resOne T s r, resAll T s l with
   | some v, some vs => some (v :: vs)
   | _, _ => none
def resV (T : TT) (s : St) (l : List ResultVar) : Option SV :=
 match resAll T s l with
 | some [v] => some v
 | some vs => some (.tup vs)
 | none => none
theorem resAll_dead (T : TT) (s : St) : ∀ l, resAll T ⟨s.fr, s.n, s.heap, s.ents.map deadE, s.next⟩ l = resAll T s l
 | [] => rfl
 | r :: l => by
   unfold resAll
   rw [resAll_dead T s l]
   rfl
theorem resV_dead {T : TT} {s : St} {l : List ResultVar} {v : SV} (h : resV T s l = some v) : resV T ⟨s.fr, s.n, s.heap, s.ents.map deadE, s.next⟩ l = some v := by
 unfold resV at h ⊢
 rw [resAll_dead]
 exact h
section res
variable {C : Cx} {P : Program} {E : Env} {ρ : Nm} {s : St} {a : Act} {w : World}
theorem getD_tmp (hf : Fit E ρ s a w) (t : Nat) : a.tmps.getD t undef = (s.ev (.tmp t)).den ρ := hf.ev (Agr.refl _ _ _) (.tmp t)
def rd (tmps : Array Value) : ResultVar → Sem Value
 | .tmp t => pure (tmps.getD t undef)
 | .cell x t => do loadVar t (← asAddr (tmps.getD x undef))
theorem results_eq (fn : Func) (tmps : Array Value) : results fn tmps = (do let vs ← fn.results.mapM (rd tmps); pure (if h : vs.size = 1 then vs[0] else .tuple vs)) := by
 unfold results
 congr 1
theorem resAll_run {T : TT} (hT : TT.ok P T) (hf : Fit E ρ s a w) : ∀ (l : List ResultVar) (vs : List SV), resAll T s l = some vs →
    (l.mapM (rd a.tmps)).run P w = .ok (SV.dens ρ vs) w
 | [], vs, h => by
   unfold resAll at h
   cases h
   simp [SV.dens]
 | r :: l, vs, h => by
   unfold resAll at h
   split at h
   ·rename_i v vs' hv hvs
    cases h
    have ih := resAll_run hT hf l vs' hvs
    have h1 : (rd a.tmps r).run P w = .ok (v.den ρ) w := by
     cases r with
     | tmp t =>
       simp only [resOne] at hv
       cases hv
       simp only [rd, getD_tmp hf, Sem.run_pure]
     | cell x t =>
       simp only [resOne] at hv
       split at hv
       ·rename_i v' hl
        cases hv
        have := load_stands hT (hf.hp.stands (Agr.refl _ _ _)) hl trivial
        simp only [rd, getD_tmp hf]
        cases hx : s.ev (.tmp x) with
        | ptr b o =>
          rw [hx] at this
          simp only [SV.den, Instr.loadAt, Instr.sureAddr, Sem.run_bind, Sem.run_pure, Result.andThen_ok] at this
          simp only [SV.den, asAddr, Sem.run_bind, Sem.run_pure, Result.andThen_ok, this]
        | ep b o q n i =>
          rw [hx] at this
          simp only [SV.den, Instr.loadAt, Instr.sureAddr, Sem.run_bind, Sem.run_pure, Result.andThen_ok] at this
          simp only [SV.den, asAddr, Sem.run_bind, Sem.run_pure, Result.andThen_ok, this]
        | _ => rw [hx] at hl; simp [loadV] at hl
       ·cases hv
    simp only [List.mapM_cons, Sem.run_bind, h1, Result.andThen_ok, ih, Sem.run_pure, SV.dens]
   ·cases h
theorem res_run {T : TT} (hT : TT.ok P T) (hf : Fit E ρ s a w) {fn : Func} {v : SV} (h : resV T s fn.results.toList = some v) : (results fn a.tmps).run P w = .ok (v.den ρ) w := by
 unfold resV at h
 rw [results_eq, ← Array.toArray_toList (xs := fn.results), List.mapM_toArray]
 split at h
 ·rename_i v' hv
  cases h
  have := resAll_run hT hf _ _ hv
  simp only [Sem.run_bind, Sem.run_map, this]
  simp [SV.dens]
 ·rename_i vs hne hv
  cases h
  have := resAll_run hT hf _ _ hv
  simp only [Sem.run_bind, Sem.run_map, this]
  have hl : vs.length ≠ 1 := by
   intro e
   match vs, e with
   | [x], _ => exact hne x rfl
  simp [SV.den, dens_length, hl]
 ·cases h
end res
def frOf : List SV → Nat → Fr
 | [], _ => .e
 | v :: l, k => Fr.set v 12 (frOf l (k + 1)) k
theorem frOf_get : ∀ (l : List SV) (k j : Nat), k + l.length ≤ 4000 → (frOf l k).get j = if k ≤ j then l.getD (j - k) (.val undef) else .val undef
 | [], k, j, _ => by simp [frOf, Fr.get]
 | v :: l, k, j, h => by
   simp only [List.length_cons] at h
   rw [frOf, Fr.get_set v 12 _ k j (by omega), frOf_get l (k + 1) j (by omega)]
   by_cases hjk : j = k
   ·subst hjk; simp
   ·rw [if_neg hjk]
    by_cases h1 : k + 1 ≤ j
    ·rw [if_pos h1, if_pos (by omega), show j - k = (j - (k + 1)) + 1 by omega]
     simp
    ·rw [if_neg h1, if_neg (by omega)]
def St.start (args : List SV) (n : Nat) (H : List Ent) (G : List FE) (nx : Nat) : St := ⟨frOf args 0, n, H, G, nx⟩
def resK (Post : SV → St → Prop) (s : St) : Option SV → Prop
 | some v => Post v s
 | none => False
def endK (T : TT) (rs : List ResultVar) (Post : SV → St → Prop) (e : Exit) (s : St) : Prop :=
 match e with
 | .normal => resK Post s (resV T s rs)
 | .ret => resK Post s (resV T s rs)
 | _ => False
def vcF (C : Cx) (fn : Func) (args : List SV) (H : List Ent) (G : List FE) (nx : Nat) (Post : SV → St → Prop) : Prop :=
 match fn.body with
 | some c => (match nBle (lenL args) fn.ntmps && nBle fn.ntmps 4000 with | true => vc C c (St.start args fn.ntmps H G nx) (endK C.T fn.results.toList Post) | false => False)
 | none => False
def calmF (fn : Func) : Bool :=
 match fn.body with
 | some c => calmC c
 | none => false
theorem calls_of_vc {C : Cx} {P : Program} {E : Env} (hC : C.ok P E) {f : FuncId} {fn : Func} (hfn : P.funcs[f]? = some fn) (hcalm : calmF fn = true) (args : List SV) {xs : Array Value} {ρ : Nm} {H : List Ent} {G : List FE} {nx : Nat} (hx : ∀ ρ', Agr ρ ρ' H G → (SV.dens ρ' args).toArray = xs) (w : World)
    (hh : Hp E ρ H G w) {Post : SV → St → Prop} (h : vcF C fn args H G nx Post) {R : Ending → World → Prop}
    (hR : ∀ (v : SV) (s : St) (ρ : Nm) (a : Act) (w' : World), Fit E ρ s a w' → (∀ ρ', Agr ρ ρ' s.heap s.ents → v.den ρ' = v.den ρ) → Post v s → R (.returned (v.den ρ)) w')
    (hdf : E.df = []) (hpan : ∀ (s : St) (ρ : Nm) (w' : World), Hp E ρ s.heap s.ents w' → C.x.pan s → R (.panicked C.x.ch) w') :
    Calls P f xs w R := by
 unfold vcF at h
 unfold calmF at hcalm
 split at h
 ·rename_i c hb
  rw [hb] at hcalm
  cases hq : (nBle (lenL args) fn.ntmps && nBle fn.ntmps 4000) with
  | false => rw [hq] at h; exact h.elim
  | true =>
  rw [hq] at h
  simp only [Bool.and_eq_true] at hq
  have hl1 := nBle_le hq.1
  have hl2 := nBle_le hq.2
  rw [lenL_eq] at hl1
  have hxs : xs.size = args.length := by rw [← hx ρ (Agr.refl _ _ _)]; simp [dens_length]
  refine calls_of_wp hfn hb ?_
  have inv : ∀ {s' : St} {ρ' : Nm} {a' : Act} {w' : World} {v : SV}, Fit E ρ' s' a' w' → resV C.T s' fn.results.toList = some v → ∀ ρ'', Agr ρ' ρ'' s'.heap s'.ents → v.den ρ'' = v.den ρ' := by
   intro s' ρ' a' w' v hf' hv ρ'' hr
   have h1 := res_run hC.T hf' hv
   have h2 := res_run hC.T (hf'.rename hr) (resV_dead hv)
   rw [h1] at h2
   have h3 : v.den ⟨ρ''.b, ρ''.s, ρ'.z⟩ = v.den ρ' := by simpa using h2.symm
   rw [← h3]
   exact den_z _ _ _ _ v
  refine cwp_none.1 (vc_sound hC c _ _ hcalm ⟨fun c a a' w e _ h => ⟨e ▸ h.1, h.2⟩, fun s' ρ' a' w' e _ h1 h2 => ⟨e.trans hdf, hpan s' ρ' w' h1 h2⟩⟩ ?_ (St.start args fn.ntmps H G nx) ρ _ w h ?_)
  ·intro e s' ρ' a' w' hf' hk'
   cases e with
   | normal =>
     simp only [endK] at hk' ⊢
     unfold resK at hk'
     split at hk'
     ·rename_i v hv
      exact ⟨hf'.defers.trans hdf, _, res_run hC.T hf' hv, hR _ _ _ _ _ hf' (inv hf' hv) hk'⟩
     ·exact hk'.elim
   | ret =>
     simp only [endK] at hk' ⊢
     unfold resK at hk'
     split at hk'
     ·rename_i v hv
      exact ⟨hf'.defers.trans hdf, _, res_run hC.T hf' hv, hR _ _ _ _ _ hf' (inv hf' hv) hk'⟩
     ·exact hk'.elim
   | _ => exact hk'.elim
  ·refine ⟨by simp [St.start, hxs]; omega, hl2, ?_, hdf.symm, hh⟩
   intro ρ' hr t ht
   simp only [St.start]
   rw [frOf_get args 0 t (by omega)]
   simp only [Nat.zero_le, if_true, Nat.sub_zero]
   rw [Array.getElem?_append]
   have ht' : t < fn.ntmps := ht
   by_cases hlt : t < xs.size
   ·rw [if_pos hlt, ← hx ρ' hr]
    rw [hxs] at hlt
    simp [dens_getElem?, List.getElem?_eq_getElem hlt, List.getD_eq_getElem?_getD]
   ·rw [if_neg hlt]
    rw [hxs] at hlt
    rw [List.getD_eq_getElem?_getD, List.getElem?_eq_none (by omega)]
    simp [SV.den, hxs, Array.getElem?_replicate]
    omega
 ·exact h.elim
def idLo (n hi : Nat) (i : Nat) : Bool := match nBlt i n with
 | true => true
 | false => nBle hi i
def heapLo (n hi : Nat) : List Ent → Bool
 | [] => true
 | e :: l => idLo n hi e.id && heapLo n hi l
def entsLo (n hi : Nat) : List FE → Bool
 | [] => true
 | f :: l => idLo n hi f.id && entsLo n hi l
def hasH (i : Nat) : List Ent → Bool
 | [] => false
 | e :: l => match nBeq e.id i with
   | true => true
   | false => hasH i l
def hasG (i : Nat) : List FE → Bool
 | [] => false
 | e :: l => match nBeq e.id i with
   | true => true
   | false => hasG i l
def padH (H' : List Ent) (G' : List FE) : List Ent → List FE
 | [] => G'
 | e :: l => match hasH e.id H' with
   | true => padH H' G' l
   | false => match hasG e.id G' with
     | true => padH H' G' l
     | false => deadB e.id :: padH H' G' l
def padG (G' : List FE) : List FE → List FE
 | [] => G'
 | e :: l => match hasG e.id G' with
   | true => padG G' l
   | false => deadB e.id :: padG G' l
theorem idLo_spec {n hi i : Nat} (h : idLo n hi i = true) : i < n ∨ hi ≤ i := by
 unfold idLo at h
 split at h
 ·rename_i h1; exact .inl (by simpa [nBlt_iff] using h1)
 ·exact .inr (nBle_le h)
theorem heapLo_mem {n hi : Nat} : ∀ {l : List Ent}, heapLo n hi l = true → ∀ e ∈ l, e.id < n ∨ hi ≤ e.id
 | [], _, e, h => by cases h
 | x :: l, h, e, he => by
   simp only [heapLo, Bool.and_eq_true] at h
   rcases List.mem_cons.1 he with rfl | he
   ·exact idLo_spec h.1
   ·exact heapLo_mem h.2 e he
theorem entsLo_mem {n hi : Nat} : ∀ {l : List FE}, entsLo n hi l = true → ∀ e ∈ l, e.id < n ∨ hi ≤ e.id
 | [], _, e, h => by cases h
 | x :: l, h, e, he => by
   simp only [entsLo, Bool.and_eq_true] at h
   rcases List.mem_cons.1 he with rfl | he
   ·exact idLo_spec h.1
   ·exact entsLo_mem h.2 e he
theorem hasH_spec {i : Nat} : ∀ {l : List Ent}, hasH i l = true → ∃ e ∈ l, e.id = i
 | [], h => by cases h
 | x :: l, h => by
   unfold hasH at h
   split at h
   ·rename_i hb; exact ⟨x, List.mem_cons_self, nBeq_eq hb⟩
   ·obtain ⟨e, h1, h2⟩ := hasH_spec h; exact ⟨e, List.mem_cons_of_mem _ h1, h2⟩
theorem hasG_spec {i : Nat} : ∀ {l : List FE}, hasG i l = true → ∃ e ∈ l, e.id = i
 | [], h => by cases h
 | x :: l, h => by
   unfold hasG at h
   split at h
   ·rename_i hb; exact ⟨x, List.mem_cons_self, nBeq_eq hb⟩
   ·obtain ⟨e, h1, h2⟩ := hasG_spec h; exact ⟨e, List.mem_cons_of_mem _ h1, h2⟩
theorem Hp.pad {E : Env} {ρ : Nm} {H : List Ent} {G : List FE} {w : World} (h : Hp E ρ H G w) (i : Nat) : Hp E ρ H (deadB i :: G) w := by
 have df : ∀ k, ¬ (deadB i).foot ρ k := fun k hk => by unfold FE.foot deadB at hk; exact hk
 have dx : ∀ k, ¬ (deadB i).excl ρ k := fun k hk => df k (FE.excl_foot hk)
 refine ⟨h.keep, h.size, h.base, fun ρ' hr e he => h.block ρ' ⟨hr.1, fun f hf => hr.2 f (List.mem_cons_of_mem _ hf)⟩ e he, h.inj, fun f hf => ?_, fun f hf e x hc => ?_, fun e he f hf => ?_, List.pairwise_cons.2 ⟨fun g hg k => ⟨fun hk => absurd hk (dx k), fun _ => df k⟩, h.alone⟩, fun f hf k hk => ?_, fun f hf k hk => ?_, h.anc⟩
 ·rcases List.mem_cons.1 hf with rfl | hf
  ·unfold FE.holds deadB; trivial
  ·exact h.facts f hf
 ·rcases List.mem_cons.1 hf with rfl | hf
  ·simp [deadB] at hc
  ·exact h.pos f hf e x hc
 ·rcases List.mem_cons.1 hf with rfl | hf
  ·exact df _
  ·exact h.apart e he f hf
 ·rcases List.mem_cons.1 hf with rfl | hf
  ·exact absurd hk (dx k)
  ·exact h.exB f hf k hk
 ·rcases List.mem_cons.1 hf with rfl | hf
  ·exact absurd hk (df k)
  ·exact h.al f hf k hk
theorem padH_spec {E : Env} {ρ : Nm} {H' : List Ent} {w : World} {G' : List FE} (hh : Hp E ρ H' G' w) : ∀ (l : List Ent), Hp E ρ H' (padH H' G' l) w ∧ (∀ f ∈ G', f ∈ padH H' G' l) ∧ ∀ e ∈ l, (∃ e' ∈ H', e'.id = e.id) ∨ ∃ f ∈ padH H' G' l, f.id = e.id
 | [] => ⟨hh, fun _ h => h, fun e h => by cases h⟩
 | x :: l => by
   obtain ⟨h1, h2, h3⟩ := padH_spec hh l
   unfold padH
   split
   ·rename_i hx
    refine ⟨h1, h2, fun e he => ?_⟩
    rcases List.mem_cons.1 he with rfl | he
    ·exact .inl (hasH_spec hx)
    ·exact h3 e he
   ·split
    ·rename_i hx
     refine ⟨h1, h2, fun e he => ?_⟩
     rcases List.mem_cons.1 he with rfl | he
     ·obtain ⟨f, k1, k2⟩ := hasG_spec hx
      exact .inr ⟨f, h2 f k1, k2⟩
     ·exact h3 e he
    ·refine ⟨h1.pad _, fun f hf => List.mem_cons_of_mem _ (h2 f hf), fun e he => ?_⟩
     rcases List.mem_cons.1 he with rfl | he
     ·exact .inr ⟨_, List.mem_cons_self, rfl⟩
     ·rcases h3 e he with h | ⟨f, k1, k2⟩
      ·exact .inl h
      ·exact .inr ⟨f, List.mem_cons_of_mem _ k1, k2⟩
theorem padG_spec {E : Env} {ρ : Nm} {H' : List Ent} {w : World} {G' : List FE} (hh : Hp E ρ H' G' w) : ∀ (l : List FE), Hp E ρ H' (padG G' l) w ∧ (∀ f ∈ G', f ∈ padG G' l) ∧ ∀ e ∈ l, ∃ f ∈ padG G' l, f.id = e.id
 | [] => ⟨hh, fun _ h => h, fun e h => by cases h⟩
 | x :: l => by
   obtain ⟨h1, h2, h3⟩ := padG_spec hh l
   unfold padG
   split
   ·rename_i hx
    refine ⟨h1, h2, fun e he => ?_⟩
    rcases List.mem_cons.1 he with rfl | he
    ·obtain ⟨f, k1, k2⟩ := hasG_spec hx
     exact ⟨f, h2 f k1, k2⟩
    ·exact h3 e he
   ·refine ⟨h1.pad _, fun f hf => List.mem_cons_of_mem _ (h2 f hf), fun e he => ?_⟩
    rcases List.mem_cons.1 he with rfl | he
    ·exact ⟨_, List.mem_cons_self, rfl⟩
    ·obtain ⟨f, k1, k2⟩ := h3 e he
     exact ⟨f, List.mem_cons_of_mem _ k1, k2⟩
def Cx.from (C : Cx) (lo hi : Nat) : Cx := ⟨C.T, C.E, C.Y, C.shp, C.S, lo, hi, C.I, C.inl, C.x, C.pin⟩
def inlSpec (C : Cx) (fn : Func) : Spec := fun lo hi id args s K =>
 (nBle lo (s.next + 100000) && nBlt (s.next + 100000) hi && heapLo (s.next + 100000) hi s.heap && entsLo (s.next + 100000) hi s.ents) = true ∧
 vcF (C.from (s.next + 100000) hi) fn args s.heap s.ents (s.next + 100000) fun v s' => K v ⟨s'.fr, s'.n, s'.heap, padH s'.heap (padG s'.ents s.ents) s.heap, s'.next⟩
theorem inl_ok {C : Cx} {P : Program} {E : Env} (hE : E.ok) (hC : ∀ lo hi E', E'.ok → E'.lo = lo → E'.hi = hi → (C.from lo hi).ok P E') {f : FuncId} {fn : Func} (hfn : P.funcs[f]? = some fn) (hn : (fn.name == "runtime.NumGoroutine") = false ∧ fn.body.isNone = false) (hcalm : calmF fn = true) : SpecOkI P E C.x f (inlSpec C fn) := by
 refine ⟨⟨fn, hfn, hn⟩, ?_⟩
 intro lo hi id args s K hlo hhi h ρ w hh hargs
 obtain ⟨hq, h⟩ := h
 simp only [Bool.and_eq_true, nBlt_iff] at hq
 obtain ⟨⟨⟨q1, q2⟩, q3⟩, q4⟩ := hq
 have q1 := nBle_le q1
 have q3 := heapLo_mem q3
 have q4 := entsLo_mem q4
 let E' : Env := ⟨E.keep, E.B, E.may, E.z0, s.next + 100000, hi, ρ, []⟩
 have hE' : E'.ok := ⟨hE.keepX⟩
 have hh' : Hp E' ρ s.heap s.ents w := ⟨hh.keep, hh.size, hh.base, hh.block, hh.inj, hh.facts, hh.pos, hh.apart, hh.alone, hh.exB, hh.al, fun i _ => ⟨rfl, rfl⟩⟩
 refine calls_of_vc (hC _ _ E' hE' rfl rfl) hfn hcalm args (fun ρ' hg => by rw [hargs ρ' hg]) w hh' h ?_ rfl fun s' ρ' w' h1 h2 => .inr ⟨s', ρ', rfl, h2, ⟨h1.keep, h1.size, h1.base, h1.block, h1.inj, h1.facts, h1.pos, h1.apart, h1.alone, h1.exB, h1.al, fun i hi' => by
  have k1 := h1.anc i (by show i < s.next + 100000 ∨ hi ≤ i; omega)
  have k2 := hh.anc i hi'
  exact ⟨k1.1.trans k2.1, k1.2.trans k2.2⟩⟩⟩
 intro v s' ρ' a w' hf' hv hk
 obtain ⟨p1, p2, p3⟩ := padG_spec hf'.hp s.ents
 obtain ⟨r1, r2, r3⟩ := padH_spec p1 s.heap
 have anc := r1.anc
 refine .inl ⟨v, _, ρ', rfl, hk, ⟨r1.keep, r1.size, r1.base, r1.block, r1.inj, r1.facts, r1.pos, r1.apart, r1.alone, r1.exB, r1.al, fun i hi' => ?_⟩, fun ρ'' hg => ⟨⟨fun e he => ?_, fun g hg' => ?_⟩, hv ρ'' ⟨hg.1, fun f hf => hg.2 f (r2 f (p2 f hf))⟩⟩⟩
 ·have h1 := anc i (by show i < s.next + 100000 ∨ hi ≤ i; omega)
  have h2 := hh.anc i hi'
  exact ⟨h1.1.trans h2.1, h1.2.trans h2.2⟩
 ·have h1 := (anc e.id (q3 e he)).1
  rcases r3 e he with ⟨e', k1, k2⟩ | ⟨g, k1, k2⟩
  ·rw [← k2] at h1 ⊢
   exact (hg.1 e' k1).trans h1
  ·rw [← k2] at h1 ⊢
   exact (hg.2 g k1).1.trans h1
 ·obtain ⟨g', k1, k2⟩ := p3 g hg'
  have h1 := anc g.id (q4 g hg')
  rw [← k2] at h1 ⊢
  exact ⟨(hg.2 g' (r2 g' k1)).1.trans h1.1, (hg.2 g' (r2 g' k1)).2.trans h1.2⟩
def relitK (C : Cx) (Post : SV → St → Prop) (v : SV) (s : St) : Prop := match relitV C.shp C.lo C.hi s.heap s.ents (s.next + 50000) v with
 | ⟨v', H, G, n, ob⟩ => obsK ob (Post (hd1 v') ⟨s.fr, s.n, H, G, n⟩)
def vcFL (C : Cx) (fn : Func) (args : List SV) (H : List Ent) (G : List FE) (nx : Nat) (Post : SV → St → Prop) : Prop := vcF C fn args H G nx (relitK C Post)
theorem calls_of_vcL {C : Cx} {P : Program} {E : Env} (hC : C.ok P E) {f : FuncId} {fn : Func} (hfn : P.funcs[f]? = some fn) (hcalm : calmF fn = true) (args : List SV) {xs : Array Value} {ρ : Nm} {H : List Ent} {G : List FE} {nx : Nat} (hx : ∀ ρ', Agr ρ ρ' H G → (SV.dens ρ' args).toArray = xs) (w : World)
    (hh : Hp E ρ H G w) {Post : SV → St → Prop} (h : vcFL C fn args H G nx Post) {R : Ending → World → Prop}
    (hR : ∀ (v : SV) (s : St) (ρ : Nm) (a : Act) (w' : World), Fit E ρ s a w' → (∀ ρ', Agr ρ ρ' s.heap s.ents → v.den ρ' = v.den ρ) → Post v s → R (.returned (v.den ρ)) w')
    (hdf : E.df = []) (hpan : ∀ (s : St) (ρ : Nm) (w' : World), Hp E ρ s.heap s.ents w' → C.x.pan s → R (.panicked C.x.ch) w') :
    Calls P f xs w R := by
 refine calls_of_vc hC hfn hcalm args hx w hh h (fun v s ρ1 a w' hf hv hk => ?_) hdf hpan
 unfold relitK at hk
 obtain ⟨ho, hk⟩ := obsK_spec hk
 obtain ⟨ρ2, k1, k2⟩ := relitV_sound (S := C.shp) (n := s.next + 50000) hC.lo hC.hi v hf.hp ho
 have e1 : ∀ ρ'', Agr ρ2 ρ'' (relitV C.shp C.lo C.hi s.heap s.ents (s.next + 50000) v).H (relitV C.shp C.lo C.hi s.heap s.ents (s.next + 50000) v).G → (hd1 (relitV C.shp C.lo C.hi s.heap s.ents (s.next + 50000) v).v).den ρ'' = v.den ρ1 := fun ρ'' hr => by
  rw [(k2 ρ'' hr).2]; exact hv ρ'' (k2 ρ'' hr).1
 have e2 := e1 ρ2 (Agr.refl _ _ _)
 rw [← e2]
 exact hR _ ⟨s.fr, s.n, _, _, _⟩ ρ2 a w' (hf.mem _ k1 fun ρ'' hr => (k2 ρ'' hr).1) (fun ρ' hr => by rw [e2]; exact e1 ρ' hr) hk
def holK (C : Cx) (Post : SV → St → Prop) (v : SV) (s : St) : Prop := match C.x.hol with
 | false => Post v s
 | true => match closeG s.heap s.ents with
   | some (obs, G) => obsK obs (Post v (s.withE G))
   | none => Post v s
theorem calls_of_vcH {C : Cx} {P : Program} {E : Env} (hC : C.ok P E) {f : FuncId} {fn : Func} (hfn : P.funcs[f]? = some fn) (hcalm : calmF fn = true) (args : List SV) {xs : Array Value} {ρ : Nm} {H : List Ent} {G : List FE} {nx : Nat} (hx : ∀ ρ', Agr ρ ρ' H G → (SV.dens ρ' args).toArray = xs) (w : World)
    (hh : Hp E ρ H G w) {Post : SV → St → Prop} (h : vcFL C fn args H G nx (holK C Post)) {R : Ending → World → Prop}
    (hR : ∀ (v : SV) (s : St) (ρ : Nm) (a : Act) (w' : World), Fit E ρ s a w' → (∀ ρ', Agr ρ ρ' s.heap s.ents → v.den ρ' = v.den ρ) → Post v s → R (.returned (v.den ρ)) w')
    (hdf : E.df = []) (hpan : ∀ (s : St) (ρ : Nm) (w' : World), Hp E ρ s.heap s.ents w' → C.x.pan s → R (.panicked C.x.ch) w') :
    Calls P f xs w R := by
 refine calls_of_vcL hC hfn hcalm args hx w hh h (fun v s ρ1 a w' hf hv hk => ?_) hdf hpan
 unfold holK at hk
 split at hk
 ·exact hR _ _ _ _ _ hf hv hk
 ·split at hk
  ·rename_i obs G hc
   obtain ⟨ho, hk⟩ := obsK_spec hk
   obtain ⟨ρ2, k1, k2⟩ := closeG_sound hf.hp hc ho
   rw [← hv ρ2 (k2 ρ2 (Agr.refl _ _ _))]
   exact hR _ _ ρ2 a w' (hf.mem s.next k1 k2) (fun ρ' hr => by rw [hv ρ' (k2 ρ' hr), hv ρ2 (k2 ρ2 (Agr.refl _ _ _))]) hk
  ·exact hR _ _ _ _ _ hf hv hk
def hasFn (P : Program) (f : FuncId) : Prop := ∃ fn, P.funcs[f]? = some fn ∧ (fn.name == "runtime.NumGoroutine") = false ∧ fn.body.isNone = false
end
end Go.Proofs.YtkifmppmfkpfbaaGreat.V
