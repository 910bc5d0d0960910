/- Walks in a frame of whatever round: the laws that the walker uses, in the widest fence. -/
import Derived.WalkKit
import Derived.OrdersHeld
import Derived.OrdersIn
import Derived.Scope
import Derived.RangeFuncIn
set_option linter.unusedVariables false
set_option linter.unusedSimpArgs false
namespace Go.Proofs.Ytkeefgiajogkkaa.V
open Go.RowKit
def FW (r : Option Nat) : Fence := { Fence.wide with round := r }
theorem FW_none : FW none = Fence.wide := rfl
abbrev Cwp (r : Option Nat) (P : Program) (c : Code) (Q : Exit → Act → World → Prop) (a : Act) (w : World) : Prop := c.wpIn (FW r) 0 P Q a w
abbrev Owp (r : Option Nat) (P : Program) (o : Oper) (a : Act) (w : World) (next : Act → World → Prop) (Q : Exit → Act → World → Prop) : Prop := o.wpIn (FW r) 0 P a w next Q
def nodefB (op : Op) : Bool := match op with
 | .defer _ => false
 | _ => true
theorem nodefB_ne {op : Op} (h : nodefB op = true) : ∀ c, op ≠ .defer c := by
 intro c e
 rw [e] at h
 cases h
section fw
variable {r : Option Nat} {P : Program} {Q : Exit → Act → World → Prop}
theorem cwp_none {c : Code} {a : Act} {w : World} : Cwp none P c Q a w ↔ c.wp P Q a w := wpIn_wide
theorem callsW {n : Nat} {f : FuncId} {args : Array Value} {w : World} {R : Ending → World → Prop} (h : Calls P f args w R) : CallsIn (FW r) n P f args w R := (callsIn_wide (n := n)).2 h
theorem callsW' {n : Nat} {f : FuncId} {args : Array Value} {w : World} {R : Ending → World → Prop} (h : CallsIn (FW r) n P f args w R) : Calls P f args w R := (callsIn_wide (n := n)).1 h
theorem depthW : ¬ ((FW r).depth.isSome = true) := by simp [FW, Fence.wide]
theorem owp_of {o : Oper} {a : Act} {w : World} {next : Act → World → Prop} (hd : nodefB o.op = true) (h : o.wp P a w next Q) : Owp r P o a w next Q := by
 refine ⟨fun f _ => trivial, ?_⟩
 rw [show (FW r).round = r from rfl, Oper.semAt_eq r a.eval o (nodefB_ne hd)]
 unfold Oper.wp at h
 generalize (execOp a.eval o).run P w = R at h ⊢
 cases R with
 | ok n w' =>
   cases n with
   | enter f args => exact ⟨fun h => absurd h depthW, callsW h⟩
   | row row args => exact ⟨fun h => absurd h depthW, fun c cs _ => by
       obtain ⟨v, w'', h1, h2⟩ := h c cs
       exact ⟨v, w'', h1, (stepsIn_wide (P := P)).2 h2⟩⟩
   | _ => first | exact h | exact h.elim
 | halt x w' => cases x <;> first | exact h | exact h.elim
def wpListR (r : Option Nat) (P : Program) (ops : Array Oper) (Q : Exit → Act → World → Prop) : List Oper → Act → World → Prop
 | [], a, w => Q .normal a w
 | o :: l, a, w => if Region.wanted o (yielded ops a.tmps) = true then Owp r P o a w (wpListR r P ops Q l) Q else wpListR r P ops Q l (a.put o.dst undef) w
theorem wpOps_of_list {ops : Array Oper} : ∀ (l pre : List Oper) (a : Act) (w : World), ops.toList = pre ++ l → wpListR r P ops Q l a w → wpOpsIn (FW r) 0 P ops Q (List.range' pre.length l.length) a w
 | [], pre, a, w, _, h => h
 | o :: l, pre, a, w, e, h => by
   have ih := fun a w => wpOps_of_list l (pre ++ [o]) a w (by rw [e]; simp)
   have ho : ops[pre.length]? = some o := by rw [← Array.getElem?_toList, e]; simp
   simp only [List.length_cons, List.range'_succ, wpOpsIn, ho]
   simp only [List.length_append, List.length_cons, List.length_nil, Nat.zero_add] at ih
   simp only [wpListR] at h
   split
   ·rename_i hw
    rw [if_pos hw] at h
    exact Oper.wpIn_mono (fun a w h => ih a w h) h
   ·rename_i hw
    rw [if_neg hw] at h
    exact ⟨fun _ _ => trivial, ih _ _ h⟩
theorem cwp_region_list {id : Nat} {ops : Array Oper} {a : Act} {w : World} (h : wpListR r P ops Q ops.toList a w) : Cwp r P (.region id ops false) Q a w := by
 refine wpIn_region ?_
 have := wpOps_of_list ops.toList [] a w rfl h
 rw [List.range_eq_range']
 simpa using this
def wpOpR (r : Option Nat) (P : Program) (ops : Array Oper) (Q : Exit → Act → World → Prop) (i : Nat) (K : Act → World → Prop) (a : Act) (w : World) : Prop :=
 match ops[i]? with
 | none => K a w
 | some o => if Region.wanted o (yielded ops a.tmps) = true then Owp r P o a w K Q else K (a.put o.dst undef) w
theorem wpOpR_mono {ops : Array Oper} {i : Nat} {a : Act} {w : World} {K K' : Act → World → Prop} (h : ∀ a w, K a w → K' a w) (hh : wpOpR r P ops Q i K a w) : wpOpR r P ops Q i K' a w := by
 unfold wpOpR at *
 split at hh
 ·exact h _ _ hh
 ·split
  ·rename_i hw
   rw [if_pos hw] at hh
   exact Oper.wpIn_mono h hh
  ·rename_i hw
   rw [if_neg hw] at hh
   exact h _ _ hh
theorem wpOpR_in {ops : Array Oper} {i : Nat} {a : Act} {w : World} {K : Act → World → Prop} (hh : wpOpR r P ops Q i K a w) : wpOpIn (FW r) 0 P ops Q i K a w := by
 unfold wpOpR at hh
 unfold wpOpIn
 cases ho : ops[i]? with
 | none => rw [ho] at hh; exact hh
 | some o =>
   rw [ho] at hh
   simp only at hh ⊢
   split
   ·rename_i hw
    rw [if_pos hw] at hh
    exact hh
   ·rename_i hw
    rw [if_neg hw] at hh
    exact ⟨fun _ _ => trivial, hh⟩
def wpHeld (r : Option Nat) (P : Program) (ops : Array Oper) (Q : Exit → Act → World → Prop) (S : World → Prop) : Nat → Array Bool → Act → World → Prop
 | 0, listed, a, w => Region.ready .any ops listed = [] ∧ Q .normal a w
 | n + 1, listed, a, w => (Region.ready .any ops listed = [] → Q .normal a w) ∧
   ∀ i ∈ Region.ready .any ops listed, wpOpR r P ops Q i (fun a' w' => S w' ∧ wpHeld r P ops Q S n (listed.setIfInBounds i true) a' w') a w
theorem wpHeld_any {ops : Array Oper} {S : World → Prop} : ∀ (n : Nat) (listed : Array Bool) (a : Act) (w : World), wpHeld r P ops Q S n listed a w → wpAnyIn (FW r) 0 P .any ops Q n listed a w
 | 0, _, _, _, h => h
 | n + 1, _, _, _, h => ⟨h.1, fun i hi => wpOpR_in (wpOpR_mono (fun a' w' h' => wpHeld_any n _ a' w' h'.2) (h.2 i hi))⟩
theorem cwp_region_held {id : Nat} {ops : Array Oper} {S : World → Prop} {a : Act} {w : World} (hm : P.follows .mixedOrders = true) (h : wpHeld r P ops Q S ops.size (Array.replicate ops.size false) a w.drew) : Cwp r P (.region id ops true) Q a w :=
 wpIn_region_any hm (wpHeld_any _ _ _ _ h)
theorem wpHeld_done {ops : Array Oper} {S : World → Prop} {listed : Array Bool} {a : Act} {w : World} (hr : Region.ready .any ops listed = []) (h : Q .normal a w) : ∀ n, wpHeld r P ops Q S n listed a w
 | 0 => ⟨hr, h⟩
 | _ + 1 => ⟨fun _ => h, fun i hi => by rw [hr] at hi; cases hi⟩
theorem YieldsIf.opR {ops : Array Oper} {S : World → Prop} {i : Nat} {o : Oper} {v : Value} {a : Act} (hd : nodefB o.op = true) (hi : ops[i]? = some o) (hy : YieldsIf P ops S o v a) {K : Act → World → Prop} {w : World} (hS : S w) (h : K (a.put o.dst v) w) : wpOpR r P ops Q i K a w := by
 unfold wpOpR
 simp only [hi]
 rcases hy with ⟨hw, hv⟩ | ⟨hw, rfl⟩
 ·rw [if_pos hw]
  refine owp_of hd ?_
  unfold Oper.wp
  rw [hv w hS]
  exact h
 ·rw [if_neg (by rw [hw]; exact Bool.false_ne_true)]
  exact h
theorem wpOpR_put {ops : Array Oper} {S : World → Prop} {j : Nat} {oi oj : Oper} {v : Value} (hdj : nodefB oj.op = true) (hj : ops[j]? = some oj) (hap : oi.apart ops oj = true)
    (hsi : ∀ cs b, oi.op ≠ .select cs b) (hsj : ∀ cs b, oj.op ≠ .select cs b) (hQ : ∀ c a w, Q (.panic c) (a.put oi.dst v) w → Q (.panic c) a w) {K : Act → World → Prop} {a : Act} {w : World}
    (hy : YieldsIf P ops S oi v a) (h : wpOpR r P ops Q j K (a.put oi.dst v) w) : wpOpR r P ops Q j (fun a' w' => YieldsIf P ops S oi v a' ∧ K (a'.put oi.dst v) w') a w := by
 obtain ⟨h1, h2, h3⟩ := Oper.apart_spec hap
 have keep : ∀ u, YieldsIf P ops S oi v (a.put oj.dst u) := fun u => hy.of_same (execOp_put oi hsi a oj.dst u h3) (wanted_put oi a oj.dst u h3)
 have on : ∀ {u w'}, K ((a.put oi.dst v).put oj.dst u) w' → YieldsIf P ops S oi v (a.put oj.dst u) ∧ K ((a.put oj.dst u).put oi.dst v) w' := fun {u w'} hk => ⟨keep u, by rw [← Act.put_comm a v u h2]; exact hk⟩
 unfold wpOpR at *
 simp only [hj] at *
 rw [wanted_put oj a oi.dst v h1] at h
 split
 ·rename_i hw
  rw [if_pos hw] at h
  refine ⟨fun _ _ => trivial, ?_⟩
  have h := h.2
  rw [Oper.semAt_eq _ _ oj (nodefB_ne hdj)] at h ⊢
  rw [execOp_put oj hsj a oi.dst v h1] at h
  generalize (execOp a.eval oj).run P w = R at h ⊢
  cases R with
  | ok n w' =>
    cases n with
    | value u => exact on h
    | skip => exact on h
    | defer d =>
      refine ⟨?_, ?_⟩
      ·exact (show YieldsIf P ops S oi v { a with defers := d :: a.defers } from hy.of_same rfl rfl).of_same (execOp_put oi hsi _ oj.dst undef h3) (wanted_put oi _ oj.dst undef h3)
      ·rw [← Act.put_comm _ v undef h2, ← Act.put_defers]
       exact h
    | enter f args =>
      refine ⟨h.1, CallsIn.mono h.2 fun e w'' he => ?_⟩
      cases e with
      | returned u => exact on he
      | panicked c => exact hQ _ _ _ he
      | outgrown => exact he
    | row row args => exact ⟨h.1, RowsIn.mono h.2 fun u w'' he => on he⟩
    | round l f tmps assign body =>
      refine ⟨h.1, RoundIn.mono h.2 fun e w'' he => ?_⟩
      cases e with
      | returned u => exact on he
      | panicked c => exact hQ _ _ _ he
      | outgrown => exact he
    | _ => exact h.elim
  | halt x w' =>
    cases x with
    | panic u => exact hQ _ _ _ h
    | _ => exact h.elim
 ·rename_i hw
  rw [if_neg hw] at h
  exact on h
def nodefs (ops : Array Oper) : Bool := ops.all fun o => nodefB o.op
theorem nodefs_at {ops : Array Oper} (h : nodefs ops = true) {i : Nat} {o : Oper} (hi : ops[i]? = some o) : nodefB o.op = true :=
 Array.all_eq_true_iff_forall_mem.1 h o (Array.mem_of_getElem? hi)
theorem wpHeld_first {ops : Array Oper} {S : World → Prop} (hnd : nodefs ops = true) {i : Nat} {oi : Oper} {v : Value} (hi : ops[i]? = some oi) (hsel : ∀ (j : Nat) (o : Oper) cs b, ops[j]? = some o → o.op ≠ .select cs b)
    (hQ : ∀ c a w, Q (.panic c) (a.put oi.dst v) w → Q (.panic c) a w) :
    ∀ (n : Nat) (listed : Array Bool) (a : Act) (w : World),
      (∀ j oj, ops[j]? = some oj → j ≠ i → listed.getD j true = false → (∀ e ∈ oj.after, Region.binds .any e = true → e.on ≠ i) → oi.apart ops oj = true) →
      i ∈ Region.ready .any ops listed → YieldsIf P ops S oi v a → S w → wpHeld r P ops Q S n (listed.setIfInBounds i true) (a.put oi.dst v) w → wpHeld r P ops Q S (n + 1) listed a w := by
 intro n
 induction n with
 | zero =>
   intro listed a w _ hr hy hS H
   refine ⟨fun h => absurd (h ▸ hr) (by simp), fun j hj => ?_⟩
   by_cases hji : j = i
   ·rw [hji]
    exact YieldsIf.opR (nodefs_at hnd hi) hi hy hS ⟨hS, H⟩
   ·have := ready_mono hj hji
    rw [H.1] at this
    cases this
 | succ n ih =>
   intro listed a w hfree hr hy hS H
   refine ⟨fun h => absurd (h ▸ hr) (by simp), fun j hj => ?_⟩
   by_cases hji : j = i
   ·rw [hji]
    exact YieldsIf.opR (nodefs_at hnd hi) hi hy hS ⟨hS, H⟩
   ·have h1 := H.2 j (ready_mono hj hji)
    obtain ⟨hjun, oj, hoj, hall⟩ := mem_ready.1 hj
    have hnot : ∀ e ∈ oj.after, Region.binds .any e = true → e.on ≠ i := fun e he hb heq => by
     have a1 := hall e he hb
     have a0 := (mem_ready.1 hr).1
     rw [heq, Array.getD_eq_getD_getElem?] at a1
     rw [Array.getD_eq_getD_getElem?] at a0
     cases hx : listed[i]? with
     | none => rw [hx] at a0; cases a0
     | some b =>
       rw [hx] at a0 a1
       rw [show b = false from a0] at a1
       cases a1
    have h2 := wpOpR_put (nodefs_at hnd hoj) hoj (hfree j oj hoj hji hjun hnot) (fun cs b => hsel i oi cs b hi) (fun cs b => hsel j oj cs b hoj) hQ hy h1
    refine wpOpR_mono (fun a' w' h3 => ⟨h3.2.1, ih (listed.setIfInBounds j true) a' w' (fun k ok hk hki hun hno => hfree k ok hk hki ?_ hno) (ready_mono hr (Ne.symm hji)) h3.1 h3.2.1 ?_⟩) h2
    ·by_cases hjk : j = k
     ·rw [← hjk]; exact hjun
     ·rw [getD_set_ne true hjk] at hun; exact hun
    ·rw [Array.setIfInBounds_comm _ _ hji]
     exact h3.2.2
def LoopR (r : Option Nat) (P : Program) (c : Code) (Q : Exit → Act → World → Prop) (a : Act) (w : World) : Prop :=
 ∀ X : Act → World → Prop, (∀ a w, Cwp r P c (Exit.then X Q) a w → X a w) → X a w
theorem LoopR.round {c : Code} {a : Act} {w : World} (h : Cwp r P c (Exit.then (LoopR r P c Q) Q) a w) : LoopR r P c Q a w := by
 intro X hX
 refine hX _ _ (wpIn_mono h ?_)
 intro e a' w' hq
 cases e with
 | normal => exact hq X hX
 | _ => exact hq
theorem cwp_loop_least {c : Code} {a : Act} {w : World} (h : LoopR r P c Q a w) : Cwp r P (.loop c) Q a w := by
 intro b k cs hro hb hr
 have fc := fun (a : Act) (t : Item) (k : List Item) (w : World) (hx : (b.atR a (t :: k)).about P w = none) => fenced_calm (fr := b.atR a (t :: k)) (P := P) (w := w) hb hr hx
 obtain ⟨e, a', w', hq, harr⟩ := h (fun a w => ∃ e a' w', Q e a' w' ∧ ArrivesIn (Machine.fenced P (FW r)) P (lone (b.atR a (.code c :: .inLoop c :: k)) cs w) b k cs e a' w') (by
  intro a w hc
  obtain ⟨e, a1, w1, hq, harr⟩ := hc b (.inLoop c :: k) cs hro hb hr
  cases e with
  | normal =>
    obtain ⟨e2, a2, w2, hq2, harr2⟩ := hq
    exact ⟨e2, a2, w2, hq2, .of_steps (StepsIn.trans harr (.one (fc _ _ _ _ rfl) stepR_inLoop)) harr2⟩
  | exit id => exact ⟨_, a1, w1, hq, .pass (x := .inLoop c) rfl (fun _ _ => .inl (by simp)) harr⟩
  | goto l => exact ⟨_, a1, w1, hq, .pass (x := .inLoop c) rfl (fun _ _ => .inl (by simp)) harr⟩
  | ret => exact ⟨_, a1, w1, hq, .pass (x := .inLoop c) rfl (fun _ _ => .inl (by simp)) harr⟩
  | panic ch => exact ⟨_, a1, w1, hq, .pass (x := .inLoop c) rfl (fun _ _ => .inl (by simp)) harr⟩
  | outgrown => exact ⟨_, a1, w1, hq, .pass (x := .inLoop c) rfl (fun _ _ => .inl (by simp)) harr⟩)
 exact ⟨e, a', w', hq, .of_steps (.one (fc _ _ _ _ rfl) stepR_loop) harr⟩
theorem stepR_scope {b : Frame} {a : Act} {k : List Item} {cs : List Frame} {w : World} {c : Code} : step P (lone (b.atR a (.code (.scope c) :: k)) cs w) = .next (lone (b.atR a (.code c :: .inScope c :: k)) cs w) :=
 step_lone_go (by simp [stepG, stepG.exec, Frame.atR])
theorem stepR_inScope {b : Frame} {a : Act} {k : List Item} {cs : List Frame} {w : World} {c : Code} : step P (lone (b.atR a (.inScope c :: k)) cs w) = .next (lone (b.atR a k) cs w) :=
 step_lone_go (by simp [stepG, stepG.exec, Frame.atR])
theorem cwp_scope {c : Code} {a : Act} {w : World} (h : Cwp r P c (Exit.noGoto Q) a w) : Cwp r P (.scope c) Q a w := by
 intro b k cs hro hb hr
 have fc := fun (a : Act) (t : Item) (k : List Item) (w : World) (hx : (b.atR a (t :: k)).about P w = none) => fenced_calm (fr := b.atR a (t :: k)) (P := P) (w := w) hb hr hx
 obtain ⟨e, a1, w1, hq, harr⟩ := h b (.inScope c :: k) cs hro hb hr
 refine ⟨e, a1, w1, ?_, ?_⟩
 ·cases e with
  | goto l => exact hq.elim
  | _ => exact hq
 ·refine .of_steps (.one (fc _ _ _ _ rfl) stepR_scope) ?_
  cases e with
  | normal => exact StepsIn.trans harr (.one (fc _ _ _ _ rfl) stepR_inScope)
  | goto l => exact hq.elim
  | exit id => exact ⟨fun k' hk => harr.1 k' (by simpa [exitTo] using hk), fun hr hk => harr.2 hr (by simpa [exitTo] using hk)⟩
  | ret => exact harr
  | panic ch => exact harr
  | outgrown => exact harr
end fw
end Go.Proofs.Ytkeefgiajogkkaa.V
