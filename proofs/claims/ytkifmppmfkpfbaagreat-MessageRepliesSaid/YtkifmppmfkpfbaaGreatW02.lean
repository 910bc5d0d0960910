import Derived.Test.YtkifmppmfkpfbaaGreatW01
import Derived.Laws.StructEq
import Derived.OrdersHeld
import Derived.Scope
set_option linter.unusedVariables false
set_option linter.unusedSimpArgs false
namespace Go.Proofs.YtkifmppmfkpfbaaGreat.V
open Go.RowKit
section
theorem tf {b : Bool} (h : b = true) (h' : b = false) : False := by rw [h] at h'; cases h'
def nBeq (a b : Nat) : Bool := a == b
def nBlt (a b : Nat) : Bool := decide (a < b)
def nBle (a b : Nat) : Bool := decide (a ≤ b)
theorem nBeq_eq {a b : Nat} (h : nBeq a b = true) : a = b := by simpa [nBeq] using h
@[simp] theorem nBeq_self (a : Nat) : nBeq a a = true := by simp [nBeq]
theorem nBle_le {a b : Nat} (h : nBle a b = true) : a ≤ b := by simpa [nBle] using h
theorem nBle_of_le {a b : Nat} (h : a ≤ b) : nBle a b = true := by simpa [nBle] using h
theorem nBlt_iff {a b : Nat} : (nBlt a b = true) = (a < b) := by simp [nBlt]
inductive IE where
 | c (n : Int)
 | x (n : Int)
 | t (f : Unit → Int)
 | ar (o : BinOp) (k : IntKind) (a b : IE)
 | bt (o : BinOp) (k : IntKind) (a b : IE)
 | dv (o : BinOp) (k : IntKind) (a b : IE)
 | sh (o : BinOp) (k : IntKind) (a b : IE)
 | cv (k : IntKind) (a : IE)
 | mx (a b : IE)
 | mn (a b : IE)
 | sel (l : List Int) (i : IE)
def selI (l : List Int) (i : Int) : Int := l.getD i.toNat 0
def arI (o : BinOp) (k : IntKind) (a b : Int) : Int :=
 match o with
 | .add => k.wrap (a + b)
 | .sub => k.wrap (a - b)
 | _ => k.wrap (a * b)
def dvI (o : BinOp) (k : IntKind) (a b : Int) : Int :=
 match o with
 | .quo => k.wrap (a.tdiv b)
 | _ => a.tmod b
def shI (o : BinOp) (k : IntKind) (a b : Int) : Int :=
 match o with
 | .shl => k.wrap (a * 2 ^ (min b.toNat k.bits))
 | _ => a.fdiv (2 ^ (min b.toNat k.bits))
def IE.den : IE → Int
 | .c n => n
 | .x n => n
 | .t f => f ()
 | .ar o k a b => arI o k a.den b.den
 | .bt o k a b => bits o k a.den b.den
 | .dv o k a b => dvI o k a.den b.den
 | .sh o k a b => shI o k a.den b.den
 | .cv k a => k.wrap a.den
 | .mx a b => if b.den > a.den then b.den else a.den
 | .mn a b => if b.den < a.den then b.den else a.den
 | .sel l i => selI l i.den
attribute [irreducible] IE.den
theorem den_c (n : Int) : (IE.c n).den = n := by simp only [IE.den]
theorem den_x (n : Int) : (IE.x n).den = n := by simp only [IE.den]
theorem den_t (f : Unit → Int) : (IE.t f).den = f () := by simp only [IE.den]
theorem den_ar (o : BinOp) (k : IntKind) (a b : IE) : (IE.ar o k a b).den = arI o k a.den b.den := by simp only [IE.den]
theorem den_bt (o : BinOp) (k : IntKind) (a b : IE) : (IE.bt o k a b).den = bits o k a.den b.den := by simp only [IE.den]
theorem den_dv (o : BinOp) (k : IntKind) (a b : IE) : (IE.dv o k a b).den = dvI o k a.den b.den := by simp only [IE.den]
theorem den_sh (o : BinOp) (k : IntKind) (a b : IE) : (IE.sh o k a b).den = shI o k a.den b.den := by simp only [IE.den]
theorem den_cv (k : IntKind) (a : IE) : (IE.cv k a).den = k.wrap a.den := by simp only [IE.den]
theorem den_mx (a b : IE) : (IE.mx a b).den = if b.den > a.den then b.den else a.den := by simp only [IE.den]
theorem den_mn (a b : IE) : (IE.mn a b).den = if b.den < a.den then b.den else a.den := by simp only [IE.den]
theorem den_sel (l : List Int) (i : IE) : (IE.sel l i).den = selI l i.den := by simp only [IE.den]
def IE.mkAr (o : BinOp) (k : IntKind) : IE → IE → IE
 | .c a, .c b => .c (arI o k a b)
 | a, b => .ar o k a b
def IE.mkCv (k : IntKind) : IE → IE
 | .c a => .c (k.wrap a)
 | a => .cv k a
def IE.mkBt (o : BinOp) (k : IntKind) : IE → IE → IE
 | .c a, .c b => .c (bits o k a b)
 | a, b => .bt o k a b
def IE.mkSh (o : BinOp) (k : IntKind) : IE → IE → IE
 | .c a, .c b => .c (shI o k a b)
 | a, b => .sh o k a b
def IE.mkDv (o : BinOp) (k : IntKind) : IE → IE → IE
 | .c a, .c b => .c (dvI o k a b)
 | a, b => .dv o k a b
theorem den_mkDv (o : BinOp) (k : IntKind) (a b : IE) : (IE.mkDv o k a b).den = dvI o k a.den b.den := by
 cases a <;> cases b <;> simp only [IE.mkDv, den_c, den_dv]
theorem den_mkAr (o : BinOp) (k : IntKind) (a b : IE) : (IE.mkAr o k a b).den = arI o k a.den b.den := by
 cases a <;> cases b <;> simp only [IE.mkAr, den_c, den_ar]
theorem den_mkCv (k : IntKind) (a : IE) : (IE.mkCv k a).den = k.wrap a.den := by
 cases a <;> simp only [IE.mkCv, den_c, den_cv]
theorem den_mkBt (o : BinOp) (k : IntKind) (a b : IE) : (IE.mkBt o k a b).den = bits o k a.den b.den := by
 cases a <;> cases b <;> simp only [IE.mkBt, den_c, den_bt]
theorem den_mkSh (o : BinOp) (k : IntKind) (a b : IE) : (IE.mkSh o k a b).den = shI o k a.den b.den := by
 cases a <;> cases b <;> simp only [IE.mkSh, den_c, den_sh]
inductive BE where
 | c (b : Bool)
 | x (b : Bool)
 | t (f : Unit → Bool)
 | cmp (o : BinOp) (a b : IE)
 | not (a : BE)
 | and (a b : BE)
 | eqb (a b : BE)
def cmpI (o : BinOp) (a b : Int) : Bool :=
 match o with
 | .eql => a == b
 | .neq => a != b
 | .lss => a < b
 | .leq => a ≤ b
 | .gtr => a > b
 | _ => a ≥ b
def BE.den : BE → Bool
 | .c b => b
 | .x b => b
 | .t f => f ()
 | .cmp o a b => cmpI o a.den b.den
 | .not a => !a.den
 | .and a b => a.den && b.den
 | .eqb a b => a.den == b.den
attribute [irreducible] BE.den
theorem bden_c (b : Bool) : (BE.c b).den = b := by simp only [BE.den]
theorem bden_x (b : Bool) : (BE.x b).den = b := by simp only [BE.den]
theorem bden_t (f : Unit → Bool) : (BE.t f).den = f () := by simp only [BE.den]
theorem bden_cmp (o : BinOp) (a b : IE) : (BE.cmp o a b).den = cmpI o a.den b.den := by simp only [BE.den]
theorem bden_not (a : BE) : (BE.not a).den = !a.den := by simp only [BE.den]
theorem bden_and (a b : BE) : (BE.and a b).den = (a.den && b.den) := by simp only [BE.den]
theorem bden_eqb (a b : BE) : (BE.eqb a b).den = (a.den == b.den) := by simp only [BE.den]
def BE.mkCmp (o : BinOp) : IE → IE → BE
 | .c a, .c b => .c (cmpI o a b)
 | a, b => .cmp o a b
def BE.mkNot : BE → BE
 | .c b => .c (!b)
 | .not a => a
 | a => .not a
def BE.mkAnd : BE → BE → BE
 | .c true, b => b
 | .c false, _ => .c false
 | a, .c true => a
 | a, b => .and a b
theorem den_mkCmp (o : BinOp) (a b : IE) : (BE.mkCmp o a b).den = cmpI o a.den b.den := by
 cases a <;> cases b <;> simp only [BE.mkCmp, den_c, bden_c, bden_cmp]
theorem den_mkNot (a : BE) : (BE.mkNot a).den = !a.den := by
 cases a <;> simp [BE.mkNot, bden_c, bden_not]
def BE.mkEqb : BE → BE → BE
 | .c a, .c b => .c (match a, b with | true, true => true | false, false => true | _, _ => false)
 | .c true, b => b
 | a, .c true => a
 | a, b => .eqb a b
theorem den_mkEqb (a b : BE) : (BE.mkEqb a b).den = (a.den == b.den) := by
 unfold BE.mkEqb
 split
 ·rename_i a b
  cases a <;> cases b <;> simp [bden_c]
 all_goals simp [bden_c, bden_eqb]
theorem den_mkAnd (a b : BE) : (BE.mkAnd a b).den = (a.den && b.den) := by
 unfold BE.mkAnd
 split <;> simp [bden_c, bden_and]
structure Nm where
 b : Nat → Nat
 s : Nat → Sl
 z : Nat → Nat → Prop
inductive SV where
 | int (k : IntKind) (e : IE)
 | bool (b : BE)
 | str (f : Unit → ByteArray)
 | ptr (b o : Nat)
 | osl (b o n cap : Nat)
 | ep (b o s n : Nat) (i : IE)
 | fv (id : Nat)
 | fp (id : Nat) (i : IE) (s o : Nat)
 | val (v : Value)
 | agg (cs : List SV)
 | tup (cs : List SV)
 | fnv (f : FuncId) (cs : List SV)
 | fbv (f : FuncId) (cs : List SV)
 | mp (id : Nat)
def Sl.at (s : Sl) (o : Nat) : Option Addr :=
 match s.a with
 | some ⟨b, off, none⟩ => some ⟨b, off + o, none⟩
 | _ => none
mutual
def SV.den (ρ : Nm) : SV → Value
 | .int k e => .int k e.den
 | .bool b => .bool b.den
 | .str f => .string (f ())
 | .ptr b o => .pointer (some ⟨ρ.b b, o, none⟩)
 | .osl b o n cap => .slice (some ⟨ρ.b b, o, none⟩) n cap
 | .ep b o s _ i => .pointer (some ⟨ρ.b b, o + i.den.toNat * s, none⟩)
 | .fv id => (ρ.s id).val
 | .fp id i s o => .pointer ((ρ.s id).at (i.den.toNat * s + o))
 | .val v => v
 | .agg cs => .agg (SV.dens ρ cs).toArray
 | .tup cs => .tuple (SV.dens ρ cs).toArray
 | .fnv f cs => .func (.func f) #[] (SV.dens ρ cs).toArray
 | .fbv f cs => .func (.func f) (SV.dens ρ cs).toArray #[]
 | .mp id => .map (some (ρ.b id))
def SV.dens (ρ : Nm) : List SV → List Value
 | [] => []
 | c :: cs => c.den ρ :: SV.dens ρ cs
end
theorem dens_map (ρ : Nm) (l : List SV) : SV.dens ρ l = l.map (SV.den ρ) := by
 induction l with
 | nil => rfl
 | cons c l ih => simp only [SV.dens, List.map_cons, ih]
inductive Sh where
 | bool | int (k : IntKind) | string
 | slice (e : TypeId)
 | array (n : Nat) (e : TypeId)
 | struct (fs : List (Nat × TypeId))
 | pointer (e : TypeId)
 | map (k e : TypeId)
 | other
def Sh.of : TypeDesc → Sh
 | .bool => .bool
 | .int k => .int k
 | .string => .string
 | .slice e => .slice e
 | .array n e => .array n e
 | .struct fs => .struct (fs.toList.map fun f => (f.offset, f.type))
 | .pointer e => .pointer e
 | .map k e => .map k e
 | _ => .other
structure TI where
 sh : Sh
 size : Nat
 zero : List SV
def Sh.agg : Sh → Bool
 | .struct _ => true
 | .array _ _ => true
 | _ => false
def isAggV : Value → Bool
 | .agg _ => true
 | _ => false
structure TIOk (P : Program) (t : TypeId) (i : TI) : Prop where
 sh : (P.underlying t).map Sh.of = some i.sh
 size : (P.info? t).map (·.size) = some i.size
 zero : ∀ ρ, (P.info? t).bind (fun j => j.zero.map fun z => z.cells.toList) = some (SV.dens ρ i.zero)
 zk : (P.info? t).bind (fun j => j.zero.map isAggV) = some i.sh.agg
abbrev TT := TypeId → Option TI
def TT.ok (P : Program) (T : TT) : Prop := ∀ t i, T t = some i → TIOk P t i
def TT.look (T : TT) (t : TypeId) : Option TI := T t
theorem TT.look_ok {P : Program} {T : TT} {t : TypeId} {i : TI} (ho : TT.ok P T) (h : TT.look T t = some i) : TIOk P t i := ho t i h
def lf0 {α : Type} (k : Nat) (i : α) (t : Nat) : Option α := (match nBeq t k with | true => some i | false => none)
def no {α : Type} (_ : Nat) : Option α := none
def nd {α : Type 1} (k : Nat) (a b : Nat → Option α) (t : Nat) : Option α := (match nBlt t k with | true => a t | false => b t)
def nd0 {α : Type} (k : Nat) (a b : Nat → Option α) (t : Nat) : Option α := (match nBlt t k with | true => a t | false => b t)
theorem lf0_ok {α : Type} {Q : Nat → α → Prop} {k : Nat} {i : α} (h : Q k i) : ∀ t j, lf0 k i t = some j → Q t j := by
 intro t j e
 unfold lf0 at e
 cases hb : nBeq t k <;> rw [hb] at e
 ·cases e
 ·cases e
  rw [nBeq_eq hb]
  exact h
theorem nd0_ok {α : Type} {Q : Nat → α → Prop} {k : Nat} {a b : Nat → Option α} (ha : ∀ t j, a t = some j → Q t j) (hb : ∀ t j, b t = some j → Q t j) : ∀ t j, nd0 k a b t = some j → Q t j := by
 intro t j e
 unfold nd0 at e
 cases hq : nBlt t k <;> rw [hq] at e
 ·exact hb t j e
 ·exact ha t j e
structure Ent where
 id : Nat
 ty : TypeId
 cells : List SV
inductive Fr where
 | e
 | nd (v : SV) (l r : Fr)
def Fr.get : Fr → Nat → SV
 | .e, _ => .val undef
 | .nd v l r, k => (match nBeq k 0 with | true => v | false => (match nBeq (k % 2) 1 with | true => l.get (k / 2) | false => r.get (k / 2 - 1)))
def Fr.set (v : SV) : Nat → Fr → Nat → Fr
 | 0, f, _ => f
 | n + 1, f, k => match f with
   | .e => (match nBeq k 0 with | true => .nd v .e .e | false => (match nBeq (k % 2) 1 with | true => .nd (.val undef) (Fr.set v n .e (k / 2)) .e | false => .nd (.val undef) .e (Fr.set v n .e (k / 2 - 1))))
   | .nd u l r => (match nBeq k 0 with | true => .nd v l r | false => (match nBeq (k % 2) 1 with | true => .nd u (Fr.set v n l (k / 2)) r | false => .nd u l (Fr.set v n r (k / 2 - 1))))
theorem beq_false' {a b : Nat} (h : a ≠ b) : nBeq a b = false := by
 cases hb : nBeq a b
 ·rfl
 ·exact absurd (nBeq_eq hb) h
theorem beq_true' {a b : Nat} (h : a = b) : nBeq a b = true := by subst h; simp
theorem Fr.get_e (k : Nat) : Fr.e.get k = .val undef := rfl
theorem Fr.get_set (v : SV) : ∀ (n : Nat) (f : Fr) (k j : Nat), k + 2 ≤ 2 ^ n → (Fr.set v n f k).get j = if j = k then v else f.get j
 | 0, f, k, j, h => by simp at h
 | n + 1, f, k, j, h => by
   have hp : 2 ^ (n + 1) = 2 * 2 ^ n := by rw [Nat.pow_succ]; omega
   by_cases hk : k = 0
   ·subst hk
    cases f with
    | e =>
      simp only [Fr.set, beq_true' rfl]
      by_cases hj : j = 0
      ·simp [Fr.get, hj]
      ·simp only [Fr.get, beq_false' hj, if_neg hj]
       cases nBeq (j % 2) 1 <;> rfl
    | nd u l r =>
      simp only [Fr.set, beq_true' rfl]
      by_cases hj : j = 0
      ·simp [Fr.get, hj]
      ·simp only [Fr.get, beq_false' hj, if_neg hj]
   ·by_cases ho : k % 2 = 1
    ·have ih := fun f j => Fr.get_set v n f (k / 2) j (by omega)
     cases f with
     | e =>
       simp only [Fr.set, beq_false' hk, beq_true' ho]
       by_cases hj : j = 0
       ·subst hj; simp [Fr.get, Ne.symm hk]
       ·by_cases hjo : j % 2 = 1
        ·simp only [Fr.get, beq_false' hj, beq_true' hjo, ih, Fr.get_e]
         by_cases hjk : j = k
         ·simp [hjk]
         ·rw [if_neg hjk, if_neg (by omega)]
        ·simp only [Fr.get, beq_false' hj, beq_false' hjo, Fr.get_e]
         rw [if_neg (by omega)]
     | nd u l r =>
       simp only [Fr.set, beq_false' hk, beq_true' ho]
       by_cases hj : j = 0
       ·subst hj; simp [Fr.get, Ne.symm hk]
       ·by_cases hjo : j % 2 = 1
        ·simp only [Fr.get, beq_false' hj, beq_true' hjo, ih]
         by_cases hjk : j = k
         ·simp [hjk]
         ·rw [if_neg hjk, if_neg (by omega)]
        ·simp only [Fr.get, beq_false' hj, beq_false' hjo]
         rw [if_neg (by omega)]
    ·have ih := fun f j => Fr.get_set v n f (k / 2 - 1) j (by omega)
     cases f with
     | e =>
       simp only [Fr.set, beq_false' hk, beq_false' ho]
       by_cases hj : j = 0
       ·subst hj; simp [Fr.get, Ne.symm hk]
       ·by_cases hjo : j % 2 = 1
        ·simp only [Fr.get, beq_false' hj, beq_true' hjo, Fr.get_e]
         rw [if_neg (by omega)]
        ·simp only [Fr.get, beq_false' hj, beq_false' hjo, ih, Fr.get_e]
         by_cases hjk : j = k
         ·simp [hjk]
         ·rw [if_neg hjk, if_neg (by omega)]
     | nd u l r =>
       simp only [Fr.set, beq_false' hk, beq_false' ho]
       by_cases hj : j = 0
       ·subst hj; simp [Fr.get, Ne.symm hk]
       ·by_cases hjo : j % 2 = 1
        ·simp only [Fr.get, beq_false' hj, beq_true' hjo]
         rw [if_neg (by omega)]
        ·simp only [Fr.get, beq_false' hj, beq_false' hjo, ih]
         by_cases hjk : j = k
         ·simp [hjk]
         ·rw [if_neg hjk, if_neg (by omega)]
inductive CK where
 | cd (T : TypeId)
 | ob (o : Obj)
 | mp (ke ve : Shp) (x : Unit → List (Shp.D (.st [ke, ve])))
 | hl (e : Shp) (x : Unit → List e.D) (i : IE) (o l : Nat) (T : Option Nat)
inductive Ct where
 | dead
 | rows (e : Shp) (x : Unit → List e.D)
 | codes (T : CK)
def noN (n : Nat) : Ct → Bool
 | .codes (.hl _ _ _ _ l T) => !nBeq l n && (match T with
   | none => true
   | some t => !nBeq t n)
 | _ => true
theorem noN_of {n : Nat} {c : Ct} (h : ∀ T, c ≠ .codes T) : noN n c = true := by
 cases c with
 | codes T => exact absurd rfl (h T)
 | _ => rfl
structure FE where
 id : Nat
 own : Bool
 t : TypeId
 al : List Nat
 c : Ct
structure St where
 fr : Fr
 n : Nat
 heap : List Ent
 ents : List FE
 next : Nat
def St.put (s : St) : Option Nat → SV → St
 | some d, v => (match nBlt d s.n with | true => ⟨Fr.set v 12 s.fr d, s.n, s.heap, s.ents, s.next⟩ | false => s)
 | none, _ => s
def litV : Value → SV
 | .int k n => .int k (.c n)
 | .bool b => .bool (.c b)
 | v => .val v
def St.ev (s : St) : Operand → SV
 | .tmp t => (match nBlt t s.n with | true => s.fr.get t | false => .val undef)
 | .const v => litV v
 | .global g => .val (.pointer (some ⟨g, 0, none⟩))
 | .func f => .val (.func (.func f) #[] #[])
def insE (e : Ent) : List Ent → List Ent
 | [] => [e]
 | x :: l => (match nBlt x.id e.id with | true => e :: x :: l | false => x :: insE e l)
def cellsE : List Ent → Nat → Option (List SV)
 | [], _ => none
 | x :: l, b => (match nBeq x.id b with | true => some x.cells | false => cellsE l b)
def setE : List Ent → Nat → List SV → List Ent
 | [], _, _ => []
 | x :: l, b, cs => (match nBeq x.id b with | true => ⟨x.id, x.ty, cs⟩ :: l | false => x :: setE l b cs)
def freshE (n : Nat) : List Ent → Bool
 | [] => true
 | x :: l => !nBeq x.id n && freshE n l
theorem ne_of_beq {b n : Nat} (h : (!nBeq b n) = true) : b ≠ n := by
 intro e
 subst e
 simp at h
def setL {α : Type} : List α → Nat → α → List α
 | [], _, _ => []
 | _ :: l, 0, x => x :: l
 | y :: l, n + 1, x => y :: setL l n x
theorem setL_set {α : Type} (l : List α) (n : Nat) (x : α) : setL l n x = l.set n x := by
 induction l generalizing n with
 | nil => rfl
 | cons y l ih => cases n <;> simp [setL, ih]
section lists
theorem dens_length (ρ : Nm) (l : List SV) : (SV.dens ρ l).length = l.length := by simp [dens_map]
theorem dens_append (ρ : Nm) (l m : List SV) : SV.dens ρ (l ++ m) = SV.dens ρ l ++ SV.dens ρ m := by simp [dens_map]
theorem dens_take (ρ : Nm) (l : List SV) (n : Nat) : SV.dens ρ (l.take n) = (SV.dens ρ l).take n := by simp [dens_map]
theorem dens_drop (ρ : Nm) (l : List SV) (n : Nat) : SV.dens ρ (l.drop n) = (SV.dens ρ l).drop n := by simp [dens_map]
theorem dens_getElem? (ρ : Nm) (l : List SV) (n : Nat) : (SV.dens ρ l)[n]? = (l[n]?).map (SV.den ρ) := by simp [dens_map]
theorem dens_set (ρ : Nm) (l : List SV) (n : Nat) (v : SV) : SV.dens ρ (l.set n v) = (SV.dens ρ l).set n (v.den ρ) := by simp [dens_map, List.map_set]
end lists
theorem litV_den (ρ : Nm) (v : Value) : (litV v).den ρ = v := by
 unfold litV
 split <;> simp only [SV.den, den_c, bden_c]
theorem mem_insE {e x : Ent} : ∀ {l : List Ent}, x ∈ insE e l → x = e ∨ x ∈ l
 | [], h => by simp [insE] at h; exact .inl h
 | y :: l, h => by
   simp only [insE] at h
   cases hb : nBlt y.id e.id <;> rw [hb] at h
   ·rcases List.mem_cons.1 h with h | h
    ·exact .inr (h ▸ List.mem_cons_self)
    ·exact (mem_insE h).imp id fun h => List.mem_cons_of_mem _ h
   ·rcases List.mem_cons.1 h with h | h
    ·exact .inl h
    ·exact .inr h
theorem freshE_mem {n : Nat} : ∀ {l : List Ent}, freshE n l = true → ∀ e ∈ l, e.id ≠ n
 | [], _, _, he => by cases he
 | x :: l, h, e, he => by
   simp only [freshE, Bool.and_eq_true] at h
   rcases List.mem_cons.1 he with rfl | he
   ·exact ne_of_beq h.1
   ·exact freshE_mem h.2 e he
theorem mem_cellsE : ∀ {l : List Ent} {b : Nat} {cs : List SV}, cellsE l b = some cs → ∃ e ∈ l, e.id = b ∧ e.cells = cs
 | [], _, _, h => by cases h
 | x :: l, b, cs, h => by
   simp only [cellsE] at h
   cases hb : nBeq x.id b <;> rw [hb] at h
   ·obtain ⟨e, he, h1, h2⟩ := mem_cellsE h
    exact ⟨e, List.mem_cons_of_mem _ he, h1, h2⟩
   ·cases h
    exact ⟨x, List.mem_cons_self, nBeq_eq hb, rfl⟩
theorem mem_setE {b : Nat} {cs : List SV} : ∀ {l : List Ent} {x : Ent}, x ∈ setE l b cs → x ∈ l ∨ ∃ e ∈ l, e.id = b ∧ x = ⟨e.id, e.ty, cs⟩
 | [], x, h => by cases h
 | y :: l, x, h => by
   simp only [setE] at h
   cases hb : nBeq y.id b <;> rw [hb] at h
   ·rcases List.mem_cons.1 h with h | h
    ·exact .inl (h ▸ List.mem_cons_self)
    ·rcases mem_setE h with h | ⟨e, he, h1, h2⟩
     ·exact .inl (List.mem_cons_of_mem _ h)
     ·exact .inr ⟨e, List.mem_cons_of_mem _ he, h1, h2⟩
   ·rcases List.mem_cons.1 h with h | h
    ·exact .inr ⟨y, List.mem_cons_self, nBeq_eq hb, h⟩
    ·exact .inl (List.mem_cons_of_mem _ h)
def onceE : List Ent → Bool
 | [] => true
 | x :: l => (l.all fun y => !nBeq y.id x.id) && onceE l
theorem onceE_eq : ∀ {l : List Ent}, onceE l = true → ∀ x ∈ l, ∀ y ∈ l, x.id = y.id → x = y
 | [], _, x, hx => by cases hx
 | z :: l, h, x, hx => fun y hy e => by
   simp only [onceE, Bool.and_eq_true, List.all_eq_true] at h
   rcases List.mem_cons.1 hx with h1 | h1 <;> rcases List.mem_cons.1 hy with h2 | h2
   ·rw [h1, h2]
   ·subst h1; exact absurd e.symm (ne_of_beq (h.1 y h2))
   ·subst h2; exact absurd e (ne_of_beq (h.1 x h1))
   ·exact onceE_eq h.2 x h1 y h2 e
theorem mem_setE_once {b : Nat} {cs : List SV} : ∀ {l : List Ent}, onceE l = true → ∀ x ∈ setE l b cs, (x ∈ l ∧ x.id ≠ b) ∨ ∃ e ∈ l, e.id = b ∧ x = ⟨e.id, e.ty, cs⟩
 | [], _, x, hx => by cases hx
 | y :: l, h, x, hx => by
   simp only [onceE, Bool.and_eq_true, List.all_eq_true] at h
   simp only [setE] at hx
   cases hb : nBeq y.id b <;> rw [hb] at hx
   ·rcases List.mem_cons.1 hx with hx | hx
    ·subst hx
     refine .inl ⟨List.mem_cons_self, fun e => ?_⟩
     rw [e] at hb
     simp at hb
    ·rcases mem_setE_once h.2 x hx with ⟨h1, h2⟩ | ⟨e, he, h1, h2⟩
     ·exact .inl ⟨List.mem_cons_of_mem _ h1, h2⟩
     ·exact .inr ⟨e, List.mem_cons_of_mem _ he, h1, h2⟩
   ·rcases List.mem_cons.1 hx with hx | hx
    ·exact .inr ⟨y, List.mem_cons_self, nBeq_eq hb, hx⟩
    ·have hyb := nBeq_eq hb
     have hne := ne_of_beq (h.1 x hx)
     exact .inl ⟨List.mem_cons_of_mem _ hx, fun e => hne (e.trans hyb.symm)⟩
theorem insE_mem {e x : Ent} : ∀ {l : List Ent}, x ∈ l → x ∈ insE e l
 | [], h => by cases h
 | y :: l, h => by
   simp only [insE]
   cases hb : nBlt y.id e.id
   ·rcases List.mem_cons.1 h with rfl | h
    ·exact List.mem_cons_self
    ·exact List.mem_cons_of_mem _ (insE_mem h)
   ·exact List.mem_cons_of_mem _ h
theorem insE_self {e : Ent} : ∀ {l : List Ent}, e ∈ insE e l
 | [] => by simp [insE]
 | y :: l => by
   simp only [insE]
   cases hb : nBlt y.id e.id
   ·exact List.mem_cons_of_mem _ insE_self
   ·exact List.mem_cons_self
section runs
variable {P : Program} {t : TypeId} {i : TI}
theorem TIOk.under (h : TIOk P t i) : ∃ d, P.underlying t = some d ∧ Sh.of d = i.sh := by
 have := h.sh
 cases hu : P.underlying t with
 | none => rw [hu] at this; cases this
 | some d => rw [hu] at this; exact ⟨d, rfl, by simpa using this⟩
theorem TIOk.info (h : TIOk P t i) : ∃ j, P.info? t = some j ∧ j.size = i.size := by
 have := h.size
 cases hu : P.info? t with
 | none => rw [hu] at this; cases this
 | some j => rw [hu] at this; exact ⟨j, rfl, by simpa using this⟩
theorem TIOk.isAgg (h : TIOk P t i) (w : World) : (isAgg t).run P w = .ok i.sh.agg w := by
 obtain ⟨d, hd, hs⟩ := h.under
 unfold Go.isAgg
 rw [Sem.run_bind, run_underlying hd w, ← hs]
 cases d <;> simp [Sh.of, Sh.agg]
theorem TIOk.sizeOf (h : TIOk P t i) (w : World) : (Go.sizeOf t).run P w = .ok i.size w := by
 obtain ⟨j, hj, hs⟩ := h.info
 simp [Go.sizeOf, typeInfo, hj, hs]
theorem TIOk.zeroValue (h : TIOk P t i) (w : World) (ρ : Nm) : ∃ z : Value, (Go.zeroValue t).run P w = .ok z w ∧ z.cells = (SV.dens ρ i.zero).toArray := by
 have hz := h.zero ρ
 cases hu : P.info? t with
 | none => rw [hu] at hz; cases hz
 | some j =>
   rw [hu] at hz
   cases hj : j.zero with
   | none => simp [hj] at hz
   | some z =>
     simp [hj] at hz
     refine ⟨z, by simp [Go.zeroValue, typeInfo, hu, hj], ?_⟩
     rw [← hz]
theorem run_loadVar_part (h : TIOk P t i) (w : World) (b o : Nat) (ty : TypeId) (cs : Array Value) (fr : Nat × Nat) (hb : w.heap[b]? = some (.cells cs ty fr)) (ha : i.sh.agg = true) (hl : o + i.size ≤ cs.size) :
    (loadVar t ⟨b, o, none⟩).run P w = .ok (.agg ((cs.toList.drop o).take i.size).toArray) w := by
 have hl2 : ((cs.toList.drop o).take i.size).length = i.size := by simp; omega
 have hr : (loadCells ⟨b, o, none⟩ i.size).run P w = .ok ((cs.toList.drop o).take i.size).toArray w := by
  rw [← hl2]
  conv => lhs; rw [hl2]
  have := run_loadCells_list (P := P) w ⟨b, o, none⟩ ((cs.toList.drop o).take i.size) (fun j v hv => by
   have hadd : (⟨b, o, none⟩ : Addr).add j = ⟨b, o + j, none⟩ := by unfold Addr.add; split <;> simp_all
   rw [hadd, cell_of_row w b _ cs ty fr hb]
   have hj : j < i.size := by
    rcases Nat.lt_or_ge j i.size with g | g
    ·exact g
    ·rw [List.getElem?_eq_none (by omega)] at hv; cases hv
   rw [List.getElem?_take_of_lt hj, List.getElem?_drop] at hv
   simpa using hv)
  rw [hl2] at this ⊢
  exact this
 simp [loadVar, Sem.run_bind, h.isAgg, h.sizeOf, ha, hr]
theorem run_loadVar_one (h : TIOk P t i) (w : World) (b o : Nat) (ty : TypeId) (cs : Array Value) (fr : Nat × Nat) (hb : w.heap[b]? = some (.cells cs ty fr)) (ha : i.sh.agg = false) {v : Value} (hv : cs[o]? = some v) :
    (loadVar t ⟨b, o, none⟩).run P w = .ok v w := by
 have hc : w.cell? ⟨b, o, none⟩ = some v := by rw [cell_of_row w b o cs ty fr hb, hv]
 simp [loadVar, Sem.run_bind, h.isAgg, ha, hc]
theorem run_storeVar_part (h : TIOk P t i) (w : World) (b o : Nat) (ty : TypeId) (cs : Array Value) (hb : w.heap[b]? = some (.cells cs ty (0, 0))) (v : Value) (hs : v.cells.size = i.size) (hl : o + i.size ≤ cs.size) (h1 : ∀ u ∈ v.cells.toList, u.oneCell' = true) :
    (storeVar t ⟨b, o, none⟩ v).run P w = .ok () (w.setRow b (cs.toList.take o ++ v.cells.toList ++ cs.toList.drop (o + v.cells.toList.length)).toArray) := by
 have := run_storeCells_at (P := P) b o ty v.cells.toList 0 cs w hb (by simp only [Array.length_toList]; omega) h1
 simp only [Nat.add_zero] at this
 simp [storeVar, Sem.run_bind, h.sizeOf, hs, this]
end runs
theorem heap_setRow_same (w : World) (b : Nat) (cs cs' : Array Value) (ty : TypeId) (fr : Nat × Nat) (hb : w.heap[b]? = some (.cells cs ty fr)) : (w.setRow b cs').heap[b]? = some (.cells cs' ty fr) := by
 unfold World.setRow
 simp [Array.getElem?_modify, hb]
theorem heap_setRow_other (w : World) (b : Nat) (cs' : Array Value) (k : Nat) (h : k ≠ b) : (w.setRow b cs').heap[k]? = w.heap[k]? := by
 unfold World.setRow
 simp [Array.getElem?_modify, Ne.symm h]
theorem below_setRow (w : World) (B b : Nat) (cs' : Array Value) (h : B ≤ b) : Below B w (w.setRow b cs') :=
 ⟨rfl, rfl, rfl, by simp [World.setRow], fun k hk => heap_setRow_other w b cs' k (by omega)⟩
def SV.one : SV → Bool
 | .agg _ => false
 | .tup _ => false
 | .val v => v.oneCell'
 | _ => true
def oneAll : List SV → Bool
 | [] => true
 | v :: l => v.one && oneAll l
theorem SV.one_den {v : SV} (h : v.one = true) (ρ : Nm) : (v.den ρ).oneCell' = true := by
 cases v <;> first | (simp [SV.one] at h; done) | (simp only [SV.den]; rfl) | (simp only [SV.den]; exact h)
theorem oneAll_mem : ∀ {l : List SV}, oneAll l = true → ∀ v ∈ l, v.one = true
 | [], _, _, hv => by cases hv
 | x :: l, h, v, hv => by
   simp only [oneAll, Bool.and_eq_true] at h
   rcases List.mem_cons.1 hv with rfl | hv
   ·exact h.1
   ·exact oneAll_mem h.2 v hv
theorem oneAll_dens {l : List SV} (h : oneAll l = true) (ρ : Nm) : ∀ u ∈ SV.dens ρ l, u.oneCell' = true := by
 intro u hu
 rw [dens_map, List.mem_map] at hu
 obtain ⟨v, hv, rfl⟩ := hu
 exact SV.one_den (oneAll_mem h v hv) ρ
def SV.cells : SV → List SV
 | .agg cs => cs
 | v => [v]
def SV.flat (v : SV) : Bool := oneAll v.cells
theorem SV.flat_cells {v : SV} (h : v.flat = true) (ρ : Nm) : (v.den ρ).cells = (SV.dens ρ v.cells).toArray := by
 cases v with
 | agg cs => simp only [SV.den, SV.cells, Value.cells]
 | tup cs => simp [SV.flat, SV.cells, oneAll, SV.one] at h
 | val v =>
   have : v.oneCell' = true := by simpa [SV.flat, SV.cells, oneAll, SV.one] using h
   simp only [SV.den, SV.cells, SV.dens]
   cases v <;> first | rfl | (simp [Value.oneCell'] at this)
 | int k e => simp only [SV.den, SV.cells, SV.dens, Value.cells]
 | bool b => simp only [SV.den, SV.cells, SV.dens, Value.cells]
 | ptr b o => simp only [SV.den, SV.cells, SV.dens, Value.cells]
 | osl b o n c => simp only [SV.den, SV.cells, SV.dens, Value.cells]
 | ep b o s n i => simp only [SV.den, SV.cells, SV.dens, Value.cells]
 | str f => simp only [SV.den, SV.cells, SV.dens, Value.cells]
 | fv id => simp only [SV.den, SV.cells, SV.dens, Sl.val, Value.cells]
 | fp id i s o => simp only [SV.den, SV.cells, SV.dens, Value.cells]
 | fnv f cs => simp only [SV.den, SV.cells, SV.dens, Value.cells]
 | fbv f cs => simp only [SV.den, SV.cells, SV.dens, Value.cells]
 | mp id => simp only [SV.den, SV.cells, SV.dens, Value.cells]
structure PR where
 ob : Option (Unit → Prop)
 v : SV
def kNat : IntKind → Nat
 | .i8 => 0 | .i16 => 1 | .i32 => 2 | .i64 => 3 | .u8 => 4 | .u16 => 5 | .u32 => 6 | .u64 => 7
theorem kNat_inj {j k : IntKind} (h : nBeq (kNat j) (kNat k) = true) : j = k := by
 have := nBeq_eq h
 cases j <;> cases k <;> first | rfl | (simp [kNat] at this)
def obNn : IE → Option (Unit → Prop)
 | .c n => if 0 ≤ n then none else some fun _ => False
 | e => some fun _ => 0 ≤ e.den
def obNz : IE → Option (Unit → Prop)
 | .c n => if n = 0 then some fun _ => False else none
 | e => some fun _ => e.den ≠ 0
def obIn (n : Nat) : IE → Option (Unit → Prop)
 | .c i => if 0 ≤ i ∧ i < n then none else some fun _ => False
 | e => some fun _ => 0 ≤ e.den ∧ e.den < n
def obP : Option (Unit → Prop) → Prop
 | none => True
 | some p => p ()
theorem obNn_spec {e : IE} (h : obP (obNn e)) : 0 ≤ e.den := by
 cases e <;> try exact h
 case c n =>
  rw [den_c]
  simp only [obNn] at h
  split at h
  ·assumption
  ·exact h.elim
theorem obNz_spec {e : IE} (h : obP (obNz e)) : e.den ≠ 0 := by
 cases e <;> try exact h
 case c n =>
  rw [den_c]
  simp only [obNz] at h
  split at h
  ·exact h.elim
  ·assumption
theorem obIn_spec {n : Nat} {e : IE} (h : obP (obIn n e)) : 0 ≤ e.den ∧ e.den < n := by
 cases e <;> try exact h
 case c i =>
  rw [den_c]
  simp only [obIn] at h
  split at h
  ·assumption
  ·exact h.elim
abbrev EqF := List SV → List SV → Option BE
structure EqOk (P : Program) (t : TypeId) (f : EqF) : Prop where
 eql : ∀ xs ys b, f xs ys = some b → ∀ (ρ : Nm) (w : World) (x y : Operand),
  (do eqGuard .eql t x y (.agg (SV.dens ρ xs).toArray) (.agg (SV.dens ρ ys).toArray); binOp .eql t (.agg (SV.dens ρ xs).toArray) (.agg (SV.dens ρ ys).toArray)).run P w = .ok (.bool b.den) w
 neq : ∀ xs ys b, f xs ys = some b → ∀ (ρ : Nm) (w : World) (x y : Operand),
  (do eqGuard .neq t x y (.agg (SV.dens ρ xs).toArray) (.agg (SV.dens ρ ys).toArray); binOp .neq t (.agg (SV.dens ρ xs).toArray) (.agg (SV.dens ρ ys).toArray)).run P w = .ok (.bool !b.den) w
abbrev EqT := TypeId → Option EqF
def EqT.ok (P : Program) (T : EqT) : Prop := ∀ t f, T t = some f → EqOk P t f
def EqT.look (T : EqT) (t : TypeId) : Option EqF := T t
theorem EqT.look_ok {P : Program} {T : EqT} {t : TypeId} {f : EqF} (ho : EqT.ok P T) (h : EqT.look T t = some f) : EqOk P t f := ho t f h
def isNoneA : Option Addr → Bool
 | none => true
 | some _ => false
def eqW (i : TI) : SV → SV → Option BE
 | .bool x, .bool y => match i.sh with | .bool => some (BE.mkEqb x y) | _ => none
 | .val (.slice none _ _), .val (.slice b _ _) => match i.sh with | .slice _ => some (.t fun _ => isNoneA b) | _ => none
 | .val (.slice b _ _), .val (.slice none _ _) => match i.sh with | .slice _ => some (.t fun _ => isNoneA b) | _ => none
 | .osl _ _ _ _, .val (.slice none _ _) => match i.sh with | .slice _ => some (.c false) | _ => none
 | .val (.pointer none), .val (.pointer b) => match i.sh with | .pointer _ => some (.t fun _ => isNoneA b) | _ => none
 | .val (.pointer b), .val (.pointer none) => match i.sh with | .pointer _ => some (.t fun _ => isNoneA b) | _ => none
 | .ptr _ _, .val (.pointer none) => match i.sh with | .pointer _ => some (.c false) | _ => none
 | _, _ => none
def strV (o : BinOp) (a b : Unit → ByteArray) : Option BE :=
 match o with
 | .eql => some (.t fun _ => (a ()).toList == (b ()).toList)
 | .neq => some (.t fun _ => !((a ()).toList == (b ()).toList))
 | .lss => some (.t fun _ => Op.bytesLess (a ()).toList (b ()).toList)
 | .leq => some (.t fun _ => (Op.bytesLess (a ()).toList (b ()).toList || (a ()).toList == (b ()).toList))
 | .gtr => some (.t fun _ => !(Op.bytesLess (a ()).toList (b ()).toList || (a ()).toList == (b ()).toList))
 | .geq => some (.t fun _ => !Op.bytesLess (a ()).toList (b ()).toList)
 | _ => none
def strOf : SV → Option (Unit → ByteArray)
 | .val (.string s) => some fun _ => s
 | .str f => some f
 | _ => none
theorem strOf_den {v : SV} {f : Unit → ByteArray} (h : strOf v = some f) (ρ : Nm) : v.den ρ = .string (f ()) := by
 unfold strOf at h
 split at h <;> first | (cases h; done) | (cases h; simp only [SV.den])
def bin2V (T : TT) (o : BinOp) (t : TypeId) (a b : SV) : Option PR :=
 match strOf a, strOf b with
 | some a, some b => match strV o a b with
   | some b => some ⟨none, .bool b⟩
   | none => none
 | _, _ => match o with
   | .eql => match TT.look T t with
     | some i => match eqW i a b with
       | some b => some ⟨none, .bool b⟩
       | none => none
     | none => none
   | .neq => match TT.look T t with
     | some i => match eqW i a b with
       | some b => some ⟨none, .bool b.mkNot⟩
       | none => none
     | none => none
   | _ => none
theorem run_eqGuard_plain {P : Program} (o : BinOp) (t : TypeId) (x y : Operand) (a b : Value) (w : World) (h : (match a, b with | .nilIface, .nilIface => false | .agg _, .agg _ => false | _, _ => true) = true) :
    (eqGuard o t x y a b).run P w = .ok () w := by
 cases o <;> first | rfl | (cases a <;> cases b <;> first | rfl | (simp at h))
theorem eqW_sound {P : Program} {t : TypeId} {i : TI} (hi : TIOk P t i) {a b : SV} {c : BE} (h : eqW i a b = some c) (ρ : Nm) (w : World) :
    (∀ n, (Op.equalIn (n + 1) t (a.den ρ) (b.den ρ)).run P w = .ok c.den w) ∧ (match a.den ρ, b.den ρ with | .nilIface, .nilIface => false | .agg _, .agg _ => false | _, _ => true) = true ∧
    (∀ o, (o = .eql ∨ o = .neq) → binOp o t (a.den ρ) (b.den ρ) = (do let r ← Op.equal t (a.den ρ) (b.den ρ); pure (.bool (match o with | .eql => r | _ => !r)))) := by
 obtain ⟨d, hd, hs⟩ := hi.under
 unfold eqW at h
 split at h
 all_goals (try (cases h; done))
 all_goals
  split at h
  ·rename_i hsh
   cases h
   rw [hsh] at hs
   cases d <;> first | (simp [Sh.of] at hs; done) | skip
   refine ⟨?_, ?_, ?_⟩
   ·intro n
    first
     | (simp only [SV.den, Op.equalIn, Sem.run_bind, run_underlying hd, Result.andThen_ok, den_mkEqb, bden_t, bden_c, isNoneA]
        first | rfl | (rename Option Addr => b; cases b <;> first | rfl | (exfalso; rename_i hx _ _ _ _ _ _ _; exact hx rfl) | contradiction | (simp at *; done)))
   ·simp only [SV.den]
   ·rintro o (rfl | rfl) <;> simp only [SV.den] <;> rfl
  ·cases h
theorem bin2V_sound {P : Program} {T : TT} (hT : TT.ok P T) {o : BinOp} {t : TypeId} {a b : SV} {r : PR} (h : bin2V T o t a b = some r) (ρ : Nm) (w : World) (x y : Operand) :
    obP r.ob → (do eqGuard o t x y (a.den ρ) (b.den ρ); binOp o t (a.den ρ) (b.den ρ)).run P w = .ok (r.v.den ρ) w := by
 intro _
 unfold bin2V at h
 split at h
 ·rename_i s s' hs hs'
  have hg : ∀ o, (eqGuard o t x y (.string (s ())) (.string (s' ()))).run P w = .ok () w := fun o => run_eqGuard_plain o t x y _ _ w rfl
  split at h
  ·rename_i c hc
   cases h
   unfold strV at hc
   split at hc <;> first | (cases hc; done) | cases hc
   all_goals simp only [strOf_den hs, strOf_den hs', SV.den, Sem.run_bind, hg, Result.andThen_ok, bden_t]
   all_goals rfl
  ·cases h
 ·split at h
  ·split at h
   ·rename_i i hi
    split at h
    ·rename_i c hc
     cases h
     obtain ⟨h1, h2, h3⟩ := eqW_sound (TT.look_ok hT hi) hc ρ w
     rw [Sem.run_bind, run_eqGuard_plain _ t x y _ _ w h2, Result.andThen_ok, h3 _ (.inl rfl), Sem.run_bind, Op.equal, show Op.maxDepth = 9999 + 1 from rfl, h1, Result.andThen_ok]
     simp only [SV.den]
     rfl
    ·cases h
   ·cases h
  ·split at h
   ·rename_i i hi
    split at h
    ·rename_i c hc
     cases h
     obtain ⟨h1, h2, h3⟩ := eqW_sound (TT.look_ok hT hi) hc ρ w
     rw [Sem.run_bind, run_eqGuard_plain _ t x y _ _ w h2, Result.andThen_ok, h3 _ (.inr rfl), Sem.run_bind, Op.equal, show Op.maxDepth = 9999 + 1 from rfl, h1, Result.andThen_ok]
     simp only [SV.den, den_mkNot]
     rfl
    ·cases h
   ·cases h
  ·cases h
def binV (T : TT) (E : EqT) (o : BinOp) (t : TypeId) (a b : SV) : Option PR :=
 match a, b with
 | .int k x, .int k' y =>
   match o with
   | .shl => some ⟨obNn y, .int k (IE.mkSh .shl k x y)⟩
   | .shr => some ⟨obNn y, .int k (IE.mkSh .shr k x y)⟩
   | o => match nBeq (kNat k) (kNat k') with
   | false => none
   | true => match o with
     | .add => some ⟨none, .int k (IE.mkAr .add k x y)⟩
     | .sub => some ⟨none, .int k (IE.mkAr .sub k x y)⟩
     | .mul => some ⟨none, .int k (IE.mkAr .mul k x y)⟩
     | .and => some ⟨none, .int k (IE.mkBt .and k x y)⟩
     | .or => some ⟨none, .int k (IE.mkBt .or k x y)⟩
     | .xor => some ⟨none, .int k (IE.mkBt .xor k x y)⟩
     | .andNot => some ⟨none, .int k (IE.mkBt .andNot k x y)⟩
     | .quo => some ⟨obNz y, .int k (IE.mkDv .quo k x y)⟩
     | .rem => some ⟨obNz y, .int k (IE.mkDv .rem k x y)⟩
     | .eql => some ⟨none, .bool (BE.mkCmp .eql x y)⟩
     | .neq => some ⟨none, .bool (BE.mkCmp .neq x y)⟩
     | .lss => some ⟨none, .bool (BE.mkCmp .lss x y)⟩
     | .leq => some ⟨none, .bool (BE.mkCmp .leq x y)⟩
     | .gtr => some ⟨none, .bool (BE.mkCmp .gtr x y)⟩
     | .geq => some ⟨none, .bool (BE.mkCmp .geq x y)⟩
     | _ => none
 | .agg xs, .agg ys =>
   match EqT.look E t with
   | none => none
   | some f =>
     match f xs ys with
     | none => none
     | some b =>
       match o with
       | .eql => some ⟨none, .bool b⟩
       | .neq => some ⟨none, .bool b.mkNot⟩
       | _ => none
 | a, b => bin2V T o t a b
theorem binV_sound {P : Program} {T : TT} (hT : TT.ok P T) {E : EqT} (hE : EqT.ok P E) {o : BinOp} {t : TypeId} {a b : SV} {r : PR} (h : binV T E o t a b = some r) (ho : obP r.ob) (ρ : Nm) (w : World) (x y : Operand) :
    (do eqGuard o t x y (a.den ρ) (b.den ρ); binOp o t (a.den ρ) (b.den ρ)).run P w = .ok (r.v.den ρ) w := by
 unfold binV at h
 split at h
 ·rename_i k i k' j
  have hg : ∀ o, (eqGuard o t x y (.int k i.den) (.int k' j.den)).run P w = .ok () w := fun o => run_eqGuard_plain o t x y _ _ w rfl
  split at h
  ·cases h
   simp only [SV.den, Sem.run_bind, hg, Result.andThen_ok, den_mkSh]
   have := obNn_spec ho
   simp only [binOp, Op.shift, if_neg (show ¬ j.den < 0 by omega)]
   rfl
  ·cases h
   simp only [SV.den, Sem.run_bind, hg, Result.andThen_ok, den_mkSh]
   have := obNn_spec ho
   simp only [binOp, Op.shift, if_neg (show ¬ j.den < 0 by omega)]
   rfl
  ·rename_i o hn1 hn2
   cases hk : nBeq (kNat k) (kNat k') with
   | false => rw [hk] at h; cases h
   | true =>
     rw [hk] at h
     have hkk := kNat_inj hk
     subst hkk
     simp only [] at h
     split at h <;> first | (cases h; done) | cases h
     all_goals simp only [SV.den, Sem.run_bind, hg, Result.andThen_ok, binOp, ne_eq, not_true_eq_false, if_false]
     all_goals first
      | (simp only [Op.intArith, den_mkAr]; rfl)
      | (simp only [den_mkBt]; rfl)
      | (simp only [Op.intDiv, den_mkDv, if_neg (obNz_spec ho)]; rfl)
      | (simp only [Op.intCmp, den_mkCmp]; rfl)
 ·rename_i xs ys
  split at h
  ·cases h
  ·rename_i f hf
   have hEq := EqT.look_ok hE hf
   split at h
   ·cases h
   ·rename_i b hb
    split at h <;> first | (cases h; done) | cases h
    ·simp only [SV.den]
     exact hEq.eql _ _ _ hb ρ w x y
    ·simp only [SV.den, den_mkNot]
     exact hEq.neq _ _ _ hb ρ w x y
 ·exact bin2V_sound hT h ρ w x y ho
def nthL : List SV → Nat → Option SV
 | [], _ => none
 | x :: _, 0 => some x
 | _ :: l, n + 1 => nthL l n
theorem nthL_eq (l : List SV) (n : Nat) : nthL l n = l[n]? := by
 induction l generalizing n with
 | nil => rfl
 | cons x l ih => cases n <;> simp [nthL, ih]
def nthF : List (Nat × TypeId) → Nat → Option (Nat × TypeId)
 | [], _ => none
 | x :: _, 0 => some x
 | _ :: l, n + 1 => nthF l n
theorem nthF_eq (l : List (Nat × TypeId)) (n : Nat) : nthF l n = l[n]? := by
 induction l generalizing n with
 | nil => rfl
 | cons x l ih => cases n <;> simp [nthF, ih]
def lenL : List SV → Nat
 | [] => 0
 | _ :: l => lenL l + 1
theorem lenL_eq (l : List SV) : lenL l = l.length := by
 induction l with
 | nil => rfl
 | cons x l ih => simp [lenL, ih]
def takeL : Nat → List SV → List SV
 | 0, _ => []
 | _, [] => []
 | n + 1, x :: l => x :: takeL n l
def dropL : Nat → List SV → List SV
 | 0, l => l
 | _, [] => []
 | n + 1, _ :: l => dropL n l
theorem takeL_eq (n : Nat) (l : List SV) : takeL n l = l.take n := by
 induction n generalizing l with
 | zero => simp [takeL]
 | succ n ih => cases l <;> simp [takeL, ih]
theorem dropL_eq (n : Nat) (l : List SV) : dropL n l = l.drop n := by
 induction n generalizing l with
 | zero => simp [dropL]
 | succ n ih => cases l <;> simp [dropL, ih]
def catL : List SV → List SV → List SV
 | [], m => m
 | x :: l, m => x :: catL l m
theorem catL_eq (l m : List SV) : catL l m = l ++ m := by
 induction l with
 | nil => rfl
 | cons x l ih => simp [catL, ih]
def partV (i : TI) (cs : List SV) (o : Nat) : Option SV :=
 match i.sh.agg with
 | true => (match nBle (o + i.size) (lenL cs) with | true => some (.agg (takeL i.size (dropL o cs))) | false => none)
 | false => nthL cs o
theorem partV_load {P : Program} {t : TypeId} {i : TI} (h : TIOk P t i) {cs : List SV} {o : Nat} {v : SV} (hv : partV i cs o = some v) (ρ : Nm) (w : World) (b : Nat) (ty : TypeId) (fr : Nat × Nat)
    (hb : w.heap[b]? = some (.cells (SV.dens ρ cs).toArray ty fr)) : (loadVar t ⟨b, o, none⟩).run P w = .ok (v.den ρ) w := by
 unfold partV at hv
 cases ha : i.sh.agg with
 | true =>
   rw [ha] at hv
   simp only [] at hv
   cases hl : nBle (o + i.size) (lenL cs) with
   | false => rw [hl] at hv; cases hv
   | true =>
     rw [hl] at hv
     cases hv
     have := nBle_le hl
     rw [lenL_eq] at this
     rw [run_loadVar_part h w b o ty _ fr hb ha (by simp [dens_length]; exact this)]
     simp only [SV.den, takeL_eq, dropL_eq, dens_take, dens_drop]
 | false =>
   rw [ha] at hv
   simp only [nthL_eq] at hv
   exact run_loadVar_one h w b o ty _ fr hb ha (by simp [dens_getElem?, hv])
theorem partV_part {P : Program} {t : TypeId} {i : TI} (h : TIOk P t i) {cs : List SV} {o : Nat} {v : SV} (hv : partV i cs o = some v) (ρ : Nm) (w : World) :
    (part t (SV.dens ρ cs).toArray o).run P w = .ok (v.den ρ) w := by
 unfold partV at hv
 unfold part
 cases ha : i.sh.agg with
 | true =>
   rw [ha] at hv
   simp only [] at hv
   cases hl : nBle (o + i.size) (lenL cs) with
   | false => rw [hl] at hv; cases hv
   | true =>
     rw [hl] at hv
     cases hv
     simp only [Sem.run_bind, h.isAgg, ha, Result.andThen_ok, if_true, h.sizeOf, Sem.run_pure]
     simp only [SV.den, takeL_eq, dropL_eq, dens_take, dens_drop]
     congr 2
     simp
 | false =>
   rw [ha] at hv
   simp only [nthL_eq] at hv
   simp [Sem.run_bind, h.isAgg, ha, dens_getElem?, hv]
def minV : SV → List SV → Option SV
 | v, [] => some v
 | .int k a, .int k' b :: l => (match nBeq (kNat k) (kNat k') with | true => minV (.int k (.mn a b)) l | false => none)
 | _, _ => none
def maxV : SV → List SV → Option SV
 | v, [] => some v
 | .int k a, .int k' b :: l => (match nBeq (kNat k) (kNat k') with | true => maxV (.int k (.mx a b)) l | false => none)
 | _, _ => none
def lenV (i : TI) : SV → Option SV
 | .osl _ _ n _ => match i.sh with | .slice _ => some (.int .i64 (.c n)) | _ => none
 | .val (.slice _ n _) => match i.sh with | .slice _ => some (.int .i64 (.x (Int.ofNat n))) | _ => none
 | .val (.string s) => match i.sh with | .string => some (.int .i64 (.x (Int.ofNat s.size))) | _ => none
 | .str f => match i.sh with | .string => some (.int .i64 (.t fun _ => Int.ofNat (f ()).size)) | _ => none
 | _ => none
def evs (ev : Operand → SV) : List Operand → List SV
 | [] => []
 | x :: l => ev x :: evs ev l
theorem evs_map (ev : Operand → SV) (l : List Operand) : evs ev l = l.map ev := by
 induction l with
 | nil => rfl
 | cons x l ih => simp [evs, ih]
def builtinV (T : TT) (b : Builtin) (ts : List TypeId) (args : List SV) : Option SV :=
 match b, args with
 | .len, [x] => match ts with
   | [t] => match TT.look T t with
     | some i => lenV i x
     | none => none
   | _ => none
 | .min, x :: l => minV x l
 | .max, x :: l => maxV x l
 | _, _ => none
def elemV (T : TT) (b o : Nat) (n : Nat) (e : TypeId) (i : IE) : Option PR :=
 match TT.look T e with
 | some j =>
   match i with
   | .c m => some ⟨obIn n i, .ptr b (o + m.toNat * j.size)⟩
   | i => some ⟨obIn n i, .ep b o j.size n i⟩
 | none => none
def pureV (T : TT) (E : EqT) (ev : Operand → SV) : Op → Option PR
 | .move x => some ⟨none, ev x⟩
 | .assign x => some ⟨none, ev x⟩
 | .extract x i => match ev x with
   | .tup cs => (nthL cs i).map fun v => ⟨none, v⟩
   | _ => none
 | .unOp o _ x => match o, ev x with
   | .not, .bool b => some ⟨none, .bool b.mkNot⟩
   | .neg, .int k e => some ⟨none, .int k (IE.mkAr .sub k (.c 0) e)⟩
   | .xor, .int k e => some ⟨none, .int k (IE.mkBt .xor k (.c (if k.signed then -1 else k.max)) e)⟩
   | _, _ => none
 | .binOp o t x y _ => binV T E o t (ev x) (ev y)
 | .convert c d x => match TT.look T c, TT.look T d, ev x with
   | some _, some ⟨.int k, _, _⟩, .int _ e => some ⟨none, .int k (IE.mkCv k e)⟩
   | _, _, _ => none
 | .nilCheck x => match ev x with
   | .ptr b o => some ⟨none, .ptr b o⟩
   | .ep b o s n i => some ⟨none, .ep b o s n i⟩
   | .val (.pointer (some p)) => some ⟨none, .val (.pointer (some p))⟩
   | _ => none
 | .fieldAddr t x f => match TT.look T t, ev x with
   | some ⟨.struct fs, _, _⟩, .ptr b o => match nthF fs f with
     | some (off, ft) => match TT.look T ft with
       | some i => (match nBeq i.size 0 with | true => none | false => some ⟨none, .ptr b (o + off)⟩)
       | none => none
     | none => none
   | some ⟨.struct fs, _, _⟩, .val (.pointer (some ⟨b, o, none⟩)) => match nthF fs f with
     | some (off, ft) => match TT.look T ft with
       | some i => (match nBeq i.size 0 with | true => none | false => some ⟨none, .val (.pointer (some ⟨b, o + off, none⟩))⟩)
       | none => none
     | none => none
   | _, _ => none
 | .field t x f => match TT.look T t, ev x with
   | some ⟨.struct fs, _, _⟩, .agg cs => match nthF fs f with
     | some (off, ft) => match TT.look T ft with
       | some i => (partV i cs off).map fun v => ⟨none, v⟩
       | none => none
     | none => none
   | _, _ => none
 | .indexAddr t x i => match TT.look T t, ev x, ev i with
   | some ⟨.array n e, _, _⟩, .ptr b o, .int _ i => (match nBle n 1 with | true => none | false => elemV T b o n e i)
   | some ⟨.slice e, _, _⟩, .osl b o n _, .int _ i => elemV T b o n e i
   | _, _, _ => none
 | .call c => match c.callee with
   | .builtin b => (builtinV T b c.argTypes.toList (evs ev c.args.toList)).map fun v => ⟨none, v⟩
   | _ => none
 | .makeFunc (.func f) first cs => (match nBeq first.size 0 with | true => some ⟨none, .fnv f (evs ev cs.toList)⟩ | false => match nBeq cs.size 0 with | true => some ⟨none, .fbv f (evs ev first.toList)⟩ | false => none)
 | .makeInterface t x => match TT.look T t, ev x with
   | some ⟨.struct _, _, _⟩, .agg [] => some ⟨none, .val (.iface t (.agg #[]))⟩
   | _, _ => none
 | .slice t x none none none => match TT.look T t, ev x with
   | some ⟨.array n e, _, _⟩, .ptr b o => match TT.look T e with
     | some _ => some ⟨none, .osl b o n n⟩
     | none => none
   | _, _ => none
 | _ => none
theorem add_plain (b o n : Nat) : (⟨b, o, none⟩ : Addr).add n = ⟨b, o + n, none⟩ := by unfold Addr.add; split <;> simp_all
section pure
variable {P : Program} {T : TT} {E : EqT}
theorem fold_min (ρ : Nm) (w : World) : ∀ (l : List SV) (v r : SV), minV v l = some r → ((SV.dens ρ l).foldlM Builtin.min2 (v.den ρ)).run P w = .ok (r.den ρ) w
 | [], v, r, h => by unfold minV at h; cases h; simp [SV.dens]
 | b :: l, v, r, h => by
   cases v with
   | int k a =>
     cases b with
     | int k' b =>
       simp only [minV] at h
       cases hk : nBeq (kNat k) (kNat k') with
       | false => rw [hk] at h; cases h
       | true =>
         rw [hk] at h
         have hkk := kNat_inj hk
         subst hkk
         have := fold_min ρ w l _ _ h
         simp only [SV.dens, SV.den, List.foldlM_cons, Sem.run_bind, Builtin.min2, Sem.run_pure, Result.andThen_ok]
         simpa only [SV.den, den_mn] using this
     | _ => simp [minV] at h
   | _ => cases b <;> simp [minV] at h
theorem fold_max (ρ : Nm) (w : World) : ∀ (l : List SV) (v r : SV), maxV v l = some r → ((SV.dens ρ l).foldlM Builtin.max2 (v.den ρ)).run P w = .ok (r.den ρ) w
 | [], v, r, h => by unfold maxV at h; cases h; simp [SV.dens]
 | b :: l, v, r, h => by
   cases v with
   | int k a =>
     cases b with
     | int k' b =>
       simp only [maxV] at h
       cases hk : nBeq (kNat k) (kNat k') with
       | false => rw [hk] at h; cases h
       | true =>
         rw [hk] at h
         have hkk := kNat_inj hk
         subst hkk
         have := fold_max ρ w l _ _ h
         simp only [SV.dens, SV.den, List.foldlM_cons, Sem.run_bind, Builtin.max2, Sem.run_pure, Result.andThen_ok]
         simpa only [SV.den, den_mx] using this
     | _ => simp [maxV] at h
   | _ => cases b <;> simp [maxV] at h
theorem evs_den {ev : Operand → SV} {A : Act} {ρ : Nm} (hA : ∀ x, A.eval x = (ev x).den ρ) (l : List Operand) : l.map A.eval = SV.dens ρ (evs ev l) := by
 rw [evs_map, dens_map, List.map_map]
 exact List.map_congr_left fun x _ => hA x
theorem builtin_sound (hT : TT.ok P T) {b : Builtin} {ts : List TypeId} {l : List SV} {r : SV} (h : builtinV T b ts l = some r) (ρ : Nm) (w : World) (ty : TypeId) (cs : Array Bool) :
    (builtin b ts.toArray ty cs (SV.dens ρ l).toArray).run P w = .ok (.value (r.den ρ)) w := by
 unfold builtinV at h
 split at h
 ·split at h
  ·rename_i x t
   split at h
   ·rename_i i hi
    obtain ⟨d, hd, hs⟩ := (TT.look_ok hT hi).under
    unfold lenV at h
    split at h
    ·split at h <;> cases h
     rename_i e he
     rw [he] at hs
     cases d <;> simp [Sh.of] at hs
     simp [builtin, Builtin.len_, SV.dens, SV.den, run_underlying hd, den_c, goInt]
    ·split at h <;> cases h
     rename_i e he
     rw [he] at hs
     cases d <;> simp [Sh.of] at hs
     simp [builtin, Builtin.len_, SV.dens, SV.den, run_underlying hd, den_x, goInt]
    ·split at h <;> cases h
     rename_i e
     rw [e] at hs
     cases d <;> simp [Sh.of] at hs
     simp [builtin, Builtin.len_, SV.dens, SV.den, run_underlying hd, den_x, goInt]
    ·split at h <;> cases h
     rename_i e
     rw [e] at hs
     cases d <;> simp [Sh.of] at hs
     simp [builtin, Builtin.len_, SV.dens, SV.den, run_underlying hd, den_t, goInt]
    ·cases h
   ·cases h
  ·cases h
 ·simp only [builtin, Builtin.min_, SV.dens, Sem.run_bind]
  rw [fold_min ρ w _ _ _ h]
  rfl
 ·simp only [builtin, Builtin.max_, SV.dens, Sem.run_bind]
  rw [fold_max ρ w _ _ _ h]
  rfl
 ·cases h
theorem elem_sound (hT : TT.ok P T) {b o n : Nat} {e : TypeId} {i : IE} {r : PR} (h : elemV T b o n e i = some r) (ho : obP r.ob) (ρ : Nm) :
    ∃ j, TIOk P e j ∧ 0 ≤ i.den ∧ i.den < n ∧ r.v.den ρ = .pointer (some ⟨ρ.b b, o + i.den.toNat * j.size, none⟩) := by
 unfold elemV at h
 split at h
 ·rename_i j hj
  have hj := TT.look_ok hT hj
  split at h
  ·rename_i m
   cases h
   have := obIn_spec (n := n) (e := .c m) ho
   refine ⟨j, hj, this.1, this.2, ?_⟩
   simp only [SV.den, den_c]
  ·cases h
   have := obIn_spec (n := n) (e := i) ho
   exact ⟨j, hj, this.1, this.2, by simp only [SV.den]⟩
 ·cases h
theorem run_fieldAt (hT : TT.ok P T) {t : TypeId} {fs : List (Nat × TypeId)} {sz : Nat} {z : List SV} (hl : TT.look T t = some ⟨.struct fs, sz, z⟩) {f off : Nat} {ft : TypeId} (hf : nthF fs f = some (off, ft)) {i : TI} (hi : TT.look T ft = some i)
    (hz : nBeq i.size 0 = false) (w : World) (b o : Nat) : (Instr.fieldAt t (.pointer (some ⟨b, o, none⟩)) f).run P w = .ok (.pointer (some ⟨b, o + off, none⟩)) w := by
 obtain ⟨d, hd, hs⟩ := (TT.look_ok hT hl).under
 cases d <;> simp [Sh.of] at hs
 rename_i fields
 rw [nthF_eq, ← hs, List.getElem?_map] at hf
 cases hx : fields[f]? with
 | none => simp [hx] at hf
 | some g =>
   simp [hx] at hf
   obtain ⟨rfl, rfl⟩ := hf
   have hz' : i.size ≠ 0 := by
    intro e
    rw [e] at hz
    simp at hz
   simp [Instr.fieldAt, run_underlying hd, hx, Instr.sureAddr, fieldPlace, (TT.look_ok hT hi).sizeOf, hz', add_plain]
theorem run_indexAt {e : TypeId} {j : TI} (hj : TIOk P e j) {t : TypeId} {d : TypeDesc} (hd : P.underlying t = some d) {x : Value} {n b o : Nat}
    (hx : (d = .array n e ∧ x = .pointer (some ⟨b, o, none⟩) ∧ 1 < n) ∨ (d = .slice e ∧ ∃ c, x = .slice (some ⟨b, o, none⟩) n c)) {k : IntKind} {i : Int} (h0 : 0 ≤ i) (h1 : i < n) (w : World) :
    (Instr.indexAt t x (.int k i)).run P w = .ok (.pointer (some ⟨b, o + i.toNat * j.size, none⟩)) w := by
 rcases hx with ⟨rfl, rfl, hn⟩ | ⟨rfl, c, rfl⟩
 ·simp [Instr.indexAt, asIntOf, run_underlying hd, Instr.sureAddr, h0, h1, hj.sizeOf, add_plain]
 ·simp [Instr.indexAt, asIntOf, run_underlying hd, h0, h1, hj.sizeOf, add_plain]
theorem pure_sound (hT : TT.ok P T) (hE : EqT.ok P E) {ev : Operand → SV} {op : Op} {r : PR} (h : pureV T E ev op = some r) (ho : obP r.ob) (o : Oper) (hop : o.op = op) (ρ : Nm) (A : Act) (hA : ∀ x, A.eval x = (ev x).den ρ) (w : World) :
    (execOp A.eval o).run P w = .ok (.value (r.v.den ρ)) w := by
 unfold execOp
 rw [hop]
 unfold pureV at h
 split at h
 ·cases h; simp only [hA, Sem.run_pure]
 ·cases h; simp only [hA, Sem.run_pure]
 ·rename_i x i
  split at h
  ·rename_i cs hx
   rw [nthL_eq, Option.map_eq_some_iff] at h
   obtain ⟨v, hv, rfl⟩ := h
   simp [hA, hx, SV.den, Instr.extract, dens_getElem?, hv]
  ·cases h
 ·rename_i u t x
  split at h <;> first | (cases h; done) | cases h
  ·rename_i b hx
   simp [hA, hx, SV.den, Op.unary, den_mkNot]
  ·rename_i k e hx
   simp [hA, hx, SV.den, Op.unary, den_mkAr, Op.intArith, den_c, arI]
  ·rename_i k e hx
   simp only [hA, hx, SV.den, Op.unary, den_mkBt, den_c]
   rfl
 ·rename_i bo t x y t'
  have := binV_sound hT hE h ho ρ w x y
  simp only [hA] at this ⊢
  simp only [Sem.run_bind] at this ⊢
  rw [this]
  rfl
 ·rename_i sT d x
  split at h
  ·rename_i i k sz z k' e hs0 hl hx
   cases h
   obtain ⟨d0, hd0, _⟩ := (TT.look_ok hT hs0).under
   obtain ⟨d', hd, hs⟩ := (TT.look_ok hT hl).under
   cases d' <;> simp [Sh.of] at hs
   subst hs
   simp [hA, hx, SV.den, den_mkCv, convert, run_underlying hd, run_underlying hd0, Conv.intToInt]
  ·cases h
 ·rename_i x
  split at h <;> first | (cases h; done) | cases h
  ·rename_i b o hx
   simp [hA, hx, SV.den]
  ·rename_i b o s n i hx
   simp [hA, hx, SV.den]
  ·rename_i p hx
   simp [hA, hx, SV.den]
 ·rename_i t x f
  split at h
  ·rename_i fs sz z b o hl hx
   split at h
   ·rename_i off ft hf
    split at h
    ·rename_i i hi
     cases hz : nBeq i.size 0 with
     | true => rw [hz] at h; cases h
     | false =>
       rw [hz] at h
       cases h
       simp only [hA, hx, SV.den, Sem.run_bind, run_fieldAt hT hl hf hi hz, Result.andThen_ok, Sem.run_pure]
    ·cases h
   ·cases h
  ·rename_i fs sz z b o hl hx
   split at h
   ·rename_i off ft hf
    split at h
    ·rename_i i hi
     cases hz : nBeq i.size 0 with
     | true => rw [hz] at h; cases h
     | false =>
       rw [hz] at h
       cases h
       simp only [hA, hx, SV.den, Sem.run_bind, run_fieldAt hT hl hf hi hz, Result.andThen_ok, Sem.run_pure]
    ·cases h
   ·cases h
  ·cases h
 ·rename_i t x f
  split at h
  ·rename_i fs sz z cs hl hx
   split at h
   ·rename_i off ft hf
    split at h
    ·rename_i i hi
     rw [Option.map_eq_some_iff] at h
     obtain ⟨v, hv, rfl⟩ := h
     obtain ⟨d, hd, hs⟩ := (TT.look_ok hT hl).under
     cases d <;> simp [Sh.of] at hs
     rename_i fields
     rw [nthF_eq, ← hs, List.getElem?_map] at hf
     cases hg : fields[f]? with
     | none => simp [hg] at hf
     | some g =>
       simp [hg] at hf
       obtain ⟨rfl, rfl⟩ := hf
       simp [hA, hx, SV.den, Instr.field, run_underlying hd, hg, asAgg, partV_part (TT.look_ok hT hi) hv]
    ·cases h
   ·cases h
  ·cases h
 ·rename_i t x i
  split at h
  ·rename_i n e sz z b o k j hl hx hi
   cases hn : nBle n 1 with
   | true => rw [hn] at h; cases h
   | false =>
     rw [hn] at h
     simp only [] at h
     have hn' : 1 < n := by
      rcases Nat.lt_or_ge 1 n with g | g
      ·exact g
      ·rw [nBle_of_le g] at hn; cases hn
     obtain ⟨je, hj, h0, h1, hr⟩ := elem_sound hT h ho ρ
     obtain ⟨d, hd, hs⟩ := (TT.look_ok hT hl).under
     cases d <;> simp [Sh.of] at hs
     obtain ⟨rfl, rfl⟩ := hs
     simp only [hA, hx, hi, hr, SV.den, Sem.run_bind, run_indexAt hj hd (.inl ⟨rfl, rfl, hn'⟩) h0 h1, Result.andThen_ok, Sem.run_pure]
  ·rename_i e sz z b o n c k j hl hx hi
   obtain ⟨je, hj, h0, h1, hr⟩ := elem_sound hT h ho ρ
   obtain ⟨d, hd, hs⟩ := (TT.look_ok hT hl).under
   cases d <;> simp [Sh.of] at hs
   subst hs
   simp only [hA, hx, hi, hr, SV.den, Sem.run_bind, run_indexAt hj hd (.inr ⟨rfl, _, rfl⟩) h0 h1, Result.andThen_ok, Sem.run_pure]
  ·cases h
 ·rename_i c
  split at h
  ·rename_i b hc
   rw [Option.map_eq_some_iff] at h
   obtain ⟨v, hv, rfl⟩ := h
   have := builtin_sound hT hv ρ w o.type (c.args.map fun | .const _ => true | _ => false)
   rw [← evs_den hA] at this
   have e1 : c.args.map A.eval = (c.args.toList.map A.eval).toArray := by apply Array.ext'; simp
   rw [show c.argTypes.toList.toArray = c.argTypes from rfl] at this
   simp only [resolve, hc, Sem.run_bind, Sem.run_pure, Result.andThen_ok, invoke, e1]
   exact this
  ·cases h
 ·rename_i f first cs
  cases hz : nBeq first.size 0 with
  | false =>
    rw [hz] at h
    simp only [] at h
    cases hz2 : nBeq cs.size 0 with
    | false => rw [hz2] at h; cases h
    | true =>
      rw [hz2] at h
      cases h
      have e1 : cs = #[] := Array.eq_empty_of_size_eq_zero (nBeq_eq hz2)
      have e2 : first.map A.eval = (SV.dens ρ (evs ev first.toList)).toArray := by
       rw [← evs_den hA]; apply Array.ext'; simp
      subst e1
      have hm : ∀ (x : Array Value) (w : World), (Instr.makeFunc (.func f) x #[]).run P w = .ok (.func (.func f) x #[]) w := fun _ _ => rfl
      simp only [SV.den, ← e2, Array.map_empty, Sem.run_bind, hm, Result.andThen_ok, Sem.run_pure]
  | true =>
    rw [hz] at h
    cases h
    have hz := nBeq_eq hz
    have e1 : first = #[] := Array.eq_empty_of_size_eq_zero hz
    have e2 : cs.map A.eval = (SV.dens ρ (evs ev cs.toList)).toArray := by
     rw [← evs_den hA]; apply Array.ext'; simp
    subst e1
    have hm : ∀ (x : Array Value) (w : World), (Instr.makeFunc (.func f) #[] x).run P w = .ok (.func (.func f) #[] x) w := fun _ _ => rfl
    simp only [SV.den, ← e2, Array.map_empty, Sem.run_bind, hm, Result.andThen_ok, Sem.run_pure]
 ·rename_i t x
  split at h
  ·rename_i fs sz z hl hx
   cases h
   obtain ⟨d, hd, hs⟩ := (TT.look_ok hT hl).under
   cases d <;> simp [Sh.of] at hs
   simp only [hA, hx, SV.den, SV.dens, Instr.makeInterface, Sem.run_bind, run_underlying hd, Result.andThen_ok, Sem.run_pure]
  ·cases h
 ·rename_i t x
  split at h
  ·rename_i n e sz z b o' hl hx
   split at h
   ·rename_i j hj
    cases h
    obtain ⟨d, hd, hs⟩ := (TT.look_ok hT hl).under
    cases d <;> simp [Sh.of] at hs
    obtain ⟨rfl, rfl⟩ := hs
    rename_i n e
    have he : P.elem t = e := by simp [Program.elem, hd]
    have hn : P.arrayLen t = n := by simp [Program.arrayLen, hd]
    have := run_sliceAt_array_all (P := P) w t ⟨ρ.b b, o', none⟩ (by rw [he, hn]; exact hd)
    rw [he, hn, (TT.look_ok hT hj).sizeOf w, Result.andThen_ok] at this
    simp only [Option.map_none, hA, hx, SV.den, Sem.run_bind, this, Result.andThen_ok, Sem.run_pure, slicedAt, Nat.zero_mul, Nat.sub_zero, add_plain, Nat.add_zero, ite_self]
   ·cases h
  ·cases h
 ·cases h
end pure
def setFrom : List SV → Nat → List SV → List SV
 | cs, _, [] => cs
 | cs, o, v :: vs => setFrom (setL cs o v) (o + 1) vs
theorem setL_length {α : Type} (l : List α) (n : Nat) (x : α) : (setL l n x).length = l.length := by rw [setL_set, List.length_set]
theorem setFrom_fold (ρ : Nm) : ∀ (vs : List SV) (cs : List SV) (o k : Nat),
    ((SV.dens ρ vs).zipIdx k).foldl (fun (a : Array Value) (p : Value × Nat) => a.setIfInBounds (o + p.2) p.1) (SV.dens ρ cs).toArray = (SV.dens ρ (setFrom cs (o + k) vs)).toArray
 | [], cs, o, k => by simp [SV.dens, setFrom]
 | v :: vs, cs, o, k => by
   have ih := setFrom_fold ρ vs (setL cs (o + k) v) o (k + 1)
   simp only [SV.dens, List.zipIdx_cons, List.foldl_cons, List.setIfInBounds_toArray, setFrom]
   rw [setL_set, dens_set] at ih
   rw [ih, ← setL_set]
   rfl
def fillV (place : Nat → Option (Nat × Nat)) : List SV → List (Nat × SV) → Option (List SV)
 | cs, [] => some cs
 | cs, (i, v) :: rest =>
   match place i with
   | none => none
   | some (off, size) =>
     (match v.flat && nBeq (lenL v.cells) size && nBle (off + size) (lenL cs) with | true => fillV place (setFrom cs off v.cells) rest | false => none)
theorem fill_sound (ρ : Nm) (place : Nat → Option (Nat × Nat)) : ∀ (parts : List (Nat × SV)) (cs r : List SV), fillV place cs parts = some r →
    Instr.fill place (SV.dens ρ cs).toArray (parts.map fun p => (p.1, p.2.den ρ)) = some (SV.dens ρ r).toArray
 | [], cs, r, h => by unfold fillV at h; cases h; rfl
 | (i, v) :: rest, cs, r, h => by
   unfold fillV at h
   split at h
   ·cases h
   ·rename_i off size hp
    cases hc : (v.flat && nBeq (lenL v.cells) size && nBle (off + size) (lenL cs)) with
    | false => rw [hc] at h; cases h
    | true =>
      rw [hc] at h
      simp only [Bool.and_eq_true] at hc
      obtain ⟨⟨h1, h2⟩, h3⟩ := hc
      have h2 := nBeq_eq h2
      have h3 := nBle_le h3
      rw [lenL_eq] at h2 h3
      have ih := fill_sound ρ place rest _ _ h
      simp only [List.map_cons, Instr.fill, hp, SV.flat_cells h1 ρ, List.size_toArray, dens_length]
      rw [if_neg (by simp; omega)]
      have hf := setFrom_fold ρ v.cells cs off 0
      have e : Array.foldl (fun (cs : Array Value) (x : Value × Nat) => match x with | (c, j) => cs.setIfInBounds (off + j) c) (SV.dens ρ cs).toArray (SV.dens ρ v.cells).toArray.zipIdx = (SV.dens ρ (setFrom cs off v.cells)).toArray := by
       rw [← Array.foldl_toList]
       simp only [Array.toList_zipIdx]
       exact hf
      rw [e]
      exact ih
def repL : Nat → List SV → List SV
 | 0, _ => []
 | n + 1, z => catL z (repL n z)
def partsV (ev : Operand → SV) : List (Nat × Operand) → List (Nat × SV)
 | [] => []
 | (i, x) :: l => (i, ev x) :: partsV ev l
theorem partsV_den {ev : Operand → SV} {A : Act} {ρ : Nm} (hA : ∀ x, A.eval x = (ev x).den ρ) (l : List (Nat × Operand)) :
    (l.map fun p => (p.1, A.eval p.2)) = (partsV ev l).map fun p => (p.1, p.2.den ρ) := by
 induction l with
 | nil => rfl
 | cons p l ih =>
   obtain ⟨i, x⟩ := p
   simp only [partsV, List.map_cons, hA]
   simp only [hA] at ih
   rw [ih]
def sizesV (T : TT) : List (Nat × TypeId) → Option (List (Nat × Nat))
 | [] => some []
 | (o, t) :: l => match TT.look T t, sizesV T l with
   | some i, some r => some ((o, i.size) :: r)
   | _, _ => none
def nthP : List (Nat × Nat) → Nat → Option (Nat × Nat)
 | [], _ => none
 | x :: _, 0 => some x
 | _ :: l, n + 1 => nthP l n
theorem nthP_eq (l : List (Nat × Nat)) (n : Nat) : nthP l n = l[n]? := by
 induction l generalizing n with
 | nil => rfl
 | cons x l ih => cases n <;> simp [nthP, ih]
def buildV (T : TT) (ev : Operand → SV) (t : TypeId) (parts : List (Nat × Operand)) : Option SV :=
 match TT.look T t with
 | some ⟨.struct fs, _, z⟩ => match sizesV T fs with
   | some ps => (fillV (nthP ps) z (partsV ev parts)).map .agg
   | none => none
 | some ⟨.array _ e, _, z⟩ => match TT.look T e with
   | some j => (fillV (fun i => some (i * j.size, j.size)) z (partsV ev parts)).map .agg
   | none => none
 | _ => none
section aggs
variable {P : Program} {T : TT}
theorem sizes_run (hT : TT.ok P T) (w : World) : ∀ (fs : List Field) (r : List (Nat × Nat)), sizesV T (fs.map fun f => (f.offset, f.type)) = some r →
    (fs.mapM fun f => do pure (f.offset, ← Go.sizeOf f.type) : Sem (List (Nat × Nat))).run P w = .ok r w
 | [], r, h => by
   simp only [List.map_nil, sizesV] at h
   cases h
   simp
 | f :: fs, r, h => by
   simp only [List.map_cons] at h
   unfold sizesV at h
   split at h
   ·rename_i i r' hi hr
    cases h
    have ih := sizes_run hT w fs r' hr
    simp only [List.mapM_cons, Sem.run_bind, (TT.look_ok hT hi).sizeOf, Result.andThen_ok, Sem.run_pure, ih]
   ·cases h
theorem build_sound (hT : TT.ok P T) {ev : Operand → SV} {t : TypeId} {parts : List (Nat × Operand)} {v : SV} (h : buildV T ev t parts = some v) (ρ : Nm) (A : Act) (hA : ∀ x, A.eval x = (ev x).den ρ) (w : World) :
    (Instr.build t (parts.map fun p => (p.1, A.eval p.2)).toArray).run P w = .ok (v.den ρ) w := by
 unfold buildV at h
 split at h
 ·rename_i fs sz z hl
  split at h
  ·rename_i ps hps
   rw [Option.map_eq_some_iff] at h
   obtain ⟨r, hr, rfl⟩ := h
   have hi := TT.look_ok hT hl
   obtain ⟨d, hd, hs⟩ := hi.under
   obtain ⟨zv, hz, hzc⟩ := hi.zeroValue w ρ
   cases d <;> simp [Sh.of] at hs
   rename_i fields
   rw [← hs] at hps
   have hm := sizes_run hT w fields.toList ps hps
   have hf := fill_sound ρ (nthP ps) _ _ _ hr
   rw [show nthP ps = fun x => ps.toArray[x]? from funext fun x => by rw [nthP_eq]; simp] at hf
   simp only [Instr.build, Sem.run_bind, hz, Result.andThen_ok, run_underlying hd]
   rw [← Array.toArray_toList (xs := fields), List.mapM_toArray]
   simp only [Sem.run_map, hm, partsV_den hA]
   simp only [Result.andThen_ok, hzc, hf, Sem.run_pure, SV.den]
  ·cases h
 ·rename_i n e sz z hl
  split at h
  ·rename_i j hj
   rw [Option.map_eq_some_iff] at h
   obtain ⟨r, hr, rfl⟩ := h
   have hi := TT.look_ok hT hl
   obtain ⟨d, hd, hs⟩ := hi.under
   obtain ⟨zv, hz, hzc⟩ := hi.zeroValue w ρ
   cases d <;> simp [Sh.of] at hs
   obtain ⟨rfl, rfl⟩ := hs
   have hf := fill_sound ρ _ _ _ _ hr
   simp only [Instr.build, Sem.run_bind, hz, Result.andThen_ok, run_underlying hd, (TT.look_ok hT hj).sizeOf, partsV_den hA, hzc, hf, Sem.run_pure, SV.den]
  ·cases h
 ·cases h
end aggs
def buildSliceV (T : TT) (ev : Operand → SV) (t : TypeId) (n : Nat) (parts : List (Nat × Operand)) : Option (TypeId × List SV) :=
 match TT.look T t with
 | some ⟨.slice e, _, _⟩ => match TT.look T e with
   | some j => match nBeq n 0, parts with
     | true, [] => some (e, [])
     | true, _ => none
     | false, _ => (match nBlt 0 n && nBlt 0 j.size && nBle (n * j.size) 16777216 && nBeq (lenL j.zero) j.size with | true => (fillV (fun i => some (i * j.size, j.size)) (repL n j.zero) (partsV ev parts)).map fun c => (e, c) | false => none)
   | none => none
 | _ => none
theorem repL_length (n : Nat) (z : List SV) : (repL n z).length = n * z.length := by
 induction n with
 | zero => simp [repL]
 | succ n ih => simp [repL, catL_eq, ih, Nat.succ_mul, Nat.add_comm]
theorem repL_get (n : Nat) (z : List SV) (h : 0 < z.length) (i : Nat) (hi : i < n * z.length) : (repL n z)[i]? = z[i % z.length]? := by
 induction n generalizing i with
 | zero => simp at hi
 | succ n ih =>
   simp only [repL, catL_eq]
   rcases Nat.lt_or_ge i z.length with g | g
   ·rw [List.getElem?_append_left g, Nat.mod_eq_of_lt g]
   ·rw [List.getElem?_append_right g, ih (i - z.length) (by rw [Nat.succ_mul] at hi; omega)]
    rw [Nat.mod_eq_sub_mod g]
theorem buildSlice_sound {P : Program} {T : TT} (hT : TT.ok P T) {ev : Operand → SV} {t e : TypeId} {n : Nat} {parts : List (Nat × Operand)} {cs : List SV} (h : buildSliceV T ev t n parts = some (e, cs)) (ρ : Nm) (A : Act)
    (hA : ∀ x, A.eval x = (ev x).den ρ) (w : World) :
    (Instr.buildSlice t n (parts.map fun p => (p.1, A.eval p.2)).toArray).run P w = .ok (.slice (some ⟨w.heap.size, 0, none⟩) n n) (w.alloc (.cells (SV.dens ρ cs).toArray e)) := by
 unfold buildSliceV at h
 split at h
 ·rename_i e' sz z hl
  split at h
  ·rename_i j hj
   cases hn0 : nBeq n 0 with
   | true =>
     rw [hn0] at h
     have hn0 := nBeq_eq hn0
     subst hn0
     cases parts with
     | cons p l => cases h
     | nil =>
       cases h
       obtain ⟨d, hd, hs⟩ := (TT.look_ok hT hl).under
       cases d <;> simp [Sh.of] at hs
       subst hs
       have hi := TT.look_ok hT hj
       simp only [Instr.buildSlice, Sem.run_bind, run_underlying hd, Result.andThen_ok, hi.sizeOf]
       rw [if_neg (show ¬ 0 * j.size > 2 ^ 24 by omega), if_pos (by omega)]
       simp [SV.dens, newRow, run_newObj_alloc, Instr.fill, Sem.run_bind, Sem.run_map, Sem.run_pure, Result.andThen_ok]
       rw [Array.eq_empty_of_size_eq_zero (xs := Array.map _ (Array.range 0)) (by simp)]
   | false =>
   rw [hn0] at h
   simp only [] at h
   cases hc : (nBlt 0 n && nBlt 0 j.size && nBle (n * j.size) 16777216 && nBeq (lenL j.zero) j.size) with
   | false => rw [hc] at h; cases h
   | true =>
     rw [hc] at h
     simp only [Option.map_eq_some_iff, Prod.mk.injEq] at h
     obtain ⟨r, hr, rfl, rfl⟩ := h
     simp only [Bool.and_eq_true, nBlt_iff] at hc
     obtain ⟨⟨⟨h1, h2⟩, h3⟩, h4⟩ := hc
     have h3 := nBle_le h3
     have h4 := nBeq_eq h4
     rw [lenL_eq] at h4
     obtain ⟨d, hd, hs⟩ := (TT.look_ok hT hl).under
     cases d <;> simp [Sh.of] at hs
     subst hs
     have hi := TT.look_ok hT hj
     obtain ⟨zv, hz, hzc⟩ := hi.zeroValue w ρ
     have hf := fill_sound ρ _ _ _ _ hr
     have hpos : n * j.size ≠ 0 := by
      intro e0
      rcases Nat.mul_eq_zero.1 e0 with e0 | e0 <;> omega
     have hrep : (Array.range (n * j.size)).map (zv.cells[· % zv.cells.size]!) = (SV.dens ρ (repL n j.zero)).toArray := by
      rw [hzc]
      apply Array.ext_getElem?
      intro i
      simp only [Array.getElem?_map, List.getElem?_toArray, dens_getElem?, List.size_toArray, dens_length]
      rcases Nat.lt_or_ge i (n * j.size) with g | g
      ·rw [repL_get n j.zero (by omega) i (by rw [h4]; exact g)]
       simp only [Array.getElem?_range, g, if_true, Option.map_some]
       have hm : i % j.zero.length < j.zero.length := Nat.mod_lt _ (by omega)
       rw [getElem!_pos _ _ (by simp [dens_length]; exact hm)]
       simp [dens_map, List.getElem?_eq_getElem hm]
      ·rw [List.getElem?_eq_none (by rw [repL_length, h4]; exact g)]
       simp [Nat.not_lt.2 g]
     simp only [Instr.buildSlice, Sem.run_bind, run_underlying hd, Result.andThen_ok, hi.sizeOf]
     rw [if_neg (show ¬ n * j.size > 2 ^ 24 by omega), if_neg hpos]
     simp only [Sem.run_bind, hz, Result.andThen_ok, Sem.run_pure, partsV_den hA, hrep, hf, newRow, run_newObj_alloc]
  ·cases h
 ·cases h
def colL : Nat → Nat → Nat → List SV → Option (List SV)
 | 0, _, _, _ => some []
 | n + 1, s, o, cs => match nthL cs o, colL n s (o + s) cs with
   | some v, some l => some (v :: l)
   | _, _ => none
theorem colL_get {cs : List SV} {s : Nat} : ∀ {n o : Nat} {l : List SV}, colL n s o cs = some l → l.length = n ∧ ∀ m, m < n → l[m]? = cs[o + m * s]? ∧ ∃ x, l[m]? = some x
 | 0, o, l, h => by cases h; exact ⟨rfl, fun m hm => by omega⟩
 | n + 1, o, l, h => by
   unfold colL at h
   split at h
   ·rename_i v l' hv hl
    cases h
    obtain ⟨h1, h2⟩ := colL_get hl
    refine ⟨by simp [h1], fun m hm => ?_⟩
    cases m with
    | zero => rw [nthL_eq] at hv; exact ⟨by simp [hv], v, by simp⟩
    | succ m =>
      obtain ⟨h3, h4⟩ := h2 m (by omega)
      rw [show o + (m + 1) * s = o + s + m * s by rw [Nat.succ_mul]; omega]
      exact ⟨by simpa using h3, by simpa using h4⟩
   ·cases h
def intsL (k : IntKind) : List SV → Option (List IE)
 | [] => some []
 | .int k' e :: l => match nBeq (kNat k) (kNat k') with
   | true => match intsL k l with
     | some r => some (e :: r)
     | none => none
   | false => none
 | _ => none
def litsL : List IE → Option (List Int)
 | [] => some []
 | .c n :: l => match litsL l with
   | some r => some (n :: r)
   | none => none
 | _ => none
def boolsL : List SV → Option (List BE)
 | [] => some []
 | .bool e :: l => match boolsL l with
   | some r => some (e :: r)
   | none => none
 | _ => none
def denL : List IE → List Int
 | [] => []
 | e :: l => e.den :: denL l
def bdenL : List BE → List Bool
 | [] => []
 | e :: l => e.den :: bdenL l
def selB (l : List Bool) (i : Int) : Bool := l.getD i.toNat false
theorem intsL_get {k : IntKind} : ∀ {l : List SV} {r : List IE}, intsL k l = some r → ∀ (m : Nat) (v : SV), l[m]? = some v → ∃ e, r[m]? = some e ∧ v = SV.int k e
 | [], _, _, m, v, hm => by simp at hm
 | w :: l, r, h, m, v, hm => by
   cases w with
   | int k' e =>
     simp only [intsL] at h
     cases hk : nBeq (kNat k) (kNat k') with
     | false => rw [hk] at h; cases h
     | true =>
       rw [hk] at h
       have := kNat_inj hk
       subst this
       simp only [] at h
       cases hr : intsL k l with
       | none => rw [hr] at h; cases h
       | some r' =>
         rw [hr] at h
         cases h
         cases m with
         | zero => simp at hm; exact ⟨e, by simp, hm.symm⟩
         | succ m => simpa using intsL_get hr m v (by simpa using hm)
   | _ => simp [intsL] at h
theorem litsL_get : ∀ {l : List IE} {r : List Int}, litsL l = some r → ∀ (m : Nat) (e : IE), l[m]? = some e → e.den = r.getD m 0
 | [], _, _, m, v, hm => by simp at hm
 | w :: l, r, h, m, v, hm => by
   cases w with
   | c n =>
     simp only [litsL] at h
     cases hr : litsL l with
     | none => rw [hr] at h; cases h
     | some r' =>
       rw [hr] at h
       cases h
       cases m with
       | zero => simp at hm; subst hm; simp [den_c]
       | succ m => simpa using litsL_get hr m v (by simpa using hm)
   | _ => simp [litsL] at h
theorem boolsL_get : ∀ {l : List SV} {r : List BE}, boolsL l = some r → ∀ (m : Nat) (v : SV), l[m]? = some v → ∃ e, r[m]? = some e ∧ v = SV.bool e
 | [], _, _, m, v, hm => by simp at hm
 | w :: l, r, h, m, v, hm => by
   cases w with
   | bool e =>
     simp only [boolsL] at h
     cases hr : boolsL l with
     | none => rw [hr] at h; cases h
     | some r' =>
       rw [hr] at h
       cases h
       cases m with
       | zero => simp at hm; exact ⟨e, by simp, hm.symm⟩
       | succ m => simpa using boolsL_get hr m v (by simpa using hm)
   | _ => simp [boolsL] at h
theorem denL_get : ∀ {l : List IE} {m : Nat} {e : IE}, l[m]? = some e → (denL l).getD m 0 = e.den
 | [], m, e, h => by simp at h
 | x :: l, 0, e, h => by simp at h; simp [denL, h]
 | x :: l, m + 1, e, h => by
   have := denL_get (l := l) (m := m) (e := e) (by simpa using h)
   simpa [denL] using this
theorem bdenL_get : ∀ {l : List BE} {m : Nat} {e : BE}, l[m]? = some e → (bdenL l).getD m false = e.den
 | [], m, e, h => by simp at h
 | x :: l, 0, e, h => by simp at h; simp [bdenL, h]
 | x :: l, m + 1, e, h => by
   have := bdenL_get (l := l) (m := m) (e := e) (by simpa using h)
   simpa [bdenL] using this
def strsL : List SV → Option (List (Unit → ByteArray))
 | [] => some []
 | v :: l => match strOf v, strsL l with
   | some f, some r => some (f :: r)
   | _, _ => none
def selT (l : List (Unit → ByteArray)) (i : Int) : ByteArray := (l.getD i.toNat fun _ => ByteArray.empty) ()
theorem strsL_get : ∀ {l : List SV} {r : List (Unit → ByteArray)}, strsL l = some r → ∀ (m : Nat) (v : SV), l[m]? = some v → ∃ f, r[m]? = some f ∧ strOf v = some f
 | [], _, _, m, v, hm => by simp at hm
 | w :: l, r, h, m, v, hm => by
   simp only [strsL] at h
   split at h
   ·rename_i f r' hf hr
    cases h
    cases m with
    | zero => simp at hm; subst hm; exact ⟨f, by simp, hf⟩
    | succ m => simpa using strsL_get hr m v (by simpa using hm)
   ·cases h
def pickV (l : List SV) (i : IE) : Option SV :=
 match l with
 | .int k _ :: _ => match intsL k l with
   | some r => match litsL r with
     | some q => some (.int k (.sel q i))
     | none => some (.int k (.t fun _ => selI (denL r) i.den))
   | none => none
 | .bool _ :: _ => match boolsL l with
   | some r => some (.bool (.t fun _ => selB (bdenL r) i.den))
   | none => none
 | l => match strsL l with
   | some r => some (.str fun _ => selT r i.den)
   | none => none
theorem pickV_den {l : List SV} {i : IE} {v : SV} (h : pickV l i = some v) {x : SV} (hx : l[i.den.toNat]? = some x) (ρ : Nm) : v.den ρ = x.den ρ := by
 unfold pickV at h
 split at h
 ·rename_i k e l'
  split at h
  ·rename_i r hr
   obtain ⟨e1, h1, rfl⟩ := intsL_get hr _ _ hx
   split at h
   ·rename_i q hq
    cases h
    simp only [SV.den, den_sel, selI, litsL_get hq _ _ h1]
   ·cases h
    simp only [SV.den, den_t, selI, denL_get h1]
  ·cases h
 ·split at h
  ·rename_i r hr
   obtain ⟨e1, h1, rfl⟩ := boolsL_get hr _ _ hx
   cases h
   simp only [SV.den, bden_t, selB, bdenL_get h1]
  ·cases h
 ·split at h
  ·rename_i r hr
   obtain ⟨f, h1, h2⟩ := strsL_get hr _ _ hx
   cases h
   rw [strOf_den h2]
   simp only [SV.den, selT, List.getD_eq_getElem?_getD, h1, Option.getD_some]
  ·cases h
def colV (n s o : Nat) (cs : List SV) (i : IE) : Option SV :=
 match colL n s o cs with
 | some l => pickV l i
 | none => none
theorem colV_den {n s o : Nat} {cs : List SV} {i : IE} {v : SV} (h : colV n s o cs i = some v) (hi : 0 ≤ i.den ∧ i.den < n) : ∃ x, cs[o + i.den.toNat * s]? = some x ∧ ∀ ρ, v.den ρ = x.den ρ := by
 unfold colV at h
 split at h
 ·rename_i l hl
  obtain ⟨_, h2⟩ := colL_get hl
  obtain ⟨h3, x, h4⟩ := h2 i.den.toNat (by omega)
  exact ⟨x, by rw [← h3, h4], pickV_den h h4⟩
 ·cases h
def colsV (n s : Nat) (cs : List SV) (i : IE) : Nat → Nat → Option (List SV)
 | 0, _ => some []
 | c + 1, o => match colV n s o cs i, colsV n s cs i c (o + 1) with
   | some v, some l => some (v :: l)
   | _, _ => none
theorem colsV_den {n s : Nat} {cs : List SV} {i : IE} (hi : 0 ≤ i.den ∧ i.den < n) : ∀ {c o : Nat} {l : List SV}, colsV n s cs i c o = some l → (c = 0 ∨ o + i.den.toNat * s + c ≤ cs.length) ∧ ∀ ρ, SV.dens ρ l = SV.dens ρ (takeL c (dropL (o + i.den.toNat * s) cs))
 | 0, o, l, h => by cases h; exact ⟨.inl rfl, fun ρ => by cases dropL (o + i.den.toNat * s) cs <;> rfl⟩
 | c + 1, o, l, h => by
   unfold colsV at h
   split at h
   ·rename_i v l' hv hl
    cases h
    obtain ⟨x, hx, hd⟩ := colV_den hv hi
    obtain ⟨h1, h2⟩ := colsV_den hi hl
    have hlt : o + i.den.toNat * s < cs.length := (List.getElem?_eq_some_iff.1 hx).1
    refine ⟨.inr ?_, fun ρ => ?_⟩
    ·rcases h1 with h1 | h1 <;> omega
    ·have he := h2 ρ
     rw [takeL_eq, dropL_eq] at he ⊢
     rw [show o + 1 + i.den.toNat * s = o + i.den.toNat * s + 1 by omega] at he
     have hc : cs.drop (o + i.den.toNat * s) = x :: cs.drop (o + i.den.toNat * s + 1) := by
      rw [List.drop_eq_getElem_cons hlt]
      congr 1
      rw [List.getElem?_eq_getElem hlt] at hx
      exact Option.some.inj hx
     rw [hc, List.take_succ_cons]
     simp only [SV.dens, hd ρ, he]
   ·cases h
def epV (j : TI) (n s o : Nat) (cs : List SV) (i : IE) : Option SV :=
 match j.sh.agg with
 | false => colV n s o cs i
 | true => match nBlt 0 j.size with
   | true => match colsV n s cs i j.size o with
     | some l => some (.agg l)
     | none => none
   | false => none
theorem epV_part {j : TI} {n s o : Nat} {cs : List SV} {i : IE} {v : SV} (h : epV j n s o cs i = some v) (hi : 0 ≤ i.den ∧ i.den < n) : ∃ x, partV j cs (o + i.den.toNat * s) = some x ∧ ∀ ρ, v.den ρ = x.den ρ := by
 unfold epV at h
 unfold partV
 cases ha : j.sh.agg with
 | false =>
   rw [ha] at h
   simp only [nthL_eq]
   exact colV_den h hi
 | true =>
   rw [ha] at h
   simp only [] at h ⊢
   cases hz : nBlt 0 j.size with
   | false => rw [hz] at h; cases h
   | true =>
     rw [hz] at h
     rw [nBlt_iff] at hz
     simp only [] at h
     split at h
     ·rename_i l hl
      cases h
      obtain ⟨h1, h2⟩ := colsV_den hi hl
      have : nBle (o + i.den.toNat * s + j.size) (lenL cs) = true := by rw [lenL_eq]; exact nBle_of_le (by omega)
      rw [this]
      exact ⟨_, rfl, fun ρ => by simp only [SV.den, h2 ρ]⟩
     ·cases h
def loadV (T : TT) (heap : List Ent) (t : TypeId) : SV → Option PR
 | .ptr b o => match cellsE heap b, TT.look T t with
   | some cs, some i => (partV i cs o).map fun v => ⟨none, v⟩
   | _, _ => none
 | .ep b o s n i => match cellsE heap b, TT.look T t with
   | some cs, some j => match epV j n s o cs i with
     | some v => some ⟨obIn n i, v⟩
     | none => none
   | _, _ => none
 | _ => none
def storeV (T : TT) (heap : List Ent) (t : TypeId) (x v : SV) : Option (Nat × List SV) :=
 match x with
 | .ptr b o => match cellsE heap b, TT.look T t with
   | some cs, some i => (match v.flat && nBeq (lenL v.cells) i.size && nBle (o + i.size) (lenL cs) with | true => some (b, catL (takeL o cs) (catL v.cells (dropL (o + i.size) cs))) | false => none)
   | _, _ => none
 | _ => none
end
end Go.Proofs.YtkifmppmfkpfbaaGreat.V
