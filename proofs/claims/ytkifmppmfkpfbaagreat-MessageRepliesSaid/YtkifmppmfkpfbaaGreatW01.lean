import Derived.WalkKit
import Derived.Lib.Hide
import Derived.OneCell
import Derived.Laws.AppendOwn
set_option linter.unusedVariables false
set_option linter.unusedSimpArgs false
namespace Go.Proofs.YtkifmppmfkpfbaaGreat.V
open Go.RowKit
section
inductive Shp where
 | int (k : IntKind) | byte | bool | str | sl (e : Shp) | st (fs : List Shp)
mutual
@[reducible] def Shp.D : Shp → Type
 | .int _ => Int
 | .byte => UInt8
 | .bool => Bool
 | .str => ByteArray
 | .sl e => List e.D
 | .st fs => Shp.Ds fs
@[reducible] def Shp.Ds : List Shp → Type
 | [] => Unit
 | f :: fs => f.D × Shp.Ds fs
end
mutual
def Shp.dflt : (e : Shp) → e.D
 | .int _ => (0 : Int)
 | .byte => (0 : UInt8)
 | .bool => false
 | .str => ByteArray.empty
 | .sl _ => []
 | .st fs => Shp.dflts fs
def Shp.dflts : (fs : List Shp) → Shp.Ds fs
 | [] => ()
 | f :: fs => (f.dflt, Shp.dflts fs)
end
mutual
def Shp.size : Shp → Nat
 | .st fs => Shp.sizes fs
 | _ => 1
def Shp.sizes : List Shp → Nat
 | [] => 0
 | f :: fs => f.size + Shp.sizes fs
end
structure Sl where
 a : Option Addr
 n : Nat
 cap : Nat
def Sl.val (s : Sl) : Value := .slice s.a s.n s.cap
def Reads (w : World) (Z : Nat → Prop) (a : Option Addr) (cs : List Value) : Prop :=
 cs = [] ∨ ∃ b off, a = some ⟨b, off, none⟩ ∧ Z b ∧ ∀ j v, cs[j]? = some v → w.cell? ⟨b, off + j, none⟩ = some v
def chunk (cs : List Value) (i sz : Nat) : List Value := (cs.drop (i * sz)).take sz
structure Bd (s : Sl) (m : Nat) : Prop where
 len : s.n = m
 le : m ≤ s.cap
 capLe : s.cap ≤ 9223372036854775807
 lim : m ≤ 140737488355328
structure Rd {α : Type} (w : World) (Z : Nat → Prop) (sz : Nat) (r : α → List Value → Prop) (s : Sl) (xs : List α) : Prop where
 bd : Bd s xs.length
 ex : ∃ cs, cs.length = xs.length * sz ∧ Reads w Z s.a cs ∧ ∀ i (h : i < xs.length), r xs[i] (chunk cs i sz)
mutual
def Shp.rep (w : World) (Z : Nat → Prop) : (e : Shp) → e.D → List Value → Prop
 | .int k, x, vs => vs = [.int k x]
 | .byte, x, vs => vs = [.int .u8 (UInt8.toNat x)]
 | .bool, x, vs => vs = [.bool x]
 | .str, x, vs => vs = [.string x]
 | .sl e, x, vs => ∃ s : Sl, vs = [s.val] ∧ Rd w Z e.size (fun a b => Shp.rep w Z e a b) s x
 | .st fs, x, vs => Shp.reps w Z fs x vs
def Shp.reps (w : World) (Z : Nat → Prop) : (fs : List Shp) → Shp.Ds fs → List Value → Prop
 | [], _, vs => vs = []
 | f :: fs, x, vs => ∃ v1 v2, vs = v1 ++ v2 ∧ Shp.rep w Z f x.1 v1 ∧ Shp.reps w Z fs x.2 v2
end
theorem Reads.mono {w w' : World} {Z Z' : Nat → Prop} {a : Option Addr} {cs : List Value} (h : Reads w Z a cs) (hz : ∀ k, Z k → Z' k) (hw : ∀ k, Z k → w'.heap[k]? = w.heap[k]?) : Reads w' Z' a cs := by
 rcases h with h | ⟨b, off, ha, hb, hc⟩
 ·exact .inl h
 ·refine .inr ⟨b, off, ha, hz b hb, fun j v hv => ?_⟩
  rw [World.cell?_of_block (w := w) (hw b hb)]
  exact hc j v hv
theorem Rd.mono {α : Type} {w w' : World} {Z Z' : Nat → Prop} {sz : Nat} {r r' : α → List Value → Prop} {s : Sl} {xs : List α} (h : Rd w Z sz r s xs) (hz : ∀ k, Z k → Z' k) (hw : ∀ k, Z k → w'.heap[k]? = w.heap[k]?) (hr : ∀ a b, r a b → r' a b) : Rd w' Z' sz r' s xs := by
 obtain ⟨hb, cs, h1, h2, h3⟩ := h
 exact ⟨hb, cs, h1, h2.mono hz hw, fun i hi => hr _ _ (h3 i hi)⟩
mutual
theorem Shp.rep_mono {w w' : World} {Z Z' : Nat → Prop} (hz : ∀ k, Z k → Z' k) (hw : ∀ k, Z k → w'.heap[k]? = w.heap[k]?) : ∀ (e : Shp) (x : e.D) (vs : List Value), Shp.rep w Z e x vs → Shp.rep w' Z' e x vs
 | .int _, _, _, h => h
 | .byte, _, _, h => h
 | .bool, _, _, h => h
 | .str, _, _, h => h
 | .sl e, x, vs, h => by
   obtain ⟨s, h1, h2⟩ := h
   exact ⟨s, h1, h2.mono hz hw (fun a b h => Shp.rep_mono hz hw e a b h)⟩
 | .st fs, x, vs, h => Shp.reps_mono hz hw fs x vs h
theorem Shp.reps_mono {w w' : World} {Z Z' : Nat → Prop} (hz : ∀ k, Z k → Z' k) (hw : ∀ k, Z k → w'.heap[k]? = w.heap[k]?) : ∀ (fs : List Shp) (x : Shp.Ds fs) (vs : List Value), Shp.reps w Z fs x vs → Shp.reps w' Z' fs x vs
 | [], _, _, h => h
 | f :: fs, x, vs, h => by
   obtain ⟨v1, v2, h1, h2, h3⟩ := h
   exact ⟨v1, v2, h1, Shp.rep_mono hz hw f _ _ h2, Shp.reps_mono hz hw fs _ _ h3⟩
end
mutual
theorem Shp.rep_length {w : World} {Z : Nat → Prop} : ∀ (e : Shp) (x : e.D) (vs : List Value), Shp.rep w Z e x vs → vs.length = e.size
 | .int _, _, _, h => by cases h; rfl
 | .byte, _, _, h => by cases h; rfl
 | .bool, _, _, h => by cases h; rfl
 | .str, _, _, h => by cases h; rfl
 | .sl e, x, vs, h => by
   obtain ⟨s, rfl, h2⟩ := h
   rfl
 | .st fs, x, vs, h => Shp.reps_length fs x vs h
theorem Shp.reps_length {w : World} {Z : Nat → Prop} : ∀ (fs : List Shp) (x : Shp.Ds fs) (vs : List Value), Shp.reps w Z fs x vs → vs.length = Shp.sizes fs
 | [], _, _, h => by cases h; rfl
 | f :: fs, x, vs, h => by
   obtain ⟨v1, v2, rfl, h2, h3⟩ := h
   rw [List.length_append, Shp.rep_length f _ _ h2, Shp.reps_length fs _ _ h3]
   rfl
end
mutual
theorem Shp.rep_one {w : World} {Z : Nat → Prop} : ∀ (e : Shp) (x : e.D) (vs : List Value), Shp.rep w Z e x vs → ∀ v ∈ vs, v.oneCell' = true
 | .int _, _, _, h => by cases h; intro v hv; simp only [List.mem_singleton] at hv; subst hv; rfl
 | .byte, _, _, h => by cases h; intro v hv; simp only [List.mem_singleton] at hv; subst hv; rfl
 | .bool, _, _, h => by cases h; intro v hv; simp only [List.mem_singleton] at hv; subst hv; rfl
 | .str, _, _, h => by cases h; intro v hv; simp only [List.mem_singleton] at hv; subst hv; rfl
 | .sl e, x, vs, h => by
   obtain ⟨s, rfl, h2⟩ := h
   intro v hv; simp only [List.mem_singleton] at hv; subst hv; rfl
 | .st fs, x, vs, h => Shp.reps_one fs x vs h
theorem Shp.reps_one {w : World} {Z : Nat → Prop} : ∀ (fs : List Shp) (x : Shp.Ds fs) (vs : List Value), Shp.reps w Z fs x vs → ∀ v ∈ vs, v.oneCell' = true
 | [], _, _, h => by cases h; intro v hv; cases hv
 | f :: fs, x, vs, h => by
   obtain ⟨v1, v2, rfl, h2, h3⟩ := h
   intro v hv
   rcases List.mem_append.1 hv with hv | hv
   ·exact Shp.rep_one f _ _ h2 v hv
   ·exact Shp.reps_one fs _ _ h3 v hv
end
inductive Lf where
 | int (k : IntKind) (f : Unit → Int)
 | byte (f : Unit → UInt8)
 | bool (f : Unit → Bool)
 | str (f : Unit → ByteArray)
 | sl (e : Shp) (f : Unit → List e.D)
def Lf.rep (w : World) (Z : Nat → Prop) (v : Value) : Lf → Prop
 | .int k f => v = .int k (f ())
 | .byte f => v = .int .u8 (f ()).toNat
 | .bool f => v = .bool (f ())
 | .str f => v = .string (f ())
 | .sl e f => ∃ s : Sl, v = s.val ∧ Rd w Z e.size (fun a b => Shp.rep w Z e a b) s (f ())
def catF : List Lf → List Lf → List Lf
 | [], m => m
 | x :: l, m => x :: catF l m
theorem catF_eq (l m : List Lf) : catF l m = l ++ m := by
 induction l with
 | nil => rfl
 | cons x l ih => simp [catF, ih]
mutual
def leaves : (e : Shp) → (Unit → e.D) → List Lf
 | .int k, x => [.int k x]
 | .byte, x => [.byte x]
 | .bool, x => [.bool x]
 | .str, x => [.str x]
 | .sl e, x => [.sl e x]
 | .st fs, x => leavess fs x
def leavess : (fs : List Shp) → (Unit → Shp.Ds fs) → List Lf
 | [], _ => []
 | f :: fs, x => catF (leaves f (fun u => (x u).1)) (leavess fs (fun u => (x u).2))
end
def All2 {α β : Type} (r : α → β → Prop) : List α → List β → Prop
 | [], [] => True
 | a :: l, b :: m => r a b ∧ All2 r l m
 | _, _ => False
theorem All2.append {α β : Type} {r : α → β → Prop} : ∀ {l l' : List α} {m m' : List β}, All2 r l m → All2 r l' m' → All2 r (l ++ l') (m ++ m')
 | [], _, [], _, _, h => h
 | a :: l, _, b :: m, _, h, h' => ⟨h.1, h.2.append h'⟩
 | [], _, _ :: _, _, h, _ => h.elim
 | _ :: _, _, [], _, h, _ => h.elim
theorem All2.length {α β : Type} {r : α → β → Prop} : ∀ {l : List α} {m : List β}, All2 r l m → l.length = m.length
 | [], [], _ => rfl
 | a :: l, b :: m, h => by simp [h.2.length]
 | [], _ :: _, h => h.elim
 | _ :: _, [], h => h.elim
theorem All2.get {α β : Type} {r : α → β → Prop} : ∀ {l : List α} {m : List β}, All2 r l m → ∀ (j : Nat) (a : α) (b : β), l[j]? = some a → m[j]? = some b → r a b
 | [], [], _, j, a, b, h1, _ => by simp at h1
 | x :: l, y :: m, h, 0, a, b, h1, h2 => by simp at h1 h2; subst h1; subst h2; exact h.1
 | x :: l, y :: m, h, j + 1, a, b, h1, h2 => h.2.get j a b (by simpa using h1) (by simpa using h2)
 | [], _ :: _, h, _, _, _, _, _ => h.elim
 | _ :: _, [], h, _, _, _, _, _ => h.elim
theorem All2.split {α β : Type} {r : α → β → Prop} : ∀ {l l' : List α} {m : List β}, All2 r (l ++ l') m → ∃ m1 m2, m = m1 ++ m2 ∧ All2 r l m1 ∧ All2 r l' m2
 | [], l', m, h => ⟨[], m, rfl, trivial, h⟩
 | a :: l, l', [], h => h.elim
 | a :: l, l', b :: m, h => by
   obtain ⟨m1, m2, rfl, h1, h2⟩ := h.2.split
   exact ⟨b :: m1, m2, rfl, ⟨h.1, h1⟩, h2⟩
mutual
theorem rep_leaves {w : World} {Z : Nat → Prop} : ∀ (e : Shp) (x : Unit → e.D) (vs : List Value), Shp.rep w Z e (x ()) vs ↔ All2 (fun v l => Lf.rep w Z v l) vs (leaves e x)
 | .int k, x, vs => by
   constructor
   ·intro h; cases h; exact ⟨rfl, trivial⟩
   ·intro h
    match vs, h with
    | [v], h => rw [show v = _ from h.1]; rfl
    | [], h => exact h.elim
    | _ :: _ :: _, h => exact h.2.elim
 | .byte, x, vs => by
   constructor
   ·intro h; cases h; exact ⟨rfl, trivial⟩
   ·intro h
    match vs, h with
    | [v], h => rw [show v = _ from h.1]; rfl
    | [], h => exact h.elim
    | _ :: _ :: _, h => exact h.2.elim
 | .bool, x, vs => by
   constructor
   ·intro h; cases h; exact ⟨rfl, trivial⟩
   ·intro h
    match vs, h with
    | [v], h => rw [show v = _ from h.1]; rfl
    | [], h => exact h.elim
    | _ :: _ :: _, h => exact h.2.elim
 | .str, x, vs => by
   constructor
   ·intro h; cases h; exact ⟨rfl, trivial⟩
   ·intro h
    match vs, h with
    | [v], h => rw [show v = _ from h.1]; rfl
    | [], h => exact h.elim
    | _ :: _ :: _, h => exact h.2.elim
 | .sl e, x, vs => by
   constructor
   ·rintro ⟨s, rfl, h⟩; exact ⟨⟨s, rfl, h⟩, trivial⟩
   ·intro h
    match vs, h with
    | [v], h =>
      obtain ⟨⟨s, rfl, h⟩, _⟩ := h
      exact ⟨s, rfl, h⟩
    | [], h => exact h.elim
    | _ :: _ :: _, h => exact h.2.elim
 | .st fs, x, vs => reps_leaves fs x vs
theorem reps_leaves {w : World} {Z : Nat → Prop} : ∀ (fs : List Shp) (x : Unit → Shp.Ds fs) (vs : List Value), Shp.reps w Z fs (x ()) vs ↔ All2 (fun v l => Lf.rep w Z v l) vs (leavess fs x)
 | [], x, vs => by
   constructor
   ·intro h; cases h; exact trivial
   ·intro h
    match vs, h with
    | [], h => rfl
    | _ :: _, h => exact h.elim
 | f :: fs, x, vs => by
   simp only [leavess, catF_eq]
   constructor
   ·rintro ⟨v1, v2, rfl, h1, h2⟩
    exact ((rep_leaves f (fun u => (x u).1) v1).1 h1).append ((reps_leaves fs (fun u => (x u).2) v2).1 h2)
   ·intro h
    have h' : All2 (fun l v => Lf.rep w Z v l) (leaves f (fun u => (x u).1) ++ leavess fs (fun u => (x u).2)) vs := by
     have flip : ∀ {α β : Type} {r : α → β → Prop} {l : List α} {m : List β}, All2 r l m → All2 (fun b a => r a b) m l := by
      intro α β r l
      induction l with
      | nil => intro m h; cases m with
        | nil => trivial
        | cons _ _ => exact h.elim
      | cons a l ih => intro m h; cases m with
        | nil => exact h.elim
        | cons b m => exact ⟨h.1, ih h.2⟩
     exact flip h
    obtain ⟨m1, m2, rfl, h1, h2⟩ := h'.split
    have flip : ∀ {α β : Type} {r : α → β → Prop} {l : List α} {m : List β}, All2 r l m → All2 (fun b a => r a b) m l := by
     intro α β r l
     induction l with
     | nil => intro m h; cases m with
       | nil => trivial
       | cons _ _ => exact h.elim
     | cons a l ih => intro m h; cases m with
       | nil => exact h.elim
       | cons b m => exact ⟨h.1, ih h.2⟩
    exact ⟨m1, m2, rfl, (rep_leaves f (fun u => (x u).1) m1).2 (flip h1), (reps_leaves fs (fun u => (x u).2) m2).2 (flip h2)⟩
end
end
end Go.Proofs.YtkifmppmfkpfbaaGreat.V
