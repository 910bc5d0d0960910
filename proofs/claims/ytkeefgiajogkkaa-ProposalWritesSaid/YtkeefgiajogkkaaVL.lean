/- From a claim's arguments to a law's: bytes and flat structs. -/
import Derived.Test.YtkeefgiajogkkaaVd
import Derived.WideShapes
set_option linter.unusedVariables false
set_option linter.unusedSimpArgs false
namespace Go.Proofs.Ytkeefgiajogkkaa.V
theorem rep_bytes {w : World} {a : Option Addr} {len cap : Nat} {l : List UInt8} (h : Bs w a len cap l) : Shp.rep w (fun k => k < w.heap.size) (.sl .byte) l [.slice a len cap] := by
 refine ⟨⟨a, len, cap⟩, rfl, ⟨h.len_eq.symm, by rw [h.len_eq]; exact h.le, h.cap_le, by rw [h.len_eq]; exact h.len_le⟩, l.map (fun x => Value.int .u8 (UInt8.toNat x)), by simp [Shp.size], ?_, ?_⟩
 ·by_cases h0 : len = 0
  ·have : l = [] := List.eq_nil_of_length_eq_zero (by rw [h.len_eq]; exact h0)
   exact .inl (by simp [this])
  ·obtain ⟨b, off, ha, hc⟩ := h.cells (by omega)
   refine .inr ⟨b, off, ha, World.block_lt_of_cell? w ⟨b, off + 0, none⟩ (hc 0 (by rw [h.len_eq]; omega)), fun j v hv => ?_⟩
   simp only [List.getElem?_map, Option.map_eq_some_iff] at hv
   obtain ⟨x, hx, rfl⟩ := hv
   obtain ⟨hj, rfl⟩ := List.getElem?_eq_some_iff.1 hx
   exact hc j hj
 ·intro i hi
  simp only [Shp.rep, Shp.size, chunk]
  rw [Nat.mul_one, List.drop_eq_getElem_cons (by simpa using hi)]
  simp
mutual
def flatK : Shp → Option (List IntKind)
 | .int k => some [k]
 | .st fs => flatKs fs
 | _ => none
def flatKs : List Shp → Option (List IntKind)
 | [] => some []
 | f :: fs => match flatK f, flatKs fs with
   | some a, some b => some (a ++ b)
   | _, _ => none
end
mutual
def inr : (e : Shp) → e.D → Prop
 | .int k, x => k.has x
 | .str, x => x.size ≤ 140737488351232
 | .sl .byte, x => (x : List UInt8).length ≤ 140737488351232
 | .st fs, x => inrs fs x
 | _, _ => True
def inrs : (fs : List Shp) → Shp.Ds fs → Prop
 | [], _ => True
 | f :: fs, x => inr f x.1 ∧ inrs fs x.2
end
def Flat : List IntKind → List Value → Prop
 | [], [] => True
 | k :: ks, v :: vs => (∃ n, v = .int k n ∧ k.has n) ∧ Flat ks vs
 | _, _ => False
theorem flat_append : ∀ (a b : List IntKind) (cs : List Value), Flat (a ++ b) cs → ∃ u v, cs = u ++ v ∧ Flat a u ∧ Flat b v
 | [], b, cs, h => ⟨[], cs, rfl, trivial, h⟩
 | k :: a, b, [], h => h.elim
 | k :: a, b, c :: cs, h => by
   obtain ⟨h1, h2⟩ := h
   obtain ⟨u, v, rfl, h3, h4⟩ := flat_append a b cs h2
   exact ⟨c :: u, v, rfl, ⟨h1, h3⟩, h4⟩
mutual
theorem rep_flat {w : World} {Z : Nat → Prop} : ∀ (e : Shp) (ks : List IntKind) (cs : List Value), flatK e = some ks → Flat ks cs → ∃ x, Shp.rep w Z e x cs ∧ inr e x
 | .int k, ks, cs, h, hf => by
   cases h
   cases cs with
   | nil => exact hf.elim
   | cons c cs =>
     obtain ⟨⟨n, rfl, hn⟩, h2⟩ := hf
     cases cs with
     | nil => exact ⟨n, rfl, hn⟩
     | cons => exact h2.elim
 | .st fs, ks, cs, h, hf => reps_flat fs ks cs h hf
 | .byte, ks, cs, h, hf => by cases h
 | .bool, ks, cs, h, hf => by cases h
 | .str, ks, cs, h, hf => by cases h
 | .sl _, ks, cs, h, hf => by cases h
theorem reps_flat {w : World} {Z : Nat → Prop} : ∀ (fs : List Shp) (ks : List IntKind) (cs : List Value), flatKs fs = some ks → Flat ks cs → ∃ x, Shp.reps w Z fs x cs ∧ inrs fs x
 | [], ks, cs, h, hf => by
   cases h
   cases cs with
   | nil => exact ⟨(), rfl, trivial⟩
   | cons => exact hf.elim
 | f :: fs, ks, cs, h, hf => by
   simp only [flatKs] at h
   split at h
   ·rename_i a b h1 h2
    cases h
    obtain ⟨u, v, rfl, h3, h4⟩ := flat_append a b cs hf
    obtain ⟨x, hx, hx'⟩ := rep_flat f a u h1 h3
    obtain ⟨y, hy, hy'⟩ := reps_flat fs b v h2 h4
    exact ⟨(x, y), ⟨u, v, rfl, hx, hy⟩, hx', hy'⟩
   ·cases h
end
theorem flat_of : ∀ (ks : List IntKind) (cs : List Value), cs.length = ks.length → (∀ (i : Nat) (k : IntKind) (v : Value), ks[i]? = some k → cs[i]? = some v → ∃ n, v = .int k n ∧ k.has n) → Flat ks cs
 | [], [], _, _ => trivial
 | [], _ :: _, h, _ => by cases h
 | _ :: _, [], h, _ => by cases h
 | k :: ks, v :: cs, h, hc => ⟨hc 0 k v rfl rfl, flat_of ks cs (by simpa using h) (fun i k' v' h1 h2 => hc (i + 1) k' v' h1 h2)⟩
def kindsAre (P : Program) : List TypeId → List IntKind → Bool
 | [], [] => true
 | t :: ts, k :: ks => (match P.underlying t with
   | some (.int k') => decide (k' = k)
   | _ => false) && kindsAre P ts ks
 | _, _ => false
theorem kindsAre_at {P : Program} : ∀ (ts : List TypeId) (ks : List IntKind), kindsAre P ts ks = true → ts.length = ks.length ∧ ∀ (i : Nat) (t : TypeId) (k : IntKind), ts[i]? = some t → ks[i]? = some k → P.underlying t = some (.int k)
 | [], [], _ => ⟨rfl, fun i t k h => by simp at h⟩
 | [], _ :: _, h => by simp [kindsAre] at h
 | _ :: _, [], h => by simp [kindsAre] at h
 | t :: ts, k :: ks, h => by
   simp only [kindsAre, Bool.and_eq_true] at h
   obtain ⟨h1, h2⟩ := h
   obtain ⟨h3, h4⟩ := kindsAre_at ts ks h2
   refine ⟨by simp [h3], fun i t' k' ht hk => ?_⟩
   cases i with
   | zero =>
     simp at ht hk
     subst ht hk
     revert h1
     split
     ·rename_i k' hu
      intro h
      rw [hu, of_decide_eq_true h]
     ·intro h; cases h
   | succ i => exact h4 i t' k' (by simpa using ht) (by simpa using hk)
def flatOk (P : Program) (t : TypeId) (e : Shp) : Bool := match P.underlying t, P.cellTypes P.depth t, flatK e with
 | some (.struct _), some ts, some ks => isSt e && (kindsAre P ts ks && decide (P.cellsOf t = ks.length))
 | _, _, _ => false
def ArgRep (w : World) (e : Shp) (x : e.D) (v : Value) : Prop := ∃ cs, v = argV e cs ∧ Shp.rep w (fun k => k < w.heap.size) e x cs
theorem argsRep_nil {w : World} : ArgsRep w [] () [] := rfl
theorem argsRep_cons {w : World} {e : Shp} {az : List Shp} {x : e.D} {y : Shp.Ds az} {v : Value} {vs : List Value} (h : ArgRep w e x v) (h' : ArgsRep w az y vs) : ArgsRep w (e :: az) (x, y) (v :: vs) := by
 obtain ⟨cs, rfl, h1⟩ := h
 exact ⟨cs, vs, rfl, h1, h'⟩
theorem open_flat {P : Program} {w : World} {r : Reach} {b0 : Nat} {t : TypeId} {v : Value} (e : Shp) (h : flatOk P t e = true) (hv : Value.okWide P w r b0 t v) (W : World) :
    ∃ x, ArgRep W e x v ∧ inr e x := by
 unfold flatOk at h
 split at h
 ·rename_i fs ts ks ht hts he
  simp only [Bool.and_eq_true] at h
  obtain ⟨hs, hk, hl⟩ := h
  have hl := of_decide_eq_true hl
  simp only [Value.okWide, ht] at hv
  obtain ⟨cs, rfl, h1, ts', h2, _, h3⟩ := hv
  rw [hts] at h2
  cases h2
  obtain ⟨k1, k2⟩ := kindsAre_at ts ks hk
  have hlen : cs.toList.length = ks.length := by simp [h1, hl]
  have hf : Flat ks cs.toList := flat_of ks cs.toList hlen (fun i k v hk hv => by
   obtain ⟨u, hu, hc⟩ := h3 i v (by simpa using hv)
   have hi : i < ts.length := by
    have := (List.getElem?_eq_some_iff.1 hk).1
    omega
   rw [Nat.mod_eq_of_lt hi] at hu
   have := k2 i u k hu hk
   simp only [Cell.okWide, this, Cell.ok] at hc
   cases v <;> simp_all)
  obtain ⟨x, hx, hx'⟩ := rep_flat (w := W) (Z := fun k => k < W.heap.size) e ks cs.toList he hf
  exact ⟨x, ⟨cs.toList, by simp [argV, hs], hx⟩, hx'⟩
 ·cases h
theorem open_intV {P : Program} {w : World} {r : Reach} {b0 : Nat} {t : TypeId} {v : Value} {k : IntKind} (ht : P.underlying t = some (.int k)) (hv : Value.okWide P w r b0 t v) (W : World) :
    ∃ x : Int, ArgRep W (.int k) x v ∧ k.has x := by
 simp only [Value.okWide, ht, Cell.okWide, Cell.ok] at hv
 cases v with
 | int k' n => obtain ⟨rfl, h⟩ := hv; exact ⟨n, ⟨_, rfl, rfl⟩, h⟩
 | _ => exact hv.elim
theorem open_boolV {P : Program} {w : World} {r : Reach} {b0 : Nat} {t : TypeId} {v : Value} (ht : P.underlying t = some .bool) (hv : Value.okWide P w r b0 t v) (W : World) :
    ∃ x : Bool, ArgRep W .bool x v := by
 simp only [Value.okWide, ht, Cell.okWide, Cell.ok] at hv
 cases v with
 | bool b => exact ⟨b, _, rfl, rfl⟩
 | _ => exact hv.elim
theorem argRep_bytes {w : World} {a : Option Addr} {len cap : Nat} {l : List UInt8} (h : Bs w a len cap l) : ArgRep w (.sl .byte) l (.slice a len cap) := ⟨_, rfl, rep_bytes h⟩
theorem argRep_str {w : World} {x : ByteArray} : ArgRep w .str x (.string x) := ⟨_, rfl, rfl⟩
end Go.Proofs.Ytkeefgiajogkkaa.V
