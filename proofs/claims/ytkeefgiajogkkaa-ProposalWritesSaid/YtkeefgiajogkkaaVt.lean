/- The walker: append. -/
import Derived.Test.YtkeefgiajogkkaaVu
set_option linter.unusedVariables false
set_option linter.unusedSimpArgs false
namespace Go.Proofs.Ytkeefgiajogkkaa.V
open Go.RowKit
structure Src (α : Type) where
 x : Unit → List α
 ob : List (Unit → Prop)
 ids : List Nat
def srcE (H : List Ent) (G : List FE) (e : Shp) : SV → Option (Src e.D)
 | .val (.slice none 0 0) => some ⟨fun _ => [], [], []⟩
 | .fv id => match findE G id with
   | some f => match f.c with
     | .rows e' y => match shEq e' e with
       | true => some ⟨fun u => convL e' e (y u), [], [id]⟩
       | false => none
     | _ => none
   | none => none
 | .osl b o m cap => match cellsE H b with
   | some cs => match nBle m cap && nBle cap 1000000 && nBle o (lenL cs) with
     | true => match decN (fun l => dec H G e l) m (dropL o cs) with
       | some d => match d.bs with
         | [] => some ⟨d.x, d.ob, d.ids⟩
         | _ => none
       | none => none
     | false => none
   | none => none
 | _ => none
def frzIds : List FE → List Nat → List FE
 | G, [] => G
 | G, id :: l => match findE G id with
   | some f => match f.c with
     | .rows _ _ => frzIds (replE G (freeze f)) l
     | _ => frzIds G l
   | none => frzIds G l
def alsOf (G : List FE) : List Nat → List Nat
 | [] => []
 | id :: l => match findE G id with
   | some f => catN f.al (alsOf G l)
   | none => alsOf G l
def allSh (G : List FE) : List Nat → Bool
 | [] => true
 | id :: l => (match findE G id with
   | some f => !f.own && (match f.c with | .rows _ _ => true | _ => false)
   | none => false) && allSh G l
def obApp {α : Type} (by_ : Nat) (y z : Unit → List α) : Unit → Prop := fun u => ((y u).length + (z u).length) * by_ ≤ 140737488355328 ∧ (y u).length + (z u).length ≤ 140737488355328
def keptG (e : Shp) (G : List FE) (ids : List Nat) : List FE := match flat e with
 | true => G
 | false => frzIds G ids
def appE (T : TT) (Y : TypeId → Option Nat) (S : TypeId → Option Shp) (H : List Ent) (G : List FE) (n : Nat) (t : TypeId) (s x : SV) : Option (List (Unit → Prop) × List FE) :=
 match TT.look T t with
 | some ⟨.slice te, _, _⟩ => match TT.look T te, Y te with
   | some j, some b => match s with
     | .val (.slice none 0 0) => match S te with
       | some e => match nBeq j.size e.size && nBlt 0 e.size && nBeq (lenL j.zero) j.size with
         | true => match srcE H G e x with
           | some d0 => match srcE H (keptG e G d0.ids) e x with
             | some d => match flat e with
               | true => some (obApp b (fun _ => ([] : List e.D)) d.x :: d.ob, ⟨n, true, te, [], .rows e (fun u => [] ++ d.x u)⟩ :: keptG e G d0.ids)
               | false => match allSh (keptG e G d0.ids) d.ids with
                 | true => some (obApp b (fun _ => ([] : List e.D)) d.x :: d.ob, ⟨n, true, te, alsOf (keptG e G d0.ids) d.ids, .rows e (fun u => [] ++ d.x u)⟩ :: keptG e G d0.ids)
                 | false => none
             | none => none
           | none => none
         | false => none
       | none => none
     | .fv id => match findE G id with
       | some f0 => match f0.c with
         | .rows e y0 => match nBeq j.size e.size && nBlt 0 e.size && nBeq (lenL j.zero) j.size with
           | true => match srcE H G e x with
             | some d0 => match findE (keptG e G d0.ids) id, srcE H (keptG e G d0.ids) e x with
               | some f, some d => match f.own && nBeq f.t te, f.c with
                 | true, .rows e2 y => match shEq e2 e with
                   | true => match flat e with
                     | true => some (obApp b (fun u => convL e2 e (y u)) d.x :: d.ob, ⟨n, true, te, f.al, .rows e (fun u => convL e2 e (y u) ++ d.x u)⟩ :: replE (keptG e G d0.ids) (deadE f))
                     | false => match allSh (keptG e G d0.ids) d.ids with
                       | true => some (obApp b (fun u => convL e2 e (y u)) d.x :: d.ob, ⟨n, true, te, catN f.al (alsOf (keptG e G d0.ids) d.ids), .rows e (fun u => convL e2 e (y u) ++ d.x u)⟩ :: replE (keptG e G d0.ids) (deadE f))
                       | false => none
                   | false => none
                 | _, _ => none
               | _, _ => none
             | none => none
           | false => none
         | _ => none
       | none => none
     | _ => none
   | _, _ => none
 | _ => none
section zap
variable {P : Program} (w : World)
theorem mul_small {m b : Nat} (hb : m * b ≤ 140737488355328) : ¬ (281474976710656 < (m : Int) * (b : Int)) := by
 rw [← Int.natCast_mul]; omega
theorem run_z_room (t ti ty e : TypeId) (i : TypeInfo) (z : Value) (k : IntKind) (ht : P.underlying t = some (.slice e)) (hti : P.underlying ti = some (.int k)) (hi : P.info? e = some i) (hz : i.zero = some z)
    (g sLen sCap m : Nat) (cur : Array Value) (hg : w.heap[g]? = some (.cells cur e (0, 0))) (hm : m ≤ 140737488355328) (hb : m * i.bytes ≤ 140737488355328) (hroom : sLen + m ≤ sCap) (h1 : ∀ u ∈ (Builtin.zeroCells z.cells m).toList, u.oneCell' = true) (hpos : 0 < m * i.size)
    (hfit : sLen * i.size + (Builtin.zeroCells z.cells m).toList.length ≤ cur.size) :
    (Builtin.append_ #[t, ti] ty #[.slice (some ⟨g, 0, none⟩) sLen sCap, .int .i64 m]).run P w = .ok (.slice (some ⟨g, 0, none⟩) (sLen + m) sCap) (w.setRow g (cur.toList.take (sLen * i.size) ++ (Builtin.zeroCells z.cells m).toList ++ cur.toList.drop (sLen * i.size + (Builtin.zeroCells z.cells m).toList.length)).toArray) := by
 have hst := run_storeCells_at P g (sLen * i.size) e (Builtin.zeroCells z.cells m).toList 0 cur w hg (by simpa only [Nat.add_zero] using hfit) h1
 simp only [Nat.add_zero] at hst
 generalize (w.setRow g (cur.toList.take (sLen * i.size) ++ (Builtin.zeroCells z.cells m).toList ++ cur.toList.drop (sLen * i.size + (Builtin.zeroCells z.cells m).toList.length)).toArray) = W at hst ⊢
 have hw : IntKind.i64.wrap (m : Int) = m := by rw [IntKind.wrap_i64]; omega
 have hb' := mul_small hb
 have hne : ¬ (m * i.size = 0) := by omega
 have hn0 : ¬ ((m : Int) < 0) := by omega
 have hA : ∀ w, (asIntOf (.int .i64 (m : Int))).run P w = .ok (.i64, (m : Int)) w := fun w => by simp [asIntOf]
 simp [Builtin.append_, run_underlying ht, run_underlying hti, sizeOf, typeInfo, hi, zeroValue, hz, asInt, hA, hw, hb', hroom, hne, hn0, Addr.add_lit, hst]
theorem run_z_none (t ti ty e : TypeId) (i : TypeInfo) (k : IntKind) (ht : P.underlying t = some (.slice e)) (hti : P.underlying ti = some (.int k)) (hi : P.info? e = some i)
    (a : Option Addr) (sLen sCap : Nat) (hroom : sLen ≤ sCap) :
    (Builtin.append_ #[t, ti] ty #[.slice a sLen sCap, .int .i64 (0 : Nat)]).run P w = .ok (.slice a sLen sCap) w := by
 have hw : IntKind.i64.wrap ((0 : Nat) : Int) = 0 := by rw [IntKind.wrap_i64]; omega
 have hA : ∀ w, (asIntOf (.int .i64 ((0 : Nat) : Int))).run P w = .ok (.i64, ((0 : Nat) : Int)) w := fun w => by simp [asIntOf]
 have hA' : ∀ w, (asIntOf (.int .i64 0)).run P w = .ok (.i64, 0) w := fun w => by simp [asIntOf]
 have hw' : IntKind.i64.wrap 0 = 0 := hw
 cases a <;> simp [Builtin.append_, run_underlying ht, run_underlying hti, sizeOf, typeInfo, hi, asInt, hA', hw', hroom, Addr.add_lit, storeCells]
theorem run_z_grow (t ti ty e : TypeId) (i : TypeInfo) (z : Value) (k : IntKind) (ht : P.underlying t = some (.slice e)) (hti : P.underlying ti = some (.int k)) (hi : P.info? e = some i) (hz : i.zero = some z) (base : Option Addr) (sLen sCap m : Nat) (olds : List Value)
    (hold : (Builtin.firstCells i.size sLen (.slice base sLen sCap)).run P w.drew = .ok olds.toArray w.drew) (hm : m ≤ 140737488355328) (hb : m * i.bytes ≤ 140737488355328) (hpos : 0 < m * i.size)
    (hg : sCap < sLen + m) (h63 : ((sLen + m : Nat) : Int) ≤ 9223372036854775807) (hfit : Builtin.nextslicecap (sLen + m) sCap * i.bytes ≤ 281474976710656) :
    (Builtin.append_ #[t, ti] ty #[.slice base sLen sCap, .int .i64 m]).run P w =
     .ok (.slice (some ⟨w.heap.size, 0, none⟩) (sLen + m) (grownCap w (sLen + m) sCap e))
      (w.drew.alloc (.cells (olds.toArray ++ (Builtin.zeroCells z.cells m).toList.toArray ++ Builtin.zeroCells z.cells (grownCap w (sLen + m) sCap e - (sLen + m))) e)) := by
 have hn : ¬ (sLen + m ≤ sCap) := by omega
 have h63' : ¬ (9223372036854775807 < ((sLen : Int) + (m : Int))) := by omega
 have h48' : ¬ (281474976710656 < Builtin.nextslicecap (sLen + m) sCap * i.bytes) := by omega
 have hw : IntKind.i64.wrap (m : Int) = m := by rw [IntKind.wrap_i64]; omega
 have hb' := mul_small hb
 have hne : ¬ (m * i.size = 0) := by omega
 have hn0 : ¬ ((m : Int) < 0) := by omega
 have hmx : max (m : Int) 0 = m := by omega
 have hA : ∀ w, (asIntOf (.int .i64 (m : Int))).run P w = .ok (.i64, (m : Int)) w := fun w => by simp [asIntOf]
 simp [Builtin.append_, run_underlying ht, run_underlying hti, sizeOf, typeInfo, zeroValue, hi, hz, asInt, hA, hw, hb', hn, hne, hn0, hmx, h63', h48', Question.forced, hold, newRow, grownCap]
theorem run_append_genz (t ti ty e : TypeId) (i : TypeInfo) (z : Value) (k : IntKind) (size bytes : Nat) (ht : P.underlying t = some (.slice e)) (hti : P.underlying ti = some (.int k)) (hi : P.info? e = some i) (hz : i.zero = some z)
    (hsize : i.size = size) (hby : i.bytes = bytes) (hzs : z.cells.size = size) (hsz : 0 < size)
    (v : Value) (n : Nat) (xs : List Value) (hown : w.ownsRow 0 e size v n xs)
    (m : Nat) (h1 : ∀ u ∈ (Builtin.zeroCells z.cells m).toList, u.oneCell' = true)
    (h47 : n + m ≤ 140737488355328) (hbytes : (n + m) * bytes ≤ 140737488355328) :
    ∃ v' w', (Builtin.append_ #[t, ti] ty #[v, .int .i64 m]).run P w = .ok v' w' ∧ w'.ownsRow 0 e size v' (n + m) (xs ++ (Builtin.zeroCells z.cells m).toList) ∧ w.grownBy w' v.ownBlock ∧ ∀ k, v'.ownBlock = some k → v.ownBlock = some k ∨ k = w.heap.size := by
 subst hsize
 subst hby
 have h63 : n + m ≤ maxLen := by simp only [maxLen]; omega
 have hsmall : n + m ≤ 9223372036854775807 := by omega
 have hm47 : m ≤ 140737488355328 := by omega
 have hmb : m * i.bytes ≤ 140737488355328 := Nat.le_trans (Nat.mul_le_mul_right _ (by omega)) hbytes
 have hl : (Builtin.zeroCells z.cells m).toList.length = m * i.size := by rw [Array.length_toList, size_zeroCells, hzs]
 generalize hnews : (Builtin.zeroCells z.cells m).toList = news at hl h1
 have hlen : (xs ++ news).length = (n + m) * i.size := by rw [List.length_append, hown.1, hl, Nat.add_mul]
 by_cases hm : m = 0
 ·subst hm
  have hn : news = [] := List.eq_nil_of_length_eq_zero (by simpa using hl)
  subst hn
  refine ⟨v, w, ?_, by simpa using hown, ⟨rfl, rfl, rfl, Nat.le_refl _, fun _ _ _ => rfl⟩, fun k hk => .inl hk⟩
  rcases hown.2 with ⟨rfl, rfl⟩ | ⟨g, cap, cur, rfl, _, _, hnc, _⟩
  ·exact run_z_none w t ti ty e i k ht hti hi none 0 0 (Nat.le_refl _)
  ·exact run_z_none w t ti ty e i k ht hti hi _ n cap hnc
 have hpos : 0 < m * i.size := Nat.mul_pos (by omega) hsz
 have grown : ∀ (old : Nat), old < n + m → ∀ (row : Option Nat),
     (w.drew.alloc (.cells (xs.toArray ++ news.toArray ++ Builtin.zeroCells z.cells (grownCap w (n + m) old e - (n + m))) e)).ownsRow 0 e i.size
      (.slice (some ⟨w.heap.size, 0, none⟩) (n + m) (grownCap w (n + m) old e)) (n + m) (xs ++ news) ∧
     w.grownBy (w.drew.alloc (.cells (xs.toArray ++ news.toArray ++ Builtin.zeroCells z.cells (grownCap w (n + m) old e - (n + m))) e)) row := by
  intro old ho row
  have hge := grownCap_ge w (n + m) old e
  have hcm : grownCap w (n + m) old e ≤ maxLen := grownCap_le_maxLen w (n + m) old e h63
  refine ⟨⟨hlen, .inr ⟨w.heap.size, _, _, rfl, Nat.zero_le _, heap_alloc_new w.drew _, hge, hcm, ?_, ?_⟩⟩, ⟨rfl, rfl, rfl, by simp, fun k hk _ => heap_alloc_old w.drew _ hk⟩⟩
  ·simp only [Array.size_append, List.size_toArray, size_zeroCells, hzs, hown.1, hl, ← Nat.add_mul]
   congr 1
   omega
  ·simp only [Array.toList_append, List.append_assoc]
   rw [← List.append_assoc, ← hlen]
   exact List.take_left
 rcases hown.2 with ⟨rfl, rfl⟩ | ⟨g, cap, cur, rfl, hbg, hg, hnc, hcm, hcs, htake⟩
 ·have hx : xs = [] := List.eq_nil_of_length_eq_zero (by simpa using hown.1)
  subst hx
  have hr := run_z_grow (P := P) w t ti ty e i z k ht hti hi hz none 0 0 m [] (by simp [Builtin.firstCells]) hm47 hmb hpos (by omega) (by omega) (growslice_fits (by omega) hbytes)
  rw [hnews] at hr
  have hgr := grown 0 (by omega) (Value.ownBlock (.slice none 0 0))
  refine ⟨_, _, hr, hgr.1, hgr.2, fun k hk => ?_⟩
  simp [Value.ownBlock] at hk
  exact .inr hk.symm
 ·by_cases hroom : n + m ≤ cap
  ·have hfit : n * i.size + news.length ≤ cur.size := by rw [hl, hcs, ← Nat.add_mul]; exact Nat.mul_le_mul_right _ hroom
   have hr := run_z_room (P := P) w t ti ty e i z k ht hti hi hz g n cap m cur hg hm47 hmb hroom (by rw [hnews]; exact h1) hpos (by rw [hnews]; exact hfit)
   rw [hnews] at hr
   refine ⟨_, _, hr, ⟨hlen, .inr ⟨g, cap, _, rfl, hbg, setRow_heap w g cur _ e _ hg, hroom, hcm, ?_, ?_⟩⟩, ⟨rfl, rfl, rfl, by simp, fun k _ hk => setRow_other w g k _ (fun e => hk (by simp [Value.ownBlock, e]))⟩, fun k hk => .inl hk⟩
   ·simp only [List.size_toArray, List.length_append, List.length_take, List.length_drop, Array.length_toList]
    omega
   ·rw [htake, ← hlen]
    exact List.take_left
  ·have holds : ∀ j u, xs[j]? = some u → w.cell? ((⟨g, 0, none⟩ : Addr).add j) = some u := hown.cells (g := g) rfl
   have hr := run_z_grow (P := P) w t ti ty e i z k ht hti hi hz (some ⟨g, 0, none⟩) n cap m xs (run_firstCells_some _ _ _ _ _ _ _ hown.1 holds) hm47 hmb hpos (by omega) (by omega) (growslice_fits (by omega) hbytes)
   rw [hnews] at hr
   have hgr := grown cap (by omega) (Value.ownBlock (.slice (some ⟨g, 0, none⟩) n cap))
   refine ⟨_, _, hr, hgr.1, hgr.2, fun k hk => ?_⟩
   simp [Value.ownBlock] at hk
   exact .inr hk.symm
end zap
section app
variable {E : Env} {ρ : Nm} {w : World} {H : List Ent} {G : List FE} {P : Program} {T : TT}
theorem frz_sound : ∀ (ids : List Nat) (G : List FE), Hp E ρ H G w → Hp E ρ H (frzIds G ids) w ∧ ∀ ρ'', Agr ρ ρ'' H (frzIds G ids) → Agr ρ ρ'' H G
 | [], G, hh => ⟨hh, fun _ h => h⟩
 | id :: l, G, hh => by
   unfold frzIds
   split
   ·rename_i f hf
    split
    ·rename_i e x hc
     obtain ⟨k1, k2⟩ := hh.freeze hf hc
     obtain ⟨k3, k4⟩ := frz_sound l _ k1
     exact ⟨k3, fun ρ'' hr => k2 ρ'' (k4 ρ'' hr)⟩
    ·exact frz_sound l G hh
   ·exact frz_sound l G hh
theorem kept_sound (hh : Hp E ρ H G w) (e : Shp) (ids : List Nat) : Hp E ρ H (keptG e G ids) w ∧ ∀ ρ'', Agr ρ ρ'' H (keptG e G ids) → Agr ρ ρ'' H G := by
 unfold keptG
 split
 ·exact ⟨hh, fun _ h => h⟩
 ·exact frz_sound ids G hh
theorem mem_allSh : ∀ {ids : List Nat}, allSh G ids = true → ∀ id ∈ ids, ∃ f, findE G id = some f ∧ f.own = false ∧ ∃ e x, f.c = .rows e x
 | [], _, id, h => by cases h
 | i :: l, h, id, hm => by
   simp only [allSh, Bool.and_eq_true] at h
   rcases List.mem_cons.1 hm with rfl | hm
   ·have h1 := h.1
    split at h1
    ·rename_i f hf
     simp only [Bool.and_eq_true, Bool.not_eq_true'] at h1
     refine ⟨f, hf, h1.1, ?_⟩
     have h2 := h1.2
     split at h2
     ·rename_i e x hc; exact ⟨e, x, hc⟩
     ·cases h2
    ·cases h1
   ·exact mem_allSh h.2 id hm
theorem mem_alsOf : ∀ {ids : List Nat} {id : Nat} {f : FE} {j : Nat}, id ∈ ids → findE G id = some f → j ∈ f.al → j ∈ alsOf G ids
 | i :: l, id, f, j, hm, hf, hj => by
   unfold alsOf
   rcases List.mem_cons.1 hm with rfl | hm
   ·rw [hf]
    simp only [catN_eq]
    exact List.mem_append_left _ hj
   ·split
    ·rw [catN_eq]; exact List.mem_append_right _ (mem_alsOf hm hf hj)
    ·exact mem_alsOf hm hf hj
theorem zok_ids (hh : Hp E ρ H G w) {ids : List Nat} (h : allSh G ids = true) : Zok E ρ H G w (alsOf G ids) (DFoot ρ G ids []) := by
 have one : ∀ k, DFoot ρ G ids [] k → ∃ id ∈ ids, ∃ f, findE G id = some f ∧ f ∈ G ∧ f.own = false ∧ (∃ e x, f.c = .rows e x) ∧ f.foot ρ k := by
  rintro k (⟨id, hid, f, hf, hk⟩ | ⟨b, hb, _⟩)
  ·obtain ⟨f', hf', h1, h2⟩ := mem_allSh h id hid
   rw [hf] at hf'
   cases hf'
   exact ⟨id, hid, f, hf, (findE_mem hf).1, h1, h2, hk⟩
  ·cases hb
 refine ⟨fun k hk => ?_, fun e he hk => ?_, fun g hg k hx hk => ?_, fun k hk => ?_⟩
 ·obtain ⟨id, hid, f, hf, hm, ho, ⟨e, x, hc⟩, hk⟩ := one k hk
  exact hh.foot_lt hm hk
 ·obtain ⟨id, hid, f, hf, hm, ho, _, hk⟩ := one _ hk
  exact hh.apart e he f hm hk
 ·obtain ⟨id, hid, f, hf, hm, ho, ⟨e, x, hc⟩, hk⟩ := one k hk
  have hz := hh.zok hm hc (hh.sep hm)
  rw [ho] at hz
  exact hz.G g hg k hx hk
 ·obtain ⟨id, hid, f, hf, hm, ho, _, hk⟩ := one k hk
  rcases hh.al f hm k hk with h | ⟨j, hj, h⟩
  ·exact .inl h
  ·exact .inr ⟨j, mem_alsOf hid hf hj, h⟩
structure SrcOk (ρ : Nm) (w : World) (G : List FE) (e : Shp) (v : SV) (d : Src e.D) : Prop where
 ex : ∃ s news, v.den ρ = Sl.val s ∧ s.n = (d.x ()).length ∧ news.length = (d.x ()).length * e.size ∧ Reads w (fun _ => True) s.a news ∧
  ∀ i (h : i < (d.x ()).length), Shp.rep w (DFoot ρ G d.ids []) e (d.x ())[i] (chunk news i e.size)
theorem src_sound (hh : Hp E ρ H G w) {e : Shp} {v : SV} {d : Src e.D} (h : srcE H G e v = some d) (ho : ∀ p ∈ d.ob, p ()) : SrcOk ρ w G e v d := by
 unfold srcE at h
 split at h
 ·cases h
  exact ⟨⟨none, 0, 0⟩, [], by simp only [SV.den, Sl.val], rfl, by simp, .inl rfl, fun i hi => by simp at hi⟩
 ·rename_i id
  split at h
  ·rename_i f hf
   split at h
   ·rename_i e' y hc
    cases hq : shEq e' e with
    | false => rw [hq] at h; cases h
    | true =>
      rw [hq] at h
      have := shEq_eq hq
      subst this
      cases h
      obtain ⟨hm, hid⟩ := findE_mem hf
      obtain ⟨hb, cs, h1, h2, h3⟩ := FE.reads (hh.facts f hm) hc
      rw [hid] at hb h2
      have hz : ∀ k, f.foot ρ k → DFoot ρ G [id] [] k := fun k hk => .inl ⟨id, List.mem_cons_self, f, hf, hk⟩
      refine ⟨ρ.s id, cs, by simp only [SV.den], by simp only [convL_self]; exact hb.len, by simp only [convL_self]; exact h1, h2.mono (fun _ _ => trivial) (fun _ _ => rfl), ?_⟩
      simp only [convL_self]
      exact fun i hi => Shp.rep_mono hz (fun _ _ => rfl) e' _ _ (h3 i hi)
   ·cases h
  ·cases h
 ·rename_i b o m cap
  split at h
  ·rename_i cs hcs
   cases hq : nBle m cap && nBle cap 1000000 && nBle o (lenL cs) with
   | false => rw [hq] at h; cases h
   | true =>
     rw [hq] at h
     simp only [] at h
     split at h
     ·rename_i d1 hd1
      split at h
      ·rename_i hbs
       cases h
       obtain ⟨he, hme, hid, hce⟩ := mem_cellsE hcs
       obtain ⟨used, h4, h5, h6, h7⟩ := decN_sound (sz := e.size) (fun Z a vs h => Shp.rep_length e a vs h) (fun l d h ho => dec_sound hh e l d h ho) m _ _ hd1 ho
       have hb := hh.block ρ (Agr.refl _ _ _) he hme
       rw [hid, hce] at hb
       refine ⟨⟨some ⟨ρ.b b, o, none⟩, m, cap⟩, SV.dens ρ used, by simp only [SV.den, Sl.val], h5.symm, by rw [dens_length, h6, h5], ?_, ?_⟩
       ·have := Reads.of_block (w := w) (Z := fun _ => True) hb trivial o used.length
        simp only [List.toList_toArray] at this
        rw [← dens_drop, ← dens_take, ← dropL_eq, h4, List.take_left] at this
        exact this
       ·rw [hbs] at h7
        exact h7 _ fun k hk => hk
      ·cases h
     ·cases h
  ·cases h
 ·cases h
theorem run_append_gen (t ty e : TypeId) (i : TypeInfo) (z : Value) (size bytes : Nat) (ht : P.underlying t = some (.slice e)) (hi : P.info? e = some i) (hz : i.zero = some z)
    (hsize : i.size = size) (hby : i.bytes = bytes) (hzs : z.cells.size = size) (hsz : 0 < size)
    (v : Value) (n : Nat) (xs : List Value) (hown : w.ownsRow 0 e size v n xs)
    (s : Sl) (news : List Value) (hl : news.length = s.n * size) (hnews : Reads w (fun _ => True) s.a news) (h1 : ∀ u ∈ news, u.oneCell' = true)
    (h63 : n + s.n ≤ maxLen) (hbytes : (n + s.n) * bytes ≤ 140737488355328) :
    ∃ v' w', (Builtin.append_ #[t, t] ty #[v, s.val]).run P w = .ok v' w' ∧ w'.ownsRow 0 e size v' (n + s.n) (xs ++ news) ∧ w.grownBy w' v.ownBlock ∧ ∀ k, v'.ownBlock = some k → v.ownBlock = some k ∨ k = w.heap.size := by
 obtain ⟨a, m, c⟩ := s
 simp only [Sl.val] at *
 have nothing : m = 0 → a = none → ∃ v' w', (Builtin.append_ #[t, t] ty #[v, .slice a m c]).run P w = .ok v' w' ∧ w'.ownsRow 0 e size v' (n + m) (xs ++ news) ∧ w.grownBy w' v.ownBlock ∧ ∀ k, v'.ownBlock = some k → v.ownBlock = some k ∨ k = w.heap.size := by
  rintro rfl rfl
  have : news = [] := List.eq_nil_of_length_eq_zero (by simpa using hl)
  subst this
  refine ⟨v, w, ?_, by simpa using hown, ⟨rfl, rfl, rfl, Nat.le_refl _, fun _ _ _ => rfl⟩, fun k hk => .inl hk⟩
  rcases hown.2 with ⟨rfl, hn⟩ | ⟨g, cap, cur, rfl, _, _, hnc, _⟩
  ·simp [Builtin.append_, run_underlying ht, sizeOf, typeInfo, hi, Builtin.lenOf, Builtin.firstCells]
  ·simp [Builtin.append_, run_underlying ht, sizeOf, typeInfo, hi, Builtin.lenOf, Builtin.firstCells, hnc, storeCells]
 have some' : ∀ ad : Addr, a = some ad → (∀ j u, news[j]? = some u → w.cell? (ad.add j) = some u) → ∃ v' w', (Builtin.append_ #[t, t] ty #[v, .slice a m c]).run P w = .ok v' w' ∧ w'.ownsRow 0 e size v' (n + m) (xs ++ news) ∧ w.grownBy w' v.ownBlock ∧ ∀ k, v'.ownBlock = some k → v.ownBlock = some k ∨ k = w.heap.size := by
  rintro ad rfl hc
  obtain ⟨v', w', hr, k1, k2, k3⟩ := run_append_own (P := P) w 0 t ty e i z size bytes ht hi hz hsize hby hzs hsz v n xs hown ad m c news hl hc h1 h63 hbytes (Nat.zero_le _)
  refine ⟨v', w', hr, k1, k2, fun k hk => ?_⟩
  subst hsize
  subst hby
  have hm63 : n + m ≤ 9223372036854775807 := by simp only [maxLen] at h63; omega
  rcases hown.2 with ⟨rfl, rfl⟩ | ⟨g, cap, cur, rfl, hbg, hg, hnc, hcm, hcs, htake⟩
  ·by_cases hm : m = 0
   ·rw [k3.2 ⟨rfl, hm⟩] at hk
    simp [Value.ownBlock] at hk
   ·have hr2 := run_append_nil (P := P) w t ty e i z ht hi hz ad m c news hl hc (by omega) (by omega) (by have hb := hbytes; simp only [Nat.zero_add] at hb; omega)
    rw [hr2] at hr
    simp only [Result.ok.injEq] at hr
    rw [← hr.1] at hk
    simp [Value.ownBlock] at hk
    exact .inr hk.symm
  ·by_cases hroom : n + m ≤ cap
   ·have hfit : n * i.size + news.length ≤ cur.size := by rw [hl, hcs, ← Nat.add_mul]; exact Nat.mul_le_mul_right _ hroom
    have hr2 := run_append_room (P := P) w t ty e i ht hi g n cap cur hg ad m c news hl hc h1 hroom hfit
    rw [hr2] at hr
    simp only [Result.ok.injEq] at hr
    rw [← hr.1] at hk
    exact .inl hk
   ·have holds : ∀ j u, xs[j]? = some u → w.cell? ((⟨g, 0, none⟩ : Addr).add j) = some u := hown.cells (g := g) rfl
    have hr2 := run_append_grow (P := P) w t ty e i z ht hi hz ⟨g, 0, none⟩ n cap xs hown.1 holds ad m c news hl hc (by omega) (by omega) (growslice_fits (by omega) hbytes)
    rw [hr2] at hr
    simp only [Result.ok.injEq] at hr
    rw [← hr.1] at hk
    simp [Value.ownBlock] at hk
    exact .inr hk.symm
 rcases hnews with h | ⟨b, off, ha, _, hc⟩
 ·subst h
  have hm : m = 0 := by
   rcases Nat.mul_eq_zero.1 hl.symm with h | h
   ·exact h
   ·omega
  cases ha : a with
  | none => rw [← ha]; exact nothing hm ha
  | some ad => rw [← ha]; exact some' ad ha fun j u hu => by simp at hu
 ·exact some' _ ha fun j u hu => by rw [add_plain]; exact hc j u hu
theorem one_of_chunks {α : Type} {r : α → List Value → Prop} {xs : List α} {cs : List Value} {sz : Nat} (hl : cs.length = xs.length * sz) (hsz : 0 < sz) (h : ∀ i (h : i < xs.length), r xs[i] (chunk cs i sz)) (h1 : ∀ a vs, r a vs → ∀ v ∈ vs, v.oneCell' = true) : ∀ u ∈ cs, u.oneCell' = true := by
 intro u hu
 obtain ⟨j, hj, rfl⟩ := List.getElem_of_mem hu
 have hi : j / sz < xs.length := by
  rw [hl] at hj
  exact Nat.div_lt_of_lt_mul (by rw [Nat.mul_comm]; exact hj)
 refine h1 _ _ (h (j / sz) hi) _ ?_
 unfold chunk
 refine List.mem_of_getElem? (i := j % sz) ?_
 rw [List.getElem?_take, if_pos (Nat.mod_lt _ hsz), List.getElem?_drop, Nat.mul_comm, Nat.div_add_mod, List.getElem?_eq_getElem hj]
theorem app_put (hE : E.ok) {G2 : List FE} (hh : Hp E ρ H G2 w) {n : Nat} (hfr : Fresh E n H G2) {te : TypeId} {e : Shp} (hsz : 0 < e.size)
    {v : Value} {y : List e.D} {Z0 : Nat → Prop} (hown : ∃ cs, w.ownsRow 0 te e.size v y.length cs ∧ ∀ i (h : i < y.length), Shp.rep w Z0 e y[i] (chunk cs i e.size))
    (hblk : ∀ k, v.ownBlock = some k → (E.may k ∨ E.B ≤ k) ∧ (∀ x ∈ H, ρ.b x.id ≠ k) ∧ (∀ g ∈ G2, ¬ g.foot ρ k))
    {x : List e.D} {news : List Value} (hl : news.length = x.length * e.size) {Z1 : Nat → Prop} (hrep : ∀ i (h : i < x.length), Shp.rep w Z1 e x[i] (chunk news i e.size))
    (h63 : y.length + x.length ≤ 140737488355328) {X : Sem Value} (hX : ∀ cs, w.ownsRow 0 te e.size v y.length cs → ∃ v' w', X.run P w = .ok v' w' ∧ w'.ownsRow 0 te e.size v' (y.length + x.length) (cs ++ news) ∧ w.grownBy w' v.ownBlock ∧ ∀ k, v'.ownBlock = some k → v.ownBlock = some k ∨ k = w.heap.size)
    {al : List Nat} {Z : Nat → Prop} (hbal : ∀ k, v.ownBlock = some k → E.B ≤ k ∨ ∃ j ∈ al, E.z0 j k) (hzok : Zok E ρ H G2 w al Z) (hzb : ∀ k, v.ownBlock = some k → ¬ Z k) (hsub : flat e = true ∨ ((∀ k, Z0 k → Z k) ∧ ∀ k, Z1 k → Z k)) {c : Unit → List e.D} (hc : c () = y ++ x) :
    ∃ v' w' s', X.run P w = .ok v' w' ∧ v' = Sl.val s' ∧ Hp E (ρ.setS n s' Z) H (⟨n, true, te, al, .rows e c⟩ :: G2) w' ∧ (∀ ρ'', Agr (ρ.setS n s' Z) ρ'' H (⟨n, true, te, al, .rows e c⟩ :: G2) → Agr ρ ρ'' H G2 ∧ ρ''.s n = s') ∧
      (∀ k, k < w.heap.size → v.ownBlock ≠ some k → w'.heap[k]? = w.heap[k]?) := by
 obtain ⟨cs, hcs, hrc⟩ := hown
 have hcsl := hcs.1
 obtain ⟨v', w', hr, k1, k2, k3⟩ := hX cs hcs
 have hlen : (c ()).length = y.length + x.length := by rw [hc, List.length_append]
 -- the new slice's head
 obtain ⟨s', hs', hcap⟩ : ∃ s' : Sl, v' = s'.val ∧ Bd s' (c ()).length := by
  rcases k1.2 with ⟨rfl, h0⟩ | ⟨g, cap, cur, rfl, _, _, h4, h5, _⟩
  ·exact ⟨⟨none, 0, 0⟩, rfl, ⟨by simp only; omega, by simp only; omega, by simp, by omega⟩⟩
  ·exact ⟨⟨some ⟨g, 0, none⟩, y.length + x.length, cap⟩, rfl, ⟨by simp only; omega, by simp only; omega, by simpa [maxLen] using h5, by omega⟩⟩
 subst hs'
 have hkeepB : BelowX E.B E.may w w' := ⟨k2.os, k2.tape, k2.output, k2.size, fun k hk hm => k2.block k (Nat.lt_of_lt_of_le hk hh.size) fun e0 => by rcases (hblk k e0.symm).1 with h | h; exact hm h; omega⟩
 have same : ∀ k, k < w.heap.size → v.ownBlock ≠ some k → w'.heap[k]? = w.heap[k]? := fun k hk hne => k2.block k hk fun e0 => hne e0.symm
 have hh' : Hp E ρ H G2 w' := hh.change (hE.keepX _ _ hh.keep hkeepB) k2.size (fun e0 he => same _ (hh.lt he) fun hk => (hblk _ hk).2.1 e0 he rfl) fun g hg k hk => same k (hh.foot_lt hg hk) fun hk2 => (hblk k hk2).2.2 g hg hk
 have hzs' : ∀ k, Z k → w'.heap[k]? = w.heap[k]? := fun k hk => same k (hzok.lt k hk) fun hk2 => hzb k hk2 hk
 have hsn : (ρ.setS n s' Z).s n = s' := by simp [Nm.setS]
 have hzn : (ρ.setS n s' Z).z n = Z := by simp [Nm.setS]
 have htop : ∀ k, (⟨n, true, te, al, .rows e c⟩ : FE).top (ρ.setS n s' Z) k → v.ownBlock = some k ∨ k = w.heap.size := by
  rintro k ⟨a, ha, rfl⟩
  rw [show (⟨n, true, te, al, .rows e c⟩ : FE).id = n from rfl, hsn] at ha
  exact k3 _ (by simp [Sl.val, Value.ownBlock, ha])
 have hfo : ∀ k, (⟨n, true, te, al, .rows e c⟩ : FE).foot (ρ.setS n s' Z) k → Z k ∨ v.ownBlock = some k ∨ k = w.heap.size := by
  intro k hk
  unfold FE.foot at hk
  simp only [hzn] at hk
  rcases hk with hk | ⟨_, hk⟩
  ·exact .inl hk
  ·exact .inr (htop k hk)
 have hex : ∀ k, (⟨n, true, te, al, .rows e c⟩ : FE).excl (ρ.setS n s' Z) k → v.ownBlock = some k ∨ k = w.heap.size := fun k hk => htop k hk.2
 obtain ⟨q1, q2⟩ := hh'.add ⟨n, true, te, al, .rows e c⟩ hfr s' Z (fun T => by simp) (by
  unfold FE.holds
  simp only [hzn, hsn]
  refine ⟨fun k hk => Nat.lt_of_lt_of_le (hzok.lt k hk) k2.size, hcap, ⟨cs ++ news, by rw [hlen]; exact k1, fun j hj => ?_⟩, ?_⟩
  ·rw [hlen] at hj
   have hw : ∀ (Z2 : Nat → Prop) (a : e.D) (vs : List Value), Shp.rep w Z2 e a vs → (flat e = true ∨ ∀ k, Z2 k → Z k) → Shp.rep w' Z e a vs := by
    intro Z2 a vs h hf
    rcases hf with hf | hf
    ·exact flat_rep e a vs hf h
    ·exact Shp.rep_mono (fun _ h => h) hzs' e a vs (Shp.rep_mono hf (fun _ _ => rfl) e a vs h)
   have hget : (c ())[j]'(by rw [hlen]; exact hj) = (y ++ x)[j]'(by rw [List.length_append]; exact hj) := by simp only [hc]
   rw [hget]
   by_cases hj1 : j < y.length
   ·rw [List.getElem_append_left hj1, chunk_append_left hcsl hj1]
    exact hw Z0 _ _ (hrc j hj1) (hsub.imp (fun h => h) fun h => h.1)
   ·rw [List.getElem_append_right (by omega)]
    have e0 : j = y.length + (j - y.length) := by omega
    have := chunk_append_right (cs := cs) (ds := news) (n := y.length) (sz := e.size) (i := j - y.length) hcsl
    rw [← e0] at this
    rw [this]
    exact hw Z1 _ _ (hrep (j - y.length) (by omega)) (hsub.imp (fun h => h) fun h => h.2)
  ·intro a ha hza
   have := htop a.block ⟨a, by rw [show (⟨n, true, te, al, .rows e c⟩ : FE).id = n from rfl, hsn]; exact ha, rfl⟩
   rcases this with h | h
   ·exact hzb _ h hza
   ·have := hzok.lt _ hza
    omega) (fun e' x' he => by cases he; exact hsz)
  (fun e0 he hk => by
   rcases hfo _ hk with h | h | h
   ·exact hzok.H e0 he h
   ·exact (hblk _ h).2.1 e0 he rfl
   ·have := hh.lt he; omega)
  (fun g hg k => ⟨fun hk hk2 => by
   rcases hex k hk with h | h
   ·exact (hblk k h).2.2 g hg hk2
   ·have := hh.foot_lt hg hk2; omega, fun hk hk2 => by
   rcases hfo k hk2 with h | h | h
   ·exact hzok.G g hg k hk h
   ·exact (hblk k h).2.2 g hg (FE.excl_foot hk)
   ·have := hh.foot_lt hg (FE.excl_foot hk); omega⟩)
  (fun k hk => by
   rcases hex k hk with h | h
   ·exact (hblk k h).1
   ·have := hh.size; exact .inr (by omega))
  (fun k hk => by
   rcases hfo k hk with h | h | h
   ·exact hzok.al k h
   ·exact hbal k h
   ·have := hh.size; exact .inl (by omega))
 exact ⟨s'.val, w', s', hr, rfl, q1, q2, same⟩
theorem app_core (hE : E.ok) {G2 : List FE} (hh : Hp E ρ H G2 w) {n : Nat} (hfr : Fresh E n H G2) {t te : TypeId} (ht : P.underlying t = some (.slice te)) {i : TypeInfo} (hi : P.info? te = some i) {z : Value} (hz : i.zero = some z) {e : Shp} (hsize : i.size = e.size) (hzs : z.cells.size = e.size) (hsz : 0 < e.size)
    (ty : TypeId) {v : Value} {y : List e.D} {Z0 : Nat → Prop} (hown : ∃ cs, w.ownsRow 0 te e.size v y.length cs ∧ ∀ i (h : i < y.length), Shp.rep w Z0 e y[i] (chunk cs i e.size))
    (hblk : ∀ k, v.ownBlock = some k → (E.may k ∨ E.B ≤ k) ∧ (∀ x ∈ H, ρ.b x.id ≠ k) ∧ (∀ g ∈ G2, ¬ g.foot ρ k))
    {s : Sl} {x : List e.D} (hs : s.n = x.length) {news : List Value} (hl : news.length = x.length * e.size) (hnews : Reads w (fun _ => True) s.a news) {Z1 : Nat → Prop} (hrep : ∀ i (h : i < x.length), Shp.rep w Z1 e x[i] (chunk news i e.size))
    (h63 : y.length + x.length ≤ 140737488355328) (hbytes : (y.length + x.length) * i.bytes ≤ 140737488355328)
    {al : List Nat} {Z : Nat → Prop} (hbal : ∀ k, v.ownBlock = some k → E.B ≤ k ∨ ∃ j ∈ al, E.z0 j k) (hzok : Zok E ρ H G2 w al Z) (hzb : ∀ k, v.ownBlock = some k → ¬ Z k) (hsub : flat e = true ∨ ((∀ k, Z0 k → Z k) ∧ ∀ k, Z1 k → Z k)) {c : Unit → List e.D} (hc : c () = y ++ x) :
    ∃ v' w' s', (Builtin.append_ #[t, t] ty #[v, s.val]).run P w = .ok v' w' ∧ v' = Sl.val s' ∧ Hp E (ρ.setS n s' Z) H (⟨n, true, te, al, .rows e c⟩ :: G2) w' ∧ (∀ ρ'', Agr (ρ.setS n s' Z) ρ'' H (⟨n, true, te, al, .rows e c⟩ :: G2) → Agr ρ ρ'' H G2 ∧ ρ''.s n = s') ∧
      (∀ k, k < w.heap.size → v.ownBlock ≠ some k → w'.heap[k]? = w.heap[k]?) :=
 app_put hE hh hfr hsz hown hblk hl hrep h63 (X := Builtin.append_ #[t, t] ty #[v, s.val]) (fun cs hcs => by
  have one := one_of_chunks hl hsz hrep fun a vs h => Shp.rep_one e a vs h
  have := run_append_gen (P := P) (w := w) t ty te i z e.size i.bytes ht hi hz hsize rfl hzs hsz v y.length cs hcs s news (by rw [hs]; exact hl) hnews one (by rw [hs]; simp only [maxLen]; omega) (by rw [hs]; exact hbytes)
  rw [hs] at this
  exact this) hbal hzok hzb hsub hc
end app
end Go.Proofs.Ytkeefgiajogkkaa.V
