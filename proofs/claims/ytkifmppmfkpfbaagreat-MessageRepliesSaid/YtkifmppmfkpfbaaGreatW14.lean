import Derived.Test.YtkifmppmfkpfbaaGreatW13
set_option linter.unusedVariables false
set_option linter.unusedSimpArgs false
namespace Go.Proofs.YtkifmppmfkpfbaaGreat.V
open Go.RowKit
section
structure Fin (p : Unit → Prop) : Prop where
 ok : p ()
def isSt : Shp → Bool
 | .st _ => true
 | _ => false
def argC (e : Shp) (v : SV) : Option (List SV) := match isSt e with
 | true => match v with
   | .agg cs => some cs
   | _ => none
 | false => some [v]
def decArgs (H : List Ent) (G : List FE) : (as9 : List Shp) → List SV → Option (Dc (Shp.Ds as9))
 | [] => fun l => match l with
   | [] => some ⟨fun _ => (), [], [], [], []⟩
   | _ :: _ => none
 | e :: as9 => fun l => match l with
   | [] => none
   | v :: l => match argC e v with
     | some cs => match dec H G e cs with
       | some d => match d.rest with
         | [] => match decArgs H G as9 l with
           | some r => some ⟨fun u => (d.x u, r.x u), [], catP d.ob r.ob, catN d.ids r.ids, catN d.bs r.bs⟩
           | none => none
         | _ => none
       | none => none
     | none => none
def packS (e : Shp) (cs : List SV) : SV := match isSt e with
 | true => .agg cs
 | false => match cs with
   | v :: _ => v
   | [] => .val undef
def svArgs : (as9 : List Shp) → (Unit → Shp.Ds as9) → Nat → Option (List SV × List FE)
 | [], _, _ => some ([], [])
 | e :: as9, x, i => match lfVs [i] (leaves e fun u => (x u).1) (50 * i), svArgs as9 (fun u => (x u).2) (i + 1) with
   | some (cs, a), some (vs, b) => some (packS e cs :: vs, catE a b)
   | _, _ => none
def retC : List Shp → SV → Option (List SV)
 | [_], v => some [v]
 | _, .tup l => some l
 | _, _ => none
def isNilN : List Nat → Bool
 | [] => true
 | _ => false
def catB : List Bool → List Bool → List Bool
 | [], m => m
 | x :: l, m => x :: catB l m
mutual
def kinds : Shp → List Bool
 | .sl _ => [true]
 | .st fs => kindss fs
 | _ => [false]
def kindss : List Shp → List Bool
 | [] => []
 | f :: fs => catB (kinds f) (kindss fs)
end
def flatC : List Shp → List SV → Option (List SV)
 | [] => fun l => match l with
   | [] => some []
   | _ :: _ => none
 | e :: as9 => fun l => match l with
   | [] => none
   | v :: l => match argC e v, flatC as9 l with
     | some cs, some r => some (catL cs r)
     | _, _ => none
def okRes (G : List FE) : List SV → List Bool → List TypeId → List Nat → Bool
 | [], [], _, _ => true
 | _ :: l, false :: k, ts, u => okRes G l k ts u
 | v :: l, true :: k, t :: ts, u => match v with
   | .fv i => (match findE G i with
     | some f => f.own && isNilN f.al && nBeq f.t t && !memN i u
     | none => false) && okRes G l k ts (i :: u)
   | .val (.slice none 0 0) => okRes G l k ts u
   | _ => false
 | _, _, _, _ => false
def retPost (rs : List Shp) (ts : List TypeId) (post : Shp.Ds rs → Prop) (v : SV) (s : St) : Prop :=
 match retC rs v with
 | some l => match decArgs s.heap s.ents rs l, flatC rs l with
   | some d, some cs => (okRes s.ents cs (kindss rs) ts [] && isNilN d.bs) = true ∧ obsK d.ob (Fin fun u => post (d.x u))
   | _, _ => False
 | none => False
def lfR : Lf → List TypeId → Nat → Option (SV × List FE × List TypeId)
 | .int k f, ts, _ => some (.int k (.t f), [], ts)
 | .byte f, ts, _ => some (.int .u8 (.t fun u => Int.ofNat (f u).toNat), [], ts)
 | .bool f, ts, _ => some (.bool (.t f), [], ts)
 | .str f, ts, _ => some (.str f, [], ts)
 | .sl e f, t :: ts, n => match nBlt 0 e.size with
   | true => some (.fv n, [⟨n, true, t, [], .rows e f⟩], ts)
   | false => none
 | _, _, _ => none
def lfRs : List Lf → List TypeId → Nat → Option (List SV × List FE)
 | [], _, _ => some ([], [])
 | l :: r, ts, n => match lfR l ts n with
   | some (v, a, ts') => match lfRs r ts' (n + 1) with
     | some (vs, b) => some (v :: vs, catE a b)
     | none => none
   | none => none
section ret
variable {E : Env} {ρ : Nm} {w : World} {H : List Ent} {G : List FE}
def RL (ρ : Nm) (G : List FE) (v : SV) : Lf → Prop
 | .int k f => v.den ρ = .int k (f ())
 | .byte f => v.den ρ = .int .u8 (f ()).toNat
 | .bool f => v.den ρ = .bool (f ())
 | .str f => v.den ρ = .string (f ())
 | .sl e f => (v = .val (.slice none 0 0) ∧ f () = []) ∨ ∃ i g x, v = .fv i ∧ findE G i = some g ∧ g.c = .rows e x ∧ x () = f ()
theorem append_nil_both {l m : List Nat} (h : l ++ m = []) : l = [] ∧ m = [] := List.append_eq_nil_iff.1 h
mutual
theorem dec_leaves (hh : Hp E ρ H G w) : ∀ (e : Shp) (l : List SV) (d : Dc e.D), dec H G e l = some d → (∀ p ∈ d.ob, p ()) → d.bs = [] → ∃ used, l = used ++ d.rest ∧ All2 (RL ρ G) used (leaves e (fun _ => d.x ()))
 | .int k, l, d, h, ho, hb => by
   have := (dec_sound hh (.int k) l d h ho).ex
   obtain ⟨used, h1, h2⟩ := this
   have h3 := h2 (fun _ => True) fun _ _ => trivial
   match used, h3 with
   | [v], h3 =>
     simp only [SV.dens] at h3
     have : v.den ρ = .int k (d.x ()) := by
      have := show [v.den ρ] = [Value.int k (d.x ())] from h3
      simpa using this
     exact ⟨[v], h1, this, trivial⟩
   | [], h3 => exact absurd (show ([] : List Value) = [Value.int k (d.x ())] from h3) (by simp)
   | _ :: _ :: _, h3 => exact absurd (Shp.rep_length _ _ _ h3) (by simp [SV.dens, Shp.size])
 | .byte, l, d, h, ho, hb => by
   obtain ⟨used, h1, h2⟩ := (dec_sound hh .byte l d h ho).ex
   have h3 := h2 (fun _ => True) fun _ _ => trivial
   match used, h3 with
   | [v], h3 =>
     simp only [SV.dens] at h3
     have : v.den ρ = .int .u8 (UInt8.toNat (d.x ())) := by
      have := show [v.den ρ] = [Value.int .u8 (UInt8.toNat (d.x ()))] from h3
      simpa using this
     exact ⟨[v], h1, this, trivial⟩
   | [], h3 => exact absurd (Shp.rep_length _ _ _ h3) (by simp [SV.dens, Shp.size])
   | _ :: _ :: _, h3 => exact absurd (Shp.rep_length _ _ _ h3) (by simp [SV.dens, Shp.size])
 | .bool, l, d, h, ho, hb => by
   obtain ⟨used, h1, h2⟩ := (dec_sound hh .bool l d h ho).ex
   have h3 := h2 (fun _ => True) fun _ _ => trivial
   match used, h3 with
   | [v], h3 =>
     simp only [SV.dens] at h3
     have : v.den ρ = .bool (d.x ()) := by
      have := show [v.den ρ] = [Value.bool (d.x ())] from h3
      simpa using this
     exact ⟨[v], h1, this, trivial⟩
   | [], h3 => exact absurd (Shp.rep_length _ _ _ h3) (by simp [SV.dens, Shp.size])
   | _ :: _ :: _, h3 => exact absurd (Shp.rep_length _ _ _ h3) (by simp [SV.dens, Shp.size])
 | .str, l, d, h, ho, hb => by
   obtain ⟨used, h1, h2⟩ := (dec_sound hh .str l d h ho).ex
   have h3 := h2 (fun _ => True) fun _ _ => trivial
   match used, h3 with
   | [v], h3 =>
     simp only [SV.dens] at h3
     have : v.den ρ = .string (d.x ()) := by
      have := show [v.den ρ] = [Value.string (d.x ())] from h3
      simpa using this
     exact ⟨[v], h1, this, trivial⟩
   | [], h3 => exact absurd (Shp.rep_length _ _ _ h3) (by simp [SV.dens, Shp.size])
   | _ :: _ :: _, h3 => exact absurd (Shp.rep_length _ _ _ h3) (by simp [SV.dens, Shp.size])
 | .sl e, l, d, h, ho, hb => by
   simp only [dec] at h
   unfold decL at h
   split at h
   ·cases h
    exact ⟨[_], rfl, .inl ⟨rfl, rfl⟩, trivial⟩
   ·rename_i id r
    split at h
    ·rename_i g hg
     split at h
     ·rename_i e' x hc
      cases hq : shEq e' e with
      | false => rw [hq] at h; cases h
      | true =>
        rw [hq] at h
        have := shEq_eq hq
        subst this
        cases h
        exact ⟨[_], rfl, .inr ⟨id, g, x, rfl, hg, hc, by simp only [convL_self]⟩, trivial⟩
     ·cases h
    ·cases h
   ·split at h
    ·split at h
     ·split at h
      ·cases h
       cases hb
      ·cases h
     ·cases h
    ·cases h
   ·cases h
 | .st fs, l, d, h, ho, hb => by
   simp only [dec] at h
   exact decs_leaves hh fs l d h ho hb
theorem decs_leaves (hh : Hp E ρ H G w) : ∀ (fs : List Shp) (l : List SV) (d : Dc (Shp.Ds fs)), decs H G fs l = some d → (∀ p ∈ d.ob, p ()) → d.bs = [] → ∃ used, l = used ++ d.rest ∧ All2 (RL ρ G) used (leavess fs (fun _ => d.x ()))
 | [], l, d, h, ho, hb => by
   simp only [decs] at h
   cases h
   exact ⟨[], rfl, trivial⟩
 | f :: fs, l, d, h, ho, hb => by
   simp only [decs] at h
   split at h
   ·rename_i d1 hd1
    split at h
    ·rename_i r1 hr1
     cases h
     simp only [catP_eq, catN_eq] at ho hb ⊢
     obtain ⟨b1, b2⟩ := append_nil_both hb
     obtain ⟨u1, e1, h1⟩ := dec_leaves hh f _ _ hd1 (fun p hp => ho p (List.mem_append_left _ hp)) b1
     obtain ⟨u2, e2, h2⟩ := decs_leaves hh fs _ _ hr1 (fun p hp => ho p (List.mem_append_right _ hp)) b2
     refine ⟨u1 ++ u2, by rw [e1, e2, List.append_assoc], ?_⟩
     simp only [leavess, catF_eq]
     exact h1.append h2
    ·cases h
   ·cases h
end
theorem decN_bs {α : Type} {Q : Nat → Prop} {f : List SV → Option (Dc α)} (hf : ∀ l d, f l = some d → ∀ b ∈ d.bs, Q b) : ∀ (n : Nat) (l : List SV) (d : Dc (List α)), decN f n l = some d → ∀ b ∈ d.bs, Q b
 | 0, l, d, h => by unfold decN at h; cases h; intro b hb; cases hb
 | n + 1, l, d, h => by
   unfold decN at h
   split at h
   ·rename_i d1 hd1
    split at h
    ·rename_i r1 hr1
     cases h
     intro b hb
     simp only [catN_eq] at hb
     rcases List.mem_append.1 hb with hb | hb
     ·exact hf _ _ hd1 b hb
     ·exact decN_bs hf n _ _ hr1 b hb
    ·cases h
   ·cases h
mutual
theorem dec_bs : ∀ (e : Shp) (l : List SV) (d : Dc e.D), dec H G e l = some d → ∀ b ∈ d.bs, ∃ x ∈ H, x.id = b
 | .int k, l, d, h => by
   simp only [dec] at h
   unfold decI at h
   split at h
   ·split at h
    ·cases h; intro b hb; cases hb
    ·cases h
   ·cases h
 | .byte, l, d, h => by
   simp only [dec] at h
   unfold decY at h
   split at h
   ·split at h
    ·cases h; intro b hb; cases hb
    ·cases h
   ·cases h
 | .bool, l, d, h => by
   simp only [dec] at h
   unfold decB at h
   split at h
   ·cases h; intro b hb; cases hb
   ·cases h
 | .str, l, d, h => by
   simp only [dec] at h
   unfold decS at h
   split at h
   ·split at h
    ·cases h; intro b hb; cases hb
    ·cases h
   ·cases h
 | .sl e, l, d, h => by
   simp only [dec] at h
   unfold decL at h
   split at h
   ·cases h; intro b hb; cases hb
   ·split at h
    ·split at h
     ·split at h
      ·cases h; intro b hb; cases hb
      ·cases h
     ·cases h
    ·cases h
   ·split at h
    ·rename_i cs hcs
     split at h
     ·split at h
      ·rename_i d1 hd1
       cases h
       intro b hb
       rcases List.mem_cons.1 hb with rfl | hb
       ·obtain ⟨x, hx, hid, _⟩ := mem_cellsE hcs
        exact ⟨x, hx, hid⟩
       ·exact decN_bs (fun l d h => dec_bs e l d h) _ _ _ hd1 b hb
      ·cases h
     ·cases h
    ·cases h
   ·cases h
 | .st fs, l, d, h => by
   simp only [dec] at h
   exact decs_bs fs l d h
theorem decs_bs : ∀ (fs : List Shp) (l : List SV) (d : Dc (Shp.Ds fs)), decs H G fs l = some d → ∀ b ∈ d.bs, ∃ x ∈ H, x.id = b
 | [], l, d, h => by simp only [decs] at h; cases h; intro b hb; cases hb
 | f :: fs, l, d, h => by
   simp only [decs] at h
   split at h
   ·rename_i d1 hd1
    split at h
    ·rename_i r1 hr1
     cases h
     intro b hb
     simp only [catN_eq] at hb
     rcases List.mem_append.1 hb with hb | hb
     ·exact dec_bs f _ _ hd1 b hb
     ·exact decs_bs fs _ _ hr1 b hb
    ·cases h
   ·cases h
end
theorem DFoot.lt (hh : Hp E ρ H G w) {ids bs : List Nat} (hb : ∀ b ∈ bs, ∃ x ∈ H, x.id = b) {k : Nat} (h : DFoot ρ G ids bs k) : k < w.heap.size := by
 rcases h with ⟨id, _, f, hf, hk⟩ | ⟨b, hbm, rfl⟩
 ·exact hh.foot_lt (findE_mem hf).1 hk
 ·obtain ⟨x, hx, rfl⟩ := hb b hbm
  exact hh.lt hx
theorem packS_den {e : Shp} {v : SV} {cs svs : List SV} {ρ ρ' : Nm} (h : argC e v = some cs) (hd : SV.dens ρ' svs = SV.dens ρ cs) : (packS e svs).den ρ' = v.den ρ := by
 unfold argC at h
 unfold packS
 cases hs : isSt e with
 | true =>
   rw [hs] at h
   simp only at h ⊢
   split at h
   ·cases h
    simp only [SV.den, hd]
   ·cases h
 | false =>
   rw [hs] at h
   cases h
   match svs, hd with
   | [x], hd => simpa [SV.dens] using hd
   | [], hd => simp [SV.dens] at hd
   | _ :: _ :: _, hd => simp [SV.dens] at hd
def callEnv (w : World) (z0 : Nat → Nat → Prop) (lo hi : Nat) (ρ : Nm) : Env := ⟨Below w.heap.size w, w.heap.size, fun _ => False, z0, lo, hi, ρ, []⟩
theorem callEnv_ok (w : World) (z0 : Nat → Nat → Prop) (lo hi : Nat) (ρ : Nm) : (callEnv w z0 lo hi ρ).ok := ⟨fun w1 w2 h1 h2 => Below.trans h1 (h2.below fun _ _ h => h)⟩
theorem hp_empty (w : World) (z0 : Nat → Nat → Prop) (lo hi : Nat) (ρ : Nm) : Hp (callEnv w z0 lo hi ρ) ρ [] [] w :=
 ⟨Below.refl _ _, Nat.le_refl _, fun e he => (by cases he), fun ρ' _ e he => (by cases he), fun e he => (by cases he), fun f hf => (by cases hf), fun f hf => (by cases hf), fun e he => (by cases he), List.Pairwise.nil, fun f hf => (by cases hf), fun f hf => (by cases hf), fun _ _ => ⟨rfl, rfl⟩⟩
theorem freshL_append {lo hi : Nat} {H : List Ent} {G : List FE} : ∀ {a b : List FE}, freshL lo hi H G (a ++ b) = true → freshL lo hi H G b = true ∧ freshL lo hi H (b ++ G) a = true
 | [], b, h => ⟨h, rfl⟩
 | f :: a, b, h => by
   simp only [List.cons_append, freshL, Bool.and_eq_true] at h
   obtain ⟨⟨⟨⟨⟨h1, h2⟩, h3⟩, h4⟩, h5⟩, h6⟩ := h
   obtain ⟨k1, k2⟩ := freshL_append h6
   have fg : ∀ {l m : List FE} {n : Nat}, freshG n (l ++ m) = true ↔ freshG n l = true ∧ freshG n m = true := by
    intro l m n
    induction l with
    | nil => simp [freshG]
    | cons x l ih => simp only [List.cons_append, freshG, Bool.and_eq_true, ih, and_assoc]
   obtain ⟨f1, f2⟩ := fg.1 h5
   refine ⟨k1, ?_⟩
   simp only [freshL, Bool.and_eq_true]
   exact ⟨⟨⟨⟨⟨h1, h2⟩, h3⟩, fg.2 ⟨f2, h4⟩⟩, f1⟩, k2⟩
theorem svArgs_sound (hh : Hp E ρ H G w) (z0 : Nat → Nat → Prop) (lo hi : Nat) (hz0 : ∀ i k, k < w.heap.size → z0 i k) : ∀ (as9 : List Shp) (l : List SV) (d : Dc (Shp.Ds as9)) (i : Nat) (svs : List SV) (ents : List FE), decArgs H G as9 l = some d → (∀ p ∈ d.ob, p ()) → svArgs as9 (fun _ => d.x ()) i = some (svs, ents) →
    freshL lo hi [] [] ents = true → (∃ ρc, Hp (callEnv w z0 lo hi ρ) ρc [] ents w ∧ ∀ ρ'', Agr ρc ρ'' [] ents → SV.dens ρ'' svs = SV.dens ρ l) ∧ ∀ f ∈ ents, f.own = false ∧ ∀ T, f.c ≠ .codes T
 | [], l, d, i, svs, ents, h, ho, hs, hfr => by
   unfold svArgs at hs
   cases hs
   simp only [decArgs] at h
   split at h
   ·exact ⟨⟨ρ, hp_empty w z0 lo hi ρ, fun _ _ => rfl⟩, fun f hf => by cases hf⟩
   ·cases h
 | e :: as9, l, d, i, svs, ents, h, ho, hs, hfr => by
   simp only [decArgs] at h
   split at h
   ·cases h
   ·rename_i v l
    split at h
    ·rename_i cs hcs
     split at h
     ·rename_i d1 hd1
      split at h
      ·rename_i hrest
       split at h
       ·rename_i r1 hr1
        cases h
        simp only [catP_eq] at ho
        simp only [svArgs] at hs
        split at hs
        ·rename_i svs1 a1 vs1 b1 h1 h2
         cases hs
         rw [catE_eq] at hfr ⊢
         obtain ⟨f1, f2⟩ := freshL_append hfr
         obtain ⟨⟨ρc, k1, k2⟩, k3⟩ := svArgs_sound hh z0 lo hi hz0 as9 l r1 (i + 1) vs1 b1 hr1 (fun p hp => ho p (List.mem_append_right _ hp)) h2 f1
         obtain ⟨used, e1, hrep⟩ := (dec_sound hh e cs d1 hd1 fun p hp => ho p (List.mem_append_left _ hp)).ex
         rw [hrest, List.append_nil] at e1
         subst e1
         have hrep := hrep (fun k => k < w.heap.size) fun k hk => DFoot.lt hh (dec_bs e _ _ hd1) hk
         have hz : Zok (callEnv w z0 lo hi ρ) ρc [] b1 w [i] (fun k => k < w.heap.size) := ⟨fun k hk => hk, fun e he => (by cases he), fun g hg k hk _ => by
          unfold FE.excl at hk
          split at hk
          ·exact hk
          ·rw [(k3 g hg).1] at hk; cases hk.1
          ·rename_i T hT; exact (k3 g hg).2 T hT, fun k hk => .inr ⟨i, List.mem_singleton_self _, hz0 i k hk⟩⟩
         have hl : freshL (callEnv w z0 lo hi ρ).lo (callEnv w z0 lo hi ρ).hi [] b1 a1 = true := by
          rw [List.append_nil] at f2
          exact f2
         obtain ⟨⟨ρ1, q1, q2, _, _⟩, q3⟩ := lfVs_sound _ _ svs1 a1 _ ρc h1 k1 hz ((rep_leaves e (fun _ => d1.x ()) _).1 hrep) hl
         refine ⟨⟨ρ1, q1, fun ρ'' hr => ?_⟩, fun f hf => ?_⟩
         ·obtain ⟨p1, p2⟩ := q2 ρ'' hr
          simp only [SV.dens]
          rw [packS_den hcs p2, k2 ρ'' p1]
         ·rcases List.mem_append.1 hf with hf | hf
          ·exact q3 f hf
          ·exact k3 f hf
        ·cases hs
       ·cases h
      ·cases h
     ·cases h
    ·cases h
theorem lfR_kinds : ∀ {l : Lf}, (∃ e f, l = .sl e f) ∨ ∀ ts n, ∃ v, lfR l ts n = some (v, [], ts) ∧ ∀ ρ, ∀ G v', RL ρ G v' l → ∀ ρ', v.den ρ' = v'.den ρ := by
 intro l
 cases l with
 | sl e f => exact .inl ⟨e, f, rfl⟩
 | int k f => exact .inr fun ts n => ⟨_, rfl, fun ρ G v' h ρ' => by rw [show v'.den ρ = _ from h]; simp only [SV.den, den_t]⟩
 | byte f => exact .inr fun ts n => ⟨_, rfl, fun ρ G v' h ρ' => by rw [show v'.den ρ = _ from h]; simp only [SV.den, den_t, Int.ofNat_eq_natCast]⟩
 | bool f => exact .inr fun ts n => ⟨_, rfl, fun ρ G v' h ρ' => by rw [show v'.den ρ = _ from h]; simp only [SV.den, bden_t]⟩
 | str f => exact .inr fun ts n => ⟨_, rfl, fun ρ G v' h ρ' => by rw [show v'.den ρ = _ from h]; simp only [SV.den]⟩
def isSl : Lf → Bool
 | .sl _ _ => true
 | _ => false
def kindsL : List Lf → List Bool
 | [] => []
 | l :: r => isSl l :: kindsL r
theorem catB_eq (l m : List Bool) : catB l m = l ++ m := by
 induction l with
 | nil => rfl
 | cons x l ih => simp [catB, ih]
theorem kindsL_append (l m : List Lf) : kindsL (l ++ m) = kindsL l ++ kindsL m := by
 induction l with
 | nil => rfl
 | cons x l ih => simp [kindsL, ih]
mutual
theorem kinds_leaves : ∀ (e : Shp) (x : Unit → e.D), kindsL (leaves e x) = kinds e
 | .int _, _ => rfl
 | .byte, _ => rfl
 | .bool, _ => rfl
 | .str, _ => rfl
 | .sl _, _ => rfl
 | .st fs, x => kindss_leaves fs x
theorem kindss_leaves : ∀ (fs : List Shp) (x : Unit → Shp.Ds fs), kindsL (leavess fs x) = kindss fs
 | [], _ => rfl
 | f :: fs, x => by
   simp only [leavess, catF_eq, kindsL_append, kindss, catB_eq]
   rw [kinds_leaves f, kindss_leaves fs]
end
theorem lfRs_sound {Ec : Env} {ρc : Nm} {Hc : List Ent} {Gc : List FE} {lo hi : Nat} (hlo : E.lo = lo) (hhi : E.hi = hi) (hc : Hp Ec ρc Hc Gc w) (hB : E.B ≤ Ec.B) (hHB : ∀ e ∈ H, ∀ ρ : Nm, True) :
    ∀ (L : List Lf) (cs : List SV) (ts : List TypeId) (used : List Nat) (n : Nat) (svs : List SV) (news : List FE) (ρ : Nm), lfRs L ts n = some (svs, news) → Hp E ρ H G w → (∀ e ∈ H, ρ.b e.id < Ec.B) → (∀ f ∈ G, ∀ k, f.foot ρ k → k < Ec.B) → All2 (RL ρc Gc) cs L → okRes Gc cs (kindsL L) ts used = true → freshL lo hi H G news = true →
    ∃ ρ', Hp E ρ' H (news ++ G) w ∧ (∀ ρ'', Agr ρ' ρ'' H (news ++ G) → Agr ρ ρ'' H G ∧ SV.dens ρ'' svs = SV.dens ρc cs) ∧ (∀ g ∈ G, ρ'.z g.id = ρ.z g.id) ∧
      ∀ f ∈ news, (∀ k, ¬ f.foot ρ' k) ∨ ∃ j g, findE Gc j = some g ∧ j ∉ used ∧ ∀ k, (f.foot ρ' k → g.foot ρc k) ∧ (f.excl ρ' k → g.excl ρc k)
 | [], cs, ts, used, n, svs, news, ρ, h, hh, hHb, hGb, ha, hk, hf => by
   unfold lfRs at h
   cases h
   match cs, ha with
   | [], _ => exact ⟨ρ, hh, fun ρ'' hr => ⟨hr, rfl⟩, fun _ _ => rfl, fun f hf => by cases hf⟩
   | _ :: _, ha => exact ha.elim
 | l :: r, cs, ts, used, n, svs, news, ρ, h, hh, hHb, hGb, ha, hk, hf => by
   unfold lfRs at h
   match cs, ha with
   | [], ha => exact ha.elim
   | v' :: cs, ha =>
   obtain ⟨hl, hta⟩ := ha
   split at h
   ·rename_i v a ts' h1
    split at h
    ·rename_i vs b h2
     cases h
     rw [catE_eq] at hf ⊢
     obtain ⟨f1, f2⟩ := freshL_append hf
     rcases lfR_kinds (l := l) with ⟨e, f, rfl⟩ | hsimple
     ·-- a slice
      match ts, h1 with
      | [], h1 => simp [lfR] at h1
      | t :: ts, h1 =>
      simp only [lfR] at h1
      cases hp : nBlt 0 e.size with
      | false => rw [hp] at h1; cases h1
      | true =>
        rw [hp] at h1
        cases h1
        rw [nBlt_iff] at hp
        simp only [kindsL, isSl] at hk
        simp only [freshL, Bool.and_eq_true, nBlt_iff] at f2
        obtain ⟨⟨⟨⟨⟨g1, g2⟩, g3⟩, g4⟩, _⟩, _⟩ := f2
        have put : ∀ (used' : List Nat) (s : Sl) (Z : Nat → Prop), okRes Gc cs (kindsL r) ts' used' = true → (∀ j, j ∉ used' → j ∉ used) → v'.den ρc = s.val →
            ((∀ ρ1 : Nm, ∀ k, ¬ (⟨n, true, t, [], .rows e f⟩ : FE).foot (ρ1.setS n s Z) k) ∨ ∃ j g, findE Gc j = some g ∧ j ∉ used ∧ j ∈ used' ∧ (g.own = true ∧ ∃ x, g.c = .rows e x) ∧ (∀ k, g.foot ρc k → Ec.B ≤ k) ∧ s = ρc.s j ∧ Z = ρc.z j) →
            (∀ ρ1 : Nm, (⟨n, true, t, [], .rows e f⟩ : FE).holds (ρ1.setS n s Z) w) →
            ∃ ρ', Hp E ρ' H ([⟨n, true, t, [], .rows e f⟩] ++ b ++ G) w ∧ (∀ ρ'', Agr ρ' ρ'' H ([⟨n, true, t, [], .rows e f⟩] ++ b ++ G) → Agr ρ ρ'' H G ∧ SV.dens ρ'' (.fv n :: vs) = SV.dens ρc (v' :: cs)) ∧ (∀ g ∈ G, ρ'.z g.id = ρ.z g.id) ∧
              ∀ f' ∈ [(⟨n, true, t, [], .rows e f⟩ : FE)] ++ b, (∀ k, ¬ f'.foot ρ' k) ∨ ∃ j g, findE Gc j = some g ∧ j ∉ used ∧ ∀ k, (f'.foot ρ' k → g.foot ρc k) ∧ (f'.excl ρ' k → g.excl ρc k) := by
         intro used' s Z hk' hsub hv' hfo hho
         obtain ⟨ρ', q1, q2, q3, q4⟩ := lfRs_sound hlo hhi hc hB hHB r cs ts' used' (n + 1) vs b ρ h2 hh hHb hGb hta hk' f1
         have hag := (q2 ρ' (Agr.refl _ _ _)).1
         -- the new entry's places
         have foot' : ∀ k, (⟨n, true, t, [], .rows e f⟩ : FE).foot (ρ'.setS n s Z) k → ∃ j g, findE Gc j = some g ∧ j ∉ used ∧ j ∈ used' ∧ g.foot ρc k ∧ Ec.B ≤ k := by
          intro k hk1
          rcases hfo with h0 | ⟨j, g, hj1, hj2, hj3, ⟨hj4, x, hj5⟩, hj6, rfl, rfl⟩
          ·exact absurd hk1 (h0 ρ' k)
          ·have : g.foot ρc k := by
             unfold FE.foot FE.top at hk1
             simp only [Nm.setS, if_true] at hk1
             unfold FE.foot FE.top
             rw [hj5, (findE_mem hj1).2]
             exact hk1.imp (fun h => h) fun h => ⟨.inl hj4, h.2⟩
           exact ⟨j, g, hj1, hj2, hj3, this, hj6 k this⟩
         have excl' : ∀ k, (⟨n, true, t, [], .rows e f⟩ : FE).excl (ρ'.setS n s Z) k → ∃ j g, findE Gc j = some g ∧ j ∉ used ∧ j ∈ used' ∧ g.excl ρc k := by
          intro k hk1
          rcases hfo with h0 | ⟨j, g, hj1, hj2, hj3, ⟨hj4, x, hj5⟩, hj6, rfl, rfl⟩
          ·exact absurd (FE.excl_foot hk1) (h0 ρ' k)
          ·have : g.excl ρc k := by
             unfold FE.excl FE.top at hk1
             simp only [Nm.setS, if_true] at hk1
             unfold FE.excl FE.top
             rw [hj5, (findE_mem hj1).2]
             exact ⟨hj4, hk1.2⟩
           exact ⟨j, g, hj1, hj2, hj3, this⟩
         have sepc : ∀ j g j' g', findE Gc j = some g → findE Gc j' = some g' → j ≠ j' → ∀ k, (g.excl ρc k → ¬ g'.foot ρc k) := by
          intro j g j' g' h1 h2 hne k hx
          rcases hc.sep (findE_mem h2).1 g (findE_mem h1).1 k hx with h | h
          ·exact h
          ·exfalso
           apply hne
           rw [← (findE_mem h1).2, ← (findE_mem h2).2, h]
         have gb : ∀ g ∈ G, ∀ k, g.foot ρ' k → k < Ec.B := by
          intro g hg k hk1
          rw [FE.foot_names (hag.2 g hg).1 (hag.2 g hg).2 (q3 g hg)] at hk1
          exact hGb g hg k hk1
         have hfr : Fresh E n H (b ++ G) := ⟨by rw [hlo]; exact nBle_le g1, by rw [hhi]; exact g2, freshE_mem g3, freshG_mem g4, freshG_nms g4⟩
         obtain ⟨k1, k2⟩ := q1.add ⟨n, true, t, [], .rows e f⟩ hfr s Z (fun T => by simp) (hho ρ') (fun e' x' he => by cases he; exact hp)
          (fun e' he hk1 => by
           obtain ⟨_, _, _, _, _, _, hB'⟩ := foot' _ hk1
           have := hHb e' he
           rw [hag.1 e' he] at hB'
           omega)
          (fun g hg k => by
           rcases List.mem_append.1 hg with hg | hg
           ·refine ⟨fun hx hk1 => ?_, fun hx hk1 => ?_⟩
            ·obtain ⟨j, g0, hj1, hj2, hj3, hjx⟩ := excl' k hx
             rcases q4 g hg with h0 | ⟨j', g', hj1', hj2', hh'⟩
             ·exact h0 k hk1
             ·exact sepc j g0 j' g' hj1 hj1' (fun e0 => hj2' (e0 ▸ hj3)) k hjx ((hh' k).1 hk1)
            ·obtain ⟨j, g0, hj1, hj2, hj3, hjf, _⟩ := foot' k hk1
             rcases q4 g hg with h0 | ⟨j', g', hj1', hj2', hh'⟩
             ·exact h0 k (FE.excl_foot hx)
             ·exact sepc j' g' j g0 hj1' hj1 (fun e0 => hj2' (e0 ▸ hj3)) k ((hh' k).2 hx) hjf
           ·refine ⟨fun hx hk1 => ?_, fun hx hk1 => ?_⟩
            ·obtain ⟨_, _, _, _, _, _, hB'⟩ := foot' k (FE.excl_foot hx)
             have := gb g hg k hk1
             omega
            ·obtain ⟨_, _, _, _, _, _, hB'⟩ := foot' k hk1
             have := gb g hg k (FE.excl_foot hx)
             omega)
          (fun k hx => by
           obtain ⟨_, _, _, _, _, _, hB'⟩ := foot' k (FE.excl_foot hx)
           exact .inr (by omega))
          (fun k hk1 => by
           obtain ⟨_, _, _, _, _, _, hB'⟩ := foot' k hk1
           exact .inl (by omega))
         refine ⟨_, k1, fun ρ'' hr => ?_, fun g hg => ?_, fun f' hf' => ?_⟩
         ·obtain ⟨p1, p2⟩ := k2 ρ'' hr
          obtain ⟨p3, p4⟩ := q2 ρ'' p1
          refine ⟨p3, ?_⟩
          simp only [SV.dens, SV.den, p4, hv']
          rw [show ρ''.s n = s from p2]
         ·have hne : g.id ≠ n := hfr.G g (List.mem_append_right _ hg)
          rw [← q3 g hg]
          simp [Nm.setS, hne]
         ·rcases List.mem_append.1 hf' with hf' | hf'
          ·rw [List.mem_singleton] at hf'
           subst hf'
           rcases hfo with h0 | ⟨j, g, hj1, hj2, hj3, ⟨hj4, x, hj5⟩, hj6, hj7, hj8⟩
           ·exact .inl (h0 ρ')
           ·refine .inr ⟨j, g, hj1, hj2, fun k => ⟨fun hk1 => ?_, fun hk1 => ?_⟩⟩
            ·subst hj7; subst hj8
             unfold FE.foot FE.top at hk1
             simp only [Nm.setS, if_true] at hk1
             unfold FE.foot FE.top
             rw [hj5, (findE_mem hj1).2]
             exact hk1.imp (fun h => h) fun h => ⟨.inl hj4, h.2⟩
            ·subst hj7; subst hj8
             unfold FE.excl FE.top at hk1
             simp only [Nm.setS, if_true] at hk1
             unfold FE.excl FE.top
             rw [hj5, (findE_mem hj1).2]
             exact ⟨hj4, hk1.2⟩
          ·have hne : f'.id ≠ n := hfr.G f' (List.mem_append_left _ hf')
           have e1 : f'.foot (ρ'.setS n s Z) = f'.foot ρ' := FE.foot_names rfl (by simp [Nm.setS, hne]) (by simp [Nm.setS, hne])
           have e2 : f'.excl (ρ'.setS n s Z) = f'.excl ρ' := FE.excl_names rfl (by simp [Nm.setS, hne])
           rcases q4 f' hf' with h0 | ⟨j, g, h1, h2, h3⟩
           ·exact .inl fun k => by rw [e1]; exact h0 k
           ·exact .inr ⟨j, g, h1, hsub j h2, fun k => by rw [e1, e2]; exact h3 k⟩
        rcases hl with ⟨rfl, hnil⟩ | ⟨j, g, x, rfl, hg, hgc, hx⟩
        ·simp only [okRes] at hk
         refine put used ⟨none, 0, 0⟩ (fun _ => False) hk (fun j h => h) (by simp only [SV.den, Sl.val]) (.inl fun ρ1 k hk1 => ?_) fun ρ1 => ?_
         ·unfold FE.foot FE.top at hk1
          simp only [Nm.setS, if_true] at hk1
          rcases hk1 with hk1 | ⟨_, y, hy, _⟩
          ·exact hk1
          ·cases hy
         ·unfold FE.holds
          simp only [Nm.setS, if_true, hnil]
          exact ⟨fun k hk => hk.elim, ⟨rfl, by simp, by simp, by simp⟩, ⟨[], World.ownsRow_nil w 0 t e.size, fun i hi => by simp at hi⟩, fun x hx => by simp at hx⟩
        ·simp only [okRes, hg, Bool.and_eq_true, Bool.not_eq_true'] at hk
         obtain ⟨⟨⟨⟨o1, o2⟩, o3⟩, o4⟩, o5⟩ := hk
         have o3 := nBeq_eq o3
         have hju : j ∉ used := fun h0 => by rw [memN_mem.2 h0] at o4; cases o4
         have hal : g.al = [] := by
          cases ha : g.al with
          | nil => rfl
          | cons _ _ => rw [ha] at o2; cases o2
         have hgid := (findE_mem hg).2
         refine put (j :: used) (ρc.s j) (ρc.z j) o5 (fun i hi h0 => hi (List.mem_cons_of_mem _ h0)) (by simp only [SV.den]) (.inr ⟨j, g, hg, hju, List.mem_cons_self, ⟨o1, x, hgc⟩, fun k hk1 => ?_, rfl, rfl⟩) fun ρ1 => ?_
         ·rcases hc.al g (findE_mem hg).1 k hk1 with h0 | ⟨q, hq, _⟩
          ·exact h0
          ·rw [hal] at hq; cases hq
         ·refine AsF.holds (g := ⟨n, true, t, [], .rows e f⟩) (ρ := ρc) (f := g) ⟨o1.symm, o3.symm, by rw [hgid]; simp [Nm.setS], by rw [hgid]; simp [Nm.setS], fun ⟨T, hT⟩ => (by rw [hgc] at hT; cases hT), .inr (.inl ⟨e, f, x, rfl, hgc, hx.symm⟩), fun k => by rw [hgc]; rfl⟩ (hc.facts g (findE_mem hg).1)
     ·-- a number or so
      obtain ⟨v0, h3, h4⟩ := hsimple ts n
      rw [h3] at h1
      cases h1
      have hisl : isSl l = false := by
       cases l with
       | sl e f =>
         obtain ⟨v0, h3, _⟩ := hsimple [] 0
         simp [lfR] at h3
       | _ => rfl
      simp only [kindsL, hisl, okRes] at hk
      obtain ⟨ρ', q1, q2, q3, q4⟩ := lfRs_sound hlo hhi hc hB hHB r cs ts used (n + 1) vs b ρ h2 hh hHb hGb hta hk f1
      refine ⟨ρ', q1, fun ρ'' hr => ?_, q3, q4⟩
      obtain ⟨p1, p2⟩ := q2 ρ'' hr
      exact ⟨p1, by simp only [SV.dens, p2, h4 ρc Gc v' hl ρ'']⟩
    ·cases h
   ·cases h
theorem decArgs_leaves (hh : Hp E ρ H G w) : ∀ (as9 : List Shp) (l cs : List SV) (d : Dc (Shp.Ds as9)), decArgs H G as9 l = some d → flatC as9 l = some cs → (∀ p ∈ d.ob, p ()) → d.bs = [] → All2 (RL ρ G) cs (leavess as9 fun _ => d.x ())
 | [], l, cs, d, h, hf, ho, hb => by
   simp only [flatC] at hf
   split at hf
   ·cases hf; trivial
   ·cases hf
 | e :: as9, l, cs, d, h, hf, ho, hb => by
   simp only [decArgs] at h
   simp only [flatC] at hf
   split at h
   ·cases h
   ·rename_i v l
    split at h
    ·rename_i cs0 hcs
     split at h
     ·rename_i d1 hd1
      split at h
      ·rename_i hrest
       split at h
       ·rename_i r1 hr1
        cases h
        simp only [catP_eq, catN_eq] at ho hb ⊢
        simp only [hcs] at hf
        split at hf
        ·rename_i c1 c2 h1 h2
         cases hf
         cases h1
         obtain ⟨b1, b2⟩ := append_nil_both hb
         obtain ⟨used, e1, h3⟩ := dec_leaves hh e cs0 d1 hd1 (fun p hp => ho p (List.mem_append_left _ hp)) b1
         rw [hrest, List.append_nil] at e1
         subst e1
         rw [catL_eq]
         simp only [leavess, catF_eq]
         exact h3.append (decArgs_leaves hh as9 l c2 r1 hr1 h2 (fun p hp => ho p (List.mem_append_right _ hp)) b2)
        ·cases hf
       ·cases h
      ·cases h
     ·cases h
    ·cases h
def packR : List Shp → List SV → Option (List SV)
 | [] => fun l => match l with
   | [] => some []
   | _ :: _ => none
 | e :: rs => fun l => match nBle e.size (lenL l) with
   | true => match packR rs (dropL e.size l) with
     | some r => some (packS e (takeL e.size l) :: r)
     | none => none
   | false => none
def tupR (l : List SV) : SV := match l with
 | [v] => v
 | l => .tup l
end ret
mutual
def Shp.lim : (e : Shp) → e.D → Prop
 | .sl e, xs => xs.length ≤ 140737488355328 ∧ ∀ x ∈ xs, Shp.lim e x
 | .st fs, x => Shp.lims fs x
 | _, _ => True
def Shp.lims : (fs : List Shp) → Shp.Ds fs → Prop
 | [], _ => True
 | f :: fs, x => Shp.lim f x.1 ∧ Shp.lims fs x.2
end
mutual
theorem rep_lim {w : World} {Z : Nat → Prop} : ∀ (e : Shp) (x : e.D) (vs : List Value), Shp.rep w Z e x vs → Shp.lim e x
 | .int _, _, _, _ => by simp [Shp.lim]
 | .byte, _, _, _ => by simp [Shp.lim]
 | .bool, _, _, _ => by simp [Shp.lim]
 | .str, _, _, _ => by simp [Shp.lim]
 | .sl e, x, vs, h => by
   obtain ⟨s, _, hb, cs, _, _, hr⟩ := h
   refine ⟨hb.lim, fun a ha => ?_⟩
   obtain ⟨i, hi, rfl⟩ := List.getElem_of_mem ha
   exact rep_lim e _ _ (hr i hi)
 | .st fs, x, vs, h => by simp only [Shp.lim]; exact reps_lims fs x vs h
theorem reps_lims {w : World} {Z : Nat → Prop} : ∀ (fs : List Shp) (x : Shp.Ds fs) (vs : List Value), Shp.reps w Z fs x vs → Shp.lims fs x
 | [], _, _, _ => by simp [Shp.lims]
 | f :: fs, x, vs, h => by
   obtain ⟨v1, v2, _, h2, h3⟩ := h
   exact ⟨rep_lim f _ _ h2, reps_lims fs _ _ h3⟩
end
theorem decArgs_lims {E : Env} {ρ : Nm} {w : World} {H : List Ent} {G : List FE} (hh : Hp E ρ H G w) : ∀ (as9 : List Shp) (l : List SV) (d : Dc (Shp.Ds as9)), decArgs H G as9 l = some d → (∀ p ∈ d.ob, p ()) → Shp.lims as9 (d.x ())
 | [], l, d, h, ho => by simp [Shp.lims]
 | e :: as9, l, d, h, ho => by
   simp only [decArgs] at h
   split at h
   ·cases h
   ·split at h
    ·split at h
     ·rename_i d1 hd1
      split at h
      ·split at h
       ·rename_i r1 hr1
        cases h
        simp only [catP_eq] at ho
        obtain ⟨used, e1, h3⟩ := (dec_sound hh e _ d1 hd1 fun p hp => ho p (List.mem_append_left _ hp)).ex
        exact ⟨rep_lim e _ _ (h3 (fun _ => True) fun _ _ => trivial), decArgs_lims hh as9 _ r1 hr1 fun p hp => ho p (List.mem_append_right _ hp)⟩
       ·cases h
      ·cases h
     ·cases h
    ·cases h
def fnSpec (as9 rs : List Shp) (ts : List TypeId) (pre : Shp.Ds as9 → Prop) (post : Shp.Ds as9 → Shp.Ds rs → Prop) : Spec := fun lo hi id args s K =>
 match decArgs s.heap s.ents as9 args with
 | some d => obsK d.ob (Ob (fun u => pre (d.x u)) (AllT (fun y => post (d.x ()) y ∧ Shp.lims rs y) fun y => match lfRs (leavess rs fun _ => y) ts id with
   | some (vs, news) => match packR rs vs with
     | some us => freshL lo hi s.heap s.ents news = true ∧ K (tupR us) ⟨s.fr, s.n, s.heap, catE news s.ents, s.next⟩
     | none => False
   | none => False))
 | none => False
section spec
variable {E : Env} {ρ : Nm} {w : World} {H : List Ent} {G : List FE}
theorem packR_den (hh : Hp E ρ H G w) {ρ' : Nm} : ∀ (rs : List Shp) (l cs vs us : List SV) (d : Dc (Shp.Ds rs)), decArgs H G rs l = some d → (∀ p ∈ d.ob, p ()) → flatC rs l = some cs → SV.dens ρ' vs = SV.dens ρ cs → packR rs vs = some us → SV.dens ρ' us = SV.dens ρ l
 | [], l, cs, vs, us, d, h, ho, hf, hd, hp => by
   simp only [flatC] at hf
   split at hf
   ·cases hf
    simp only [packR] at hp
    split at hp
    ·cases hp; rfl
    ·cases hp
   ·cases hf
 | e :: rs, l, cs, vs, us, d, h, ho, hf, hd, hp => by
   simp only [decArgs] at h
   simp only [flatC] at hf
   split at h
   ·cases h
   ·rename_i v l
    split at h
    ·rename_i cs0 hcs
     split at h
     ·rename_i d1 hd1
      split at h
      ·rename_i hrest
       split at h
       ·rename_i r1 hr1
        cases h
        simp only [catP_eq] at ho
        simp only [hcs] at hf
        split at hf
        ·rename_i c1 c2 h1 h2
         cases hf
         cases h1
         obtain ⟨used, e1, h3⟩ := (dec_sound hh e cs0 d1 hd1 fun p hp => ho p (List.mem_append_left _ hp)).ex
         rw [hrest, List.append_nil] at e1
         subst e1
         have hlen := Shp.rep_length _ _ _ (h3 (fun _ => True) fun _ _ => trivial)
         rw [dens_length] at hlen
         simp only [packR] at hp
         split at hp
         ·rename_i hle
          split at hp
          ·rename_i r hr
           cases hp
           rw [catL_eq, dens_append] at hd
           have ht : SV.dens ρ' (takeL e.size vs) = SV.dens ρ cs0 := by
            rw [takeL_eq, dens_take, hd, List.take_append_of_le_length (by rw [dens_length, hlen]; exact Nat.le_refl _), List.take_of_length_le (by rw [dens_length, hlen]; exact Nat.le_refl _)]
           have hdr : SV.dens ρ' (dropL e.size vs) = SV.dens ρ c2 := by
            rw [dropL_eq, dens_drop, hd, List.drop_append_of_le_length (by rw [dens_length, hlen]; exact Nat.le_refl _), List.drop_of_length_le (by rw [dens_length, hlen]; exact Nat.le_refl _), List.nil_append]
           simp only [SV.dens]
           rw [packS_den hcs ht, packR_den hh rs l c2 _ r r1 hr1 (fun p hp => ho p (List.mem_append_right _ hp)) h2 hdr hr]
          ·cases hp
         ·cases hp
        ·cases hf
       ·cases h
      ·cases h
     ·cases h
    ·cases h
theorem tupR_den {rs : List Shp} {v : SV} {l us : List SV} {ρ' : Nm} (hr : retC rs v = some l) (hlen : l.length = rs.length) (hd : SV.dens ρ' us = SV.dens ρ l) : (tupR us).den ρ' = v.den ρ := by
 have hl : us.length = l.length := by have := congrArg List.length hd; simpa [dens_length] using this
 have tup : v = .tup l → rs.length ≠ 1 → (tupR us).den ρ' = v.den ρ := by
  intro hv hne
  subst hv
  match us, hl with
  | [], _ => simp only [tupR, SV.den, hd]
  | [x], hl => exact absurd (by rw [← hlen, ← hl]; rfl) hne
  | x :: y :: r, _ => simp only [tupR, SV.den, hd]
 unfold retC at hr
 split at hr
 ·cases hr
  match us, hl with
  | [x], _ => simp only [tupR]; simpa [SV.dens] using hd
  | [], hl => simp at hl
  | _ :: _ :: _, hl => simp at hl
 ·rename_i hne
  cases hr
  refine tup rfl fun h1 => ?_
  match rs, h1 with
  | [x], _ => exact hne x rfl
 ·cases hr
theorem decArgs_length : ∀ (as9 : List Shp) (l : List SV) (d : Dc (Shp.Ds as9)), decArgs H G as9 l = some d → l.length = as9.length
 | [], l, d, h => by
   simp only [decArgs] at h
   split at h
   ·rfl
   ·cases h
 | e :: as9, l, d, h => by
   simp only [decArgs] at h
   split at h
   ·cases h
   ·split at h
    ·split at h
     ·split at h
      ·split at h
       ·rename_i r1 hr1
        simp only [List.length_cons, decArgs_length as9 _ r1 hr1]
       ·cases h
      ·cases h
     ·cases h
    ·cases h
def vcW (C : Cx) (fn : Func) (as9 rs : List Shp) (ts : List TypeId) (x : Shp.Ds as9) (post : Shp.Ds rs → Prop) : Prop :=
 match svArgs as9 (fun _ => x) 0 with
 | some (svs, ents) => freshL C.lo C.hi [] [] ents = true ∧ vcFL C fn svs [] ents 1000 (retPost rs ts post)
 | none => False
theorem spec_of_vc {P : Program} {C : Cx} {f : FuncId} {fn : Func} (hn : hasFn P f) (hfn : P.funcs[f]? = some fn) (hcalm : calmF fn = true) {as9 rs : List Shp} {ts : List TypeId} {pre : Shp.Ds as9 → Prop} {post : Shp.Ds as9 → Shp.Ds rs → Prop}
    (hC : ∀ E : Env, E.ok → E.lo = C.lo → E.hi = C.hi → C.ok P E) (h : ∀ x, Shp.lims as9 x → pre x → vcW C fn as9 rs ts x (post x)) {E : Env} (hE : E.ok) (hnp : ∀ s, ¬ C.x.pan s := by exact fun _ h => h) : SpecOk P E f (fnSpec as9 rs ts pre post) := by
 refine ⟨hn, ?_⟩
 intro lo hi id args s K hlo hhi hs ρ w hh hargs
 unfold fnSpec at hs
 split at hs
 ·rename_i d hd
  obtain ⟨hob, hs⟩ := obsK_spec hs
  have hpre := hs.ob ()
  have hall := hs.k.all
  have hv := h _ (decArgs_lims hh as9 args d hd hob) hpre
  unfold vcW at hv
  split at hv
  ·rename_i svs ents hsv
   obtain ⟨hfr, hv⟩ := hv
   obtain ⟨⟨ρc, c1, c2⟩, c3⟩ := svArgs_sound hh (fun _ k => k < w.heap.size) C.lo C.hi (fun _ _ h => h) as9 args d 0 svs ents hd hob hsv hfr
   have hE1 := callEnv_ok w (fun _ k => k < w.heap.size) C.lo C.hi ρ
   refine (calls_of_vcL (hC _ hE1 rfl rfl) hfn hcalm svs (ρ := ρc) (H := []) (G := ents) (nx := 1000) (xs := (SV.dens ρ args).toArray) (fun ρ' hr => by rw [c2 ρ' hr]) w c1 hv ?_ rfl fun s ρ w' _ h => (hnp s h).elim)
   intro v s1 ρ1 a1 w1 hf1 hinv hpost
   unfold retPost at hpost
   split at hpost
   ·rename_i l hl
    split at hpost
    ·rename_i d1 cs hd1 hcs
     obtain ⟨hok, hpost⟩ := hpost
     simp only [Bool.and_eq_true] at hok
     obtain ⟨hok, hbs⟩ := hok
     obtain ⟨hob1, hfin⟩ := obsK_spec hpost
     have hbs : d1.bs = [] := by
      cases hb : d1.bs with
      | nil => rfl
      | cons _ _ => rw [hb] at hbs; cases hbs
     have hs2 := hall _ ⟨hfin.ok, decArgs_lims hf1.hp rs l d1 hd1 hob1⟩
     split at hs2
     ·rename_i vs news hlf
      split at hs2
      ·rename_i us hus
       obtain ⟨hfr2, hk⟩ := hs2
       have hbel : Below w.heap.size w w1 := hf1.hp.keep
       have hh1 := hh.below hE hbel
       have hlv := decArgs_leaves hf1.hp rs l cs d1 hd1 hcs hob1 hbs
       rw [← kindss_leaves rs (fun _ => d1.x ())] at hok
       obtain ⟨ρ', r1, r2, r3, r4⟩ := lfRs_sound hlo hhi hf1.hp hh.size (fun _ _ _ => trivial) _ cs ts [] id vs news ρ hlf hh1 (fun e he => hh.lt he) (fun f hf k hk => hh.foot_lt hf hk) hlv hok hfr2
       have val : ∀ ρ'', Agr ρ' ρ'' s.heap (news ++ s.ents) → (tupR us).den ρ'' = v.den ρ1 := fun ρ'' hr => tupR_den hl (decArgs_length rs l d1 hd1) (packR_den hf1.hp rs l cs vs us d1 hd1 hob1 hcs (r2 ρ'' hr).2 hus)
       have r0 := (r2 ρ' (Agr.refl _ _ _)).1
       refine ⟨tupR us, _, ρ', by rw [val ρ' (Agr.refl _ _ _)], hk, by simp only [catE_eq]; exact r1, fun ρ'' hr => ?_, ?_⟩
       ·simp only [catE_eq] at hr
        exact ⟨(r2 ρ'' hr).1, by rw [val ρ'' hr, val ρ' (Agr.refl _ _ _)]⟩
       ·refine ⟨fun e he _ => ⟨he, r0.1 e he, hh.cells_agree r0 he⟩, fun id' f _ hf _ => ⟨f, ?_, rfl, (Fk.refl ρ f).names (FE.foot_names (r0.2 f (findE_mem hf).1).1 (r0.2 f (findE_mem hf).1).2 (r3 f (findE_mem hf).1)), fun k hk => hbel.block k (hh.foot_lt (findE_mem hf).1 hk)⟩⟩
        simp only [catE_eq]
        rw [find_append_ne fun g hg e0 => freshL_ne hfr2 g hg f (findE_mem hf).1 (by rw [e0, (findE_mem hf).2])]
        exact hf
      ·exact hs2.elim
     ·exact hs2.elim
    ·exact hpost.elim
   ·exact hpost.elim
  ·exact hv.elim
 ·exact hs.elim
end spec
end
end Go.Proofs.YtkifmppmfkpfbaaGreat.V
