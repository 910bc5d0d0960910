/- The law ProposalCounts. -/
import Derived.Test.YtkeefgiajogkkaaVPu
set_option linter.unusedVariables false
set_option linter.unusedSimpArgs false
namespace Go.Proofs.Ytkeefgiajogkkaa.V
open Go.RowKit
set_option maxHeartbeats 8000000
set_option maxRecDepth 100000
theorem trsB_dl (l : List TrT) (k : Nat) (h : k < l.length) : (trsB (l.drop k)).length = (if (l.getD k (0, 0, 0, ())).2.2.1 = 0 then 8 else 12) + (trsB (l.drop (k + 1))).length := by
  rw [trsB_drop l k h, List.length_append, partB_len, trB_len]
  show (if (l.getD k (0, 0, 0, ())).2.2.1 = 0 then 4 else 8) + 4 + _ = _
  split <;> rfl
theorem prsB_dl (l : List PrT) (k : Nat) (h : k < l.length) : (prsB (l.drop k)).length = 8 + (l.getD k (0, 0, [], [], ())).2.2.1.length + (trsB (l.getD k (0, 0, [], [], ())).2.2.2.1).length + (prsB (l.drop (k + 1))).length := by
  rw [prsB_drop l k h, List.length_append, partB_len]
  show (prB (l.getD k (0, 0, [], [], ()))).length + 4 + _ = _
  unfold prB hdB
  simp only [List.length_append, List.length_cons, List.length_nil]
  omega
theorem chkGo_at : ∀ {l : List PrT} {n : Int} {i : Nat} {e : Int}, (∀ k, k < i → oneF (l.getD k prD0) (n + k) = 0) → i < l.length → oneF (l.getD i prD0) (n + i) = e → ¬ e = 0 → chkGo l n = e
  | [], _, _, _, _, h, _, _ => by simp at h
  | p :: l, n, 0, e, _, _, h, he => by
    unfold chkGo
    rw [List.getD_cons_zero, Int.ofNat_zero, Int.add_zero] at h
    rw [if_neg (by rw [h]; exact he), h]
  | p :: l, n, i + 1, e, hk, hi, h, he => by
    unfold chkGo
    have h0 := hk 0 (by omega)
    rw [List.getD_cons_zero, Int.ofNat_zero, Int.add_zero] at h0
    rw [if_pos h0]
    refine chkGo_at (i := i) (fun k hki => ?_) (by simpa using hi) ?_ he
    · have := hk (k + 1) (by omega)
      rw [List.getD_cons_succ, show n + ((k + 1 : Nat) : Int) = n + 1 + k by omega] at this
      exact this
    · rw [List.getD_cons_succ, show n + ((i + 1 : Nat) : Int) = n + 1 + i by omega] at h
      exact h
theorem chkF_at {l : List PrT} {i : Nat} {e : Int} (h1 : 1 ≤ l.length) (h8 : l.length ≤ 8) (hk : ∀ k, k < i → oneF (l.getD k prD0) (1 + k) = 0) (hi : i < l.length) (h : oneF (l.getD i prD0) (1 + i) = e) (he : ¬ e = 0) : chkF l = e := by
  unfold chkF
  rw [if_neg (by omega), if_neg (by omega)]
  exact chkGo_at hk hi h he
theorem set_getD {α : Type} (l : List α) (i k : Nat) (x d : α) : (l.set i x).getD k d = if i = k ∧ k < l.length then x else l.getD k d := by
  rw [List.getD_eq_getElem?_getD, List.getD_eq_getElem?_getD, List.getElem?_set]
  by_cases h : i = k
  · subst h
    by_cases h2 : i < l.length
    · simp [h2]
    · simp [h2]
  · simp [h]
theorem trsE_9 : ∀ {l pre : List TrT} {t : TrT}, (∀ x ∈ l, ¬ badT x) → l.Nodup → (∀ x ∈ l, x ∉ pre) → ¬ badT t → t ∈ pre ++ l → trsE pre (l ++ [t]) = 9
  | [], pre, t, _, _, _, ht, hm => by
    rw [List.nil_append, trsE, if_neg ht, if_pos (hasT_mem.2 (by simpa using hm))]
  | x :: l, pre, t, h, hd, hn, ht, hm => by
    rw [List.cons_append, trsE, if_neg (h x List.mem_cons_self), if_neg]
    · refine trsE_9 (fun y hy => h y (List.mem_cons_of_mem _ hy)) (List.nodup_cons.1 hd).2 (fun y hy hp => ?_) ht (by simpa using hm)
      rcases List.mem_append.1 hp with hp | hp
      · exact hn y (List.mem_cons_of_mem _ hy) hp
      · rw [List.mem_singleton] at hp
        subst hp
        exact (List.nodup_cons.1 hd).1 hy
    · intro hh
      rw [hasT_mem] at hh
      exact hn x List.mem_cons_self hh
/-- One number too high; a transform twice. -/
theorem cnt_7 {l : List PrT} {i : Nat} {p : PrT} (hc : chkF l = 0) (hi : i < l.length) (hp : ¬ p.1 = (l.getD i (0, 0, [], [], ())).1) : chkF (l.set i p) = 7 := by
  obtain ⟨h1, h2, h3⟩ := chk_0 hc
  refine chkF_at (i := i) (by rw [List.length_set]; omega) (by rw [List.length_set]; omega) (fun k hk => ?_) (by rw [List.length_set]; exact hi) ?_ (by decide)
  · rw [set_getD, if_neg (by omega)]
    exact h3 k (by omega)
  · rw [set_getD, if_pos ⟨rfl, hi⟩]
    have := (one_0 (h3 i hi)).1
    unfold oneF
    rw [if_pos]
    intro h
    exact hp (h.trans this.symm)
theorem cnt_9 {l : List PrT} {i : Nat} {p : PrT} {pr : Int} (hg : PropsG pr l) (hc : chkF l = 0) (hi : i < l.length) (h1 : p.1 = (l.getD i (0, 0, [], [], ())).1) (h2 : p.2.1 = (l.getD i (0, 0, [], [], ())).2.1) (h3 : p.2.2.1 = (l.getD i (0, 0, [], [], ())).2.2.1) (h4 : p.2.2.2.1 = (l.getD i (0, 0, [], [], ())).2.2.2.1 ++ [(l.getD i (0, 0, [], [], ())).2.2.2.1.getD 0 (0, 0, 0, ())]) : chkF (l.set i p) = 9 := by
  obtain ⟨c1, c2, c3⟩ := chk_0 hc
  refine chkF_at (i := i) (by rw [List.length_set]; omega) (by rw [List.length_set]; omega) (fun k hk => ?_) (by rw [List.length_set]; exact hi) ?_ (by decide)
  · rw [set_getD, if_neg (by omega)]
    exact c3 k (by omega)
  · rw [set_getD, if_pos ⟨rfl, hi⟩]
    have d : l.getD i prD0 = l.getD i (0, 0, [], [], ()) := rfl
    have g := c3 i hi
    rw [d] at g
    have g1 := hg.ok i hi
    obtain ⟨a1, a2, a3, a4, a5, a6, a7⟩ := one_0 g
    have ok := trsE_ok a7
    have ne := g1.ne
    have le := g1.le
    have hm : (l.getD i (0, 0, [], [], ())).2.2.2.1.getD 0 (0, 0, 0, ()) ∈ (l.getD i (0, 0, [], [], ())).2.2.2.1 := by
      have mem : ∀ ts : List TrT, 1 ≤ ts.length → ts.getD 0 (0, 0, 0, ()) ∈ ts := fun ts h => by
        cases ts with
        | nil => simp at h
        | cons t ts => exact List.mem_cons_self
      exact mem _ ne
    unfold oneF
    rw [h1, h2, h3, h4, if_neg (by omega), if_neg (by omega), if_neg a4, List.length_append, if_neg (by simp), if_neg (by simp only [List.length_cons, List.length_nil]; omega)]
    exact trsE_9 ok g1.nd (fun _ _ h => by cases h) (ok _ hm) (by simpa using hm)
/-- The sum so far and what is left. -/
theorem cn_in {ts : List TrT} {z zq s sq : Int} {r T : Nat} (h : s + ((trsB (ts.drop z.toNat)).length : Int) + r = T) (hs : 0 ≤ s) (h0 : 0 ≤ z) (hz : z < ts.length) (hn : ts.length ≤ 24) (hT : T ≤ 2432)
    (e : ((ts.getD z.toNat (0, 0, 0, ())).2.2.1 = 0 ∧ (s + 8 + 9223372036854775808) % 18446744073709551616 - 9223372036854775808 = sq) ∨ (¬ (ts.getD z.toNat (0, 0, 0, ())).2.2.1 = 0 ∧ ((s + 8 + 9223372036854775808) % 18446744073709551616 - 9223372036854775808 + 4 + 9223372036854775808) % 18446744073709551616 - 9223372036854775808 = sq)) (q : (z + 1 + 9223372036854775808) % 18446744073709551616 - 9223372036854775808 = zq) :
    (0 ≤ zq ∧ zq ≤ ts.length ∧ 0 ≤ sq ∧ sq + ((trsB (ts.drop zq.toNat)).length : Int) + r = T) ∧ ((ts.length : Int) - zq).toNat < ((ts.length : Int) - z).toNat := by
  have e1 : zq = z + 1 := by omega
  rw [trsB_dl ts z.toNat (by omega)] at h
  rw [e1, show (z + 1).toNat = z.toNat + 1 by omega]
  rcases e with ⟨e2, e3⟩ | ⟨e2, e3⟩
  · rw [if_pos e2] at h
    exact ⟨⟨by omega, by omega, by omega, by omega⟩, by omega⟩
  · rw [if_neg e2] at h
    exact ⟨⟨by omega, by omega, by omega, by omega⟩, by omega⟩
theorem cn_beg {l : List PrT} {z s : Int} {T : Nat} (h : s + ((prsB (l.drop z.toNat)).length : Int) = T) (hs : 0 ≤ s) (h0 : 0 ≤ z) (hz : z < l.length) (hT : T ≤ 2432) : 0 ≤ (s + ((8 + ((l.getD z.toNat (0, 0, [], [], ())).2.2.1.length : Int) + 9223372036854775808) % 18446744073709551616 - 9223372036854775808) + 9223372036854775808) % 18446744073709551616 - 9223372036854775808 ∧
    (s + ((8 + ((l.getD z.toNat (0, 0, [], [], ())).2.2.1.length : Int) + 9223372036854775808) % 18446744073709551616 - 9223372036854775808) + 9223372036854775808) % 18446744073709551616 - 9223372036854775808 + ((trsB ((l.getD z.toNat (0, 0, [], [], ())).2.2.2.1.drop (Int.toNat 0))).length : Int) + ((prsB (l.drop (z.toNat + 1))).length : Int) = T := by
  rw [prsB_dl l z.toNat (by omega)] at h
  rw [Int.toNat_zero, List.drop_zero]
  omega
theorem cn_fin {l : List PrT} {z zq k s sq : Int} {T : Nat} (h : s + ((trsB ((l.getD z.toNat (0, 0, [], [], ())).2.2.2.1.drop k.toNat)).length : Int) + ((prsB (l.drop (z.toNat + 1))).length : Int) = T) (hs : 0 ≤ s) (hk : ¬ k < ((l.getD z.toNat (0, 0, [], [], ())).2.2.2.1.length : Int)) (h0 : 0 ≤ z) (hz : z < l.length) (hn : l.length ≤ 8) (e : s = sq) (q : (z + 1 + 9223372036854775808) % 18446744073709551616 - 9223372036854775808 = zq) :
    (0 ≤ zq ∧ zq ≤ l.length ∧ 0 ≤ sq ∧ sq + ((prsB (l.drop zq.toNat)).length : Int) = T) ∧ ((l.length : Int) - zq).toNat < ((l.length : Int) - z).toNat := by
  have e1 : zq = z + 1 := by omega
  rw [show List.drop k.toNat (l.getD z.toNat (0, 0, [], [], ())).2.2.2.1 = [] from List.drop_eq_nil_of_le (by omega), trsB, List.length_nil] at h
  rw [e1, show (z + 1).toNat = z.toNat + 1 by omega]
  exact ⟨⟨by omega, by omega, by omega, by omega⟩, by omega⟩
structure CntG (l : List PrT) (b : List UInt8) : Prop where
  ok : PropsG 3 l
  chk : chkF l = 0
  len : b.length = (prsB l).length
  le : (prsB l).length ≤ 2432
  n1 : 1 ≤ l.length
  n4 : (l.length : Int) ≤ 4
theorem cnt_g {l : List PrT} {x : List UInt8} {e : Int} {P Q : Prop} (h : (x, e) = bldF l ∧ P) (hg : (PropsG 3 l ∧ 1 ≤ l.length ∧ (l.length : Int) ≤ 4) ∧ Q) : CntG l x ∧ e = 0 := by
  have hc := props_chk hg.1.1 (by omega) hg.1.2.1 (by omega)
  obtain ⟨h1, h2⟩ := bld_eq h hc
  have h3 := bld_len h
  rw [h1] at h3
  exact ⟨⟨hg.1.1, hc, by rw [h1], h3, hg.1.2.1, hg.1.2.2⟩, h2⟩
def pcoC_t : SpecT := nd0 10 (nd0 8 (lf0 7 (aw4Sp)) (lf0 8 (newSpec 49))) (nd0 17 (lf0 10 (propS)) (nd0 19 (lf0 17 (pbuSp)) (lf0 19 (chkS))))
def pcoC : Cx := ⟨tt, qt, bt, st, pcoC_t, 0, 1000000000000000, fun _ => none, false, CxE.no, []⟩
theorem pcoC_si {E : Env} (h : E.ok) : SpecsOk Try.prog E (CxE.no) pcoC_t (fun _ => none) := ⟨(nd0_ok (nd0_ok (lf0_ok (aw4_sp h)) (lf0_ok (new_sp h))) (nd0_ok (lf0_ok (prop_sp h)) (nd0_ok (lf0_ok (pbu_sp h)) (lf0_ok (pck_sp h))))), noI_ok _ _ _⟩
theorem pcoC_x {E : Env} (h : E.ok) : CxEOk Try.prog E (CxE.no) := CxE.no_ok _ _
theorem pcoC_cx (E : Env) (h : E.ok) (h1 : E.lo = 0) (h2 : E.hi = 1000000000000000) : Cx.ok pcoC Try.prog E := ⟨tt_ok, qt_ok, bt_ok, pcoC_si h, h, h1, h2, mixed_ok, pcoC_x h⟩
theorem pcoC_from (lo hi : Nat) (E : Env) (h : E.ok) (h1 : E.lo = lo) (h2 : E.hi = hi) : Cx.ok (Cx.from pcoC lo hi) Try.prog E := ⟨tt_ok, qt_ok, bt_ok, pcoC_si h, h, h1, h2, mixed_ok, pcoC_x h⟩
abbrev idxN (v : Int) (n : Nat) : Int := ((v + 9223372036854775808) % 18446744073709551616 - 9223372036854775808).tmod (n : Int)
theorem idx_n {v : Int} {n : Nat} (hv : 0 ≤ v ∧ v < 256) (hb : 1 ≤ n) : 0 ≤ idxN v n ∧ idxN v n < n := by
  unfold idxN
  rw [show (v + 9223372036854775808) % 18446744073709551616 - 9223372036854775808 = v by omega]
  exact ⟨Int.tmod_nonneg _ hv.1, Int.tmod_lt_of_pos _ (by omega)⟩
theorem cnt_len {l : List PrT} {b : List UInt8} {z s : Int} (G : CntG l b) (h : s + ((prsB (l.drop z.toNat)).length : Int) = ((prsB l).length : Nat)) (hz : ¬ z < (l.length : Int)) : (b.length : Int) = s := by
  rw [List.drop_eq_nil_of_le (by omega), prsB, List.length_nil] at h
  have := G.len
  omega
theorem cnt_i {l : List PrT} {b : List UInt8} {i : Int} (G : CntG l b) (hi : 0 ≤ i ∧ i < (l.length : Int)) : (l.getD i.toNat (0, 0, [], [], ())).1 = i + 1 ∧ 1 ≤ (l.getD i.toNat (0, 0, [], [], ())).2.2.2.1.length ∧ (l.getD i.toNat (0, 0, [], [], ())).2.2.2.1.length ≤ 6 := by
  have g := G.ok.ok i.toNat (by omega)
  have := g.num
  exact ⟨by omega, g.ne, g.le⟩
theorem set_7 {l : List PrT} {b : List UInt8} {i : Int} {f : PrT → PrT} (G : CntG l b) (hi : 0 ≤ i ∧ i < (l.length : Int)) (hf : (f (l.getD i.toNat (0, 0, [], [], ()))).1 = ((l.getD i.toNat (0, 0, [], [], ())).1 + 1 + 9223372036854775808) % 18446744073709551616 - 9223372036854775808) : chkF (setAt ([] ++ l) i (0, 0, [], [], ()) f) = 7 := by
  unfold setAt
  rw [List.nil_append]
  have h1 := cnt_i G hi
  have h4 := G.n4
  refine cnt_7 G.chk (by omega) ?_
  rw [hf]
  omega
theorem set_9 {l : List PrT} {b : List UInt8} {i : Int} {f : PrT → PrT} (G : CntG l b) (hi : 0 ≤ i ∧ i < (l.length : Int)) (h1 : (f (l.getD i.toNat (0, 0, [], [], ()))).1 = (l.getD i.toNat (0, 0, [], [], ())).1) (h2 : (f (l.getD i.toNat (0, 0, [], [], ()))).2.1 = (l.getD i.toNat (0, 0, [], [], ())).2.1) (h3 : (f (l.getD i.toNat (0, 0, [], [], ()))).2.2.1 = (l.getD i.toNat (0, 0, [], [], ())).2.2.1)
    (h4 : (f (l.getD i.toNat (0, 0, [], [], ()))).2.2.2.1 = [] ++ (l.getD i.toNat (0, 0, [], [], ())).2.2.2.1 ++ [(l.getD i.toNat (0, 0, [], [], ())).2.2.2.1.getD (Int.toNat 0) (0, 0, 0, ())]) : chkF (setAt ([] ++ l) i (0, 0, [], [], ()) f) = 9 := by
  unfold setAt
  rw [List.nil_append]
  exact cnt_9 G.ok G.chk (by omega) h1 h2 h3 h4
theorem cnt_vc (x : Shp.Ds cutAs) (hi : inrs cutAs x) : vcLaw pcoC Try.f6 cutAs x := by
  obtain ⟨codes, v, u⟩ := x
  have hv := u8_in hi.2.1
  clear hi
  cbv
  (repeat' (first | ((with_reducible refine And.intro (fun h => ?_) (fun h => ?_)) <;> (first | with_reducible exact (tf h (by assumption)).elim | with_reducible exact (tf (by assumption) h).elim | cbv)) | ((with_reducible show JoinT (fun s K => vc _ (Code.region _ _ true) s K) _ _ _ _ _); (with_reducible apply JoinT.mg2); (focus (cbv; (repeat' (first | ((with_reducible refine And.intro (fun h => ?_) (fun h => ?_)) <;> (first | with_reducible exact (tf h (by assumption)).elim | with_reducible exact (tf (by assumption) h).elim | cbv)) | ((with_reducible first | refine Cb.mk ?_ | refine Lz.mk ?_ | refine JoinT.left ?_ | refine AllT.mk (fun x hx => ?_)); cbv) | ((with_reducible refine Ob.mk (fun _ => ?_) ?_); rotate_left 1) | (with_reducible first | refine Mg.mk (Exists.intro ?_ (And.intro ?_ ?_)) | rfl | refine Fin.mk ?_ | exact True.intro | refine And.intro ?_ ?_))); (all_goals (try (have du : Unit := (); have dv : Unit := (); first | exact Goes.self (Ex2.mk ⟨dv, du, trivial, trivial, rfl⟩) | exact Goes.self (Ex2.mk ⟨x, du, hx, trivial, rfl⟩) | (rename_i xa hxa; exact Goes.self (Ex2.mk ⟨xa, x, hxa, hx, rfl⟩))))); (all_goals (fail_if_success (with_reducible first | show Goes _ _ _ _ | show (∃ _, unr _ _ _ _ _ _))))))) | ((with_reducible first | refine Cb.mk ?_ | refine Lz.mk ?_ | refine JoinT.left ?_ | refine AllT.mk (fun x hx => ?_)); cbv) | ((with_reducible refine Ob.mk (fun _ => ?_) ?_); rotate_left 1) | (with_reducible first | refine Mg.mk (Exists.intro ?_ (And.intro ?_ ?_)) | rfl | refine Fin.mk ?_ | exact True.intro | refine And.intro ?_ ?_)))
  all_goals first | (with_reducible show (∃ _, unr _ _ _ _ _ _); skip) | (with_reducible show Goes _ _ _ _; skip) | (with_reducible show JoinT _ _ _ _ _ _; skip) | (first | ((try dsimp only [Shp.D, Shp.Ds, Shp.dflt] at *); simp only [vem, veq, ne_eq, cmpI, arI, dvI, shI, SV.den, obLt, elemAt, obApp, partL, obPart, lowD, highD, mxOk, convL_self, zerosB, List.length_replicate, vln] at *; (try dsimp only [Shp.D, Shp.Ds, Shp.dflt, Shp.dflts] at *); done) | ((try dsimp only [Shp.D, Shp.Ds, Shp.dflt] at *); simp only [vem, veq, ne_eq, cmpI, arI, dvI, shI, SV.den, obLt, elemAt, obApp, partL, obPart, lowD, highD, mxOk, convL_self, zerosB, List.length_replicate, vln] at *; (try dsimp only [Shp.D, Shp.Ds, Shp.dflt, Shp.dflts] at *); omega) | (try ((try dsimp only [Shp.D, Shp.Ds, Shp.dflt] at *); simp only [vem, veq, ne_eq, cmpI, arI, dvI, shI, SV.den, obLt, elemAt, obApp, partL, obPart, lowD, highD, mxOk, convL_self, zerosB, List.length_replicate, vln] at *; (try dsimp only [Shp.D, Shp.Ds, Shp.dflt, Shp.dflts] at *))))
  all_goals first
   | (with_reducible show (∃ _, unr _ _ _ _ _ _); skip)
   | (simp_all; done)
  rename_i xl hxl
  obtain ⟨G, E⟩ : CntG xl.1 x.1 ∧ x.2.1 = 0 := by ((try dsimp only [Shp.D, Shp.Ds, Shp.dflt] at *); simp only [vem, veq, ne_eq, cmpI, arI, dvI, shI, SV.den, obLt, elemAt, obApp, partL, obPart, lowD, highD, mxOk, convL_self, zerosB, List.length_replicate, vln] at *; (try dsimp only [Shp.D, Shp.Ds, Shp.dflt, Shp.dflts] at *); exact cnt_g hx hxl)
  have g1 := G.n1
  have g4 := G.n4
  have gl := G.le
  have g8 : xl.1.length ≤ 8 := by omega
  have hm := idx_n hv g1
  obtain ⟨t1, t2, t3⟩ := cnt_i G hm
  have gt := fun k (h0 : 0 ≤ k) (h : k < (xl.1.length : Int)) => chk_at G.chk h0 h
  with_reducible refine loop_hv [] (10 :: 12 :: rangeN 29 25) [] [] (fun z b t y => 0 ≤ z 28 ∧ z 28 ≤ (xl.1.length : Int) ∧ 0 ≤ z 8 ∧ z 8 + ((prsB (xl.1.drop (z 28).toNat)).length : Int) = ((prsB xl.1).length : Nat)) (fun z b t y => ((xl.1.length : Int) - z 28).toNat) (by cbv) (by cbv) ?_ ?_ (fun z1 b1 t1 u1 y1 R1 hP1 hR1 => ?_)
  · refine EndOk.mk (by cbv) (by cbv) (by cbv; repeat' (first | exact True.intro | exact rfl | with_reducible refine And.intro ?_ ?_)) (by cbv; repeat' (first | exact True.intro | exact rfl | with_reducible refine And.intro ?_ ?_)) (by cbv; repeat' (first | exact True.intro | exact rfl | with_reducible refine And.intro ?_ ?_))
  · intro zq bq tq yq hUq
    have q28 := hUq.z 28
    cbv at q28
    replace q28 := q28.eq
    simp only [atI, vem, veq, ne_eq, cmpI, arI, dvI, shI, SV.den] at q28
    have q8 := hUq.z 8
    cbv at q8
    replace q8 := q8.eq
    simp only [atI, vem, veq, ne_eq, cmpI, arI, dvI, shI, SV.den] at q8
    clear hUq
    try dsimp only [Shp.D, Shp.Ds, Shp.dflt] at *
    try simp only [vem, veq, ne_eq, cmpI, arI, dvI, shI, SV.den, convL_self] at *
    rw [← q28, ← q8]
    exact ⟨by omega, by omega, by omega, by simp⟩
  obtain ⟨p1, p2, p3, p4⟩ := hP1
  cbv
  (repeat' (first | ((with_reducible refine And.intro (fun h => ?_) (fun h => ?_)) <;> (first | with_reducible exact (tf h (by assumption)).elim | with_reducible exact (tf (by assumption) h).elim | cbv)) | ((with_reducible show JoinT (fun s K => vc _ (Code.region _ _ true) s K) _ _ _ _ _); (with_reducible apply JoinT.mg2); (focus (cbv; (repeat' (first | ((with_reducible refine And.intro (fun h => ?_) (fun h => ?_)) <;> (first | with_reducible exact (tf h (by assumption)).elim | with_reducible exact (tf (by assumption) h).elim | cbv)) | ((with_reducible first | refine Cb.mk ?_ | refine Lz.mk ?_ | refine JoinT.left ?_ | refine AllT.mk (fun x hx => ?_)); cbv) | ((with_reducible refine Ob.mk (fun _ => ?_) ?_); rotate_left 1) | (with_reducible first | refine Mg.mk (Exists.intro ?_ (And.intro ?_ ?_)) | rfl | refine Fin.mk ?_ | exact True.intro | refine And.intro ?_ ?_))); (all_goals (try (have du : Unit := (); have dv : Unit := (); first | exact Goes.self (Ex2.mk ⟨dv, du, trivial, trivial, rfl⟩) | exact Goes.self (Ex2.mk ⟨x, du, hx, trivial, rfl⟩) | (rename_i xa hxa; exact Goes.self (Ex2.mk ⟨xa, x, hxa, hx, rfl⟩))))); (all_goals (fail_if_success (with_reducible first | show Goes _ _ _ _ | show (∃ _, unr _ _ _ _ _ _))))))) | ((with_reducible first | refine Cb.mk ?_ | refine Lz.mk ?_ | refine JoinT.left ?_ | refine AllT.mk (fun x hx => ?_)); cbv) | ((with_reducible refine Ob.mk (fun _ => ?_) ?_); rotate_left 1) | (with_reducible first | refine Mg.mk (Exists.intro ?_ (And.intro ?_ ?_)) | rfl | refine Fin.mk ?_ | exact True.intro | refine And.intro ?_ ?_)))
  all_goals first | (with_reducible show (∃ _, unr _ _ _ _ _ _); skip) | (with_reducible show Goes _ _ _ _; skip) | (with_reducible show JoinT _ _ _ _ _ _; skip) | (first | ((try dsimp only [Shp.D, Shp.Ds, Shp.dflt] at *); simp only [vem, veq, ne_eq, cmpI, arI, dvI, shI, SV.den, obLt, elemAt, obApp, partL, obPart, lowD, highD, mxOk, convL_self, zerosB, List.length_replicate, vln] at *; (try dsimp only [Shp.D, Shp.Ds, Shp.dflt, Shp.dflts] at *); done) | ((try dsimp only [Shp.D, Shp.Ds, Shp.dflt] at *); simp only [vem, veq, ne_eq, cmpI, arI, dvI, shI, SV.den, obLt, elemAt, obApp, partL, obPart, lowD, highD, mxOk, convL_self, zerosB, List.length_replicate, vln] at *; (try dsimp only [Shp.D, Shp.Ds, Shp.dflt, Shp.dflts] at *); omega) | (try ((try dsimp only [Shp.D, Shp.Ds, Shp.dflt] at *); simp only [vem, veq, ne_eq, cmpI, arI, dvI, shI, SV.den, obLt, elemAt, obApp, partL, obPart, lowD, highD, mxOk, convL_self, zerosB, List.length_replicate, vln] at *; (try dsimp only [Shp.D, Shp.Ds, Shp.dflt, Shp.dflts] at *))))
  all_goals first
   | (with_reducible show (∃ _, unr _ _ _ _ _ _); skip)
   | (exfalso; exact absurd (cnt_len G p4 (by assumption)) (by assumption))
   | exact ⟨hm.1, by rw [Nat.zero_add]; exact hm.2⟩
   | exact hm
   | contradiction
   | (have t3' := (cnt_i G hm).2.2; refine ⟨?_, ?_⟩ <;> omega)
   | exact ⟨by omega, by have := (cnt_i G hm).2.1; omega⟩
   | exact set_9 G hm rfl rfl rfl rfl
   | (exfalso; exact absurd (set_7 G hm rfl) (by assumption))
   | (trace_state; skip)
  · have hlt : z1 28 < (xl.1.length : Int) := by ((try dsimp only [Shp.D, Shp.Ds, Shp.dflt] at *); simp only [vem, veq, ne_eq, cmpI, arI, dvI, shI, SV.den, obLt, elemAt, obApp, partL, obPart, lowD, highD, mxOk, convL_self, zerosB, List.length_replicate, vln] at *; (try dsimp only [Shp.D, Shp.Ds, Shp.dflt, Shp.dflts] at *); assumption)
    obtain ⟨s1, s2⟩ := gt _ p1 hlt
    with_reducible refine loop_hv [] (12 :: rangeN 42 12) [] [] (fun z b t y => 0 ≤ z 41 ∧ z 41 ≤ ((xl.1.getD (z1 28).toNat (0, 0, [], [], ())).2.2.2.1.length : Int) ∧ 0 ≤ z 8 ∧ z 8 + ((trsB ((xl.1.getD (z1 28).toNat (0, 0, [], [], ())).2.2.2.1.drop (z 41).toNat)).length : Int) + ((prsB (xl.1.drop ((z1 28).toNat + 1))).length : Nat) = ((prsB xl.1).length : Nat)) (fun z b t y => ((((xl.1.getD (z1 28).toNat (0, 0, [], [], ())).2.2.2.1.length : Nat) : Int) - z 41).toNat) (by cbv) (by cbv) ?_ ?_ (fun z2 b2 t2 u2 y2 R2 hP2 hR2 => ?_)
    · refine EndOk.mk (by cbv) (by cbv) (by cbv; repeat' (first | exact True.intro | exact rfl | with_reducible refine And.intro ?_ ?_)) (by cbv; repeat' (first | exact True.intro | exact rfl | with_reducible refine And.intro ?_ ?_)) (by cbv; repeat' (first | exact True.intro | exact rfl | with_reducible refine And.intro ?_ ?_))
    · intro zq bq tq yq hUq
      have q41 := hUq.z 41
      cbv at q41
      replace q41 := q41.eq
      simp only [atI, vem, veq, ne_eq, cmpI, arI, dvI, shI, SV.den] at q41
      have q8 := hUq.z 8
      cbv at q8
      replace q8 := q8.eq
      simp only [atI, vem, veq, ne_eq, cmpI, arI, dvI, shI, SV.den] at q8
      clear hUq
      try dsimp only [Shp.D, Shp.Ds, Shp.dflt] at *
      try simp only [vem, veq, ne_eq, cmpI, arI, dvI, shI, SV.den, convL_self] at *
      ((try dsimp only [Shp.D, Shp.Ds, Shp.dflt] at *); simp only [vem, veq, ne_eq, cmpI, arI, dvI, shI, SV.den, obLt, elemAt, obApp, partL, obPart, lowD, highD, mxOk, convL_self, zerosB, List.length_replicate, vln] at *; (try dsimp only [Shp.D, Shp.Ds, Shp.dflt, Shp.dflts] at *))
      rw [← q41, ← q8]
      have hB := cn_beg p4 p3 p1 hlt gl
      exact ⟨by omega, by omega, hB.1, hB.2⟩
    obtain ⟨r1, r2, r3, r4⟩ := hP2
    cbv
    (repeat' (first | ((with_reducible refine And.intro (fun h => ?_) (fun h => ?_)) <;> (first | with_reducible exact (tf h (by assumption)).elim | with_reducible exact (tf (by assumption) h).elim | cbv)) | ((with_reducible show JoinT (fun s K => vc _ (Code.region _ _ true) s K) _ _ _ _ _); (with_reducible apply JoinT.mg2); (focus (cbv; (repeat' (first | ((with_reducible refine And.intro (fun h => ?_) (fun h => ?_)) <;> (first | with_reducible exact (tf h (by assumption)).elim | with_reducible exact (tf (by assumption) h).elim | cbv)) | ((with_reducible first | refine Cb.mk ?_ | refine Lz.mk ?_ | refine JoinT.left ?_ | refine AllT.mk (fun x hx => ?_)); cbv) | ((with_reducible refine Ob.mk (fun _ => ?_) ?_); rotate_left 1) | (with_reducible first | refine Mg.mk (Exists.intro ?_ (And.intro ?_ ?_)) | rfl | refine Fin.mk ?_ | exact True.intro | refine And.intro ?_ ?_))); (all_goals (try (have du : Unit := (); have dv : Unit := (); first | exact Goes.self (Ex2.mk ⟨dv, du, trivial, trivial, rfl⟩) | exact Goes.self (Ex2.mk ⟨x, du, hx, trivial, rfl⟩) | (rename_i xa hxa; exact Goes.self (Ex2.mk ⟨xa, x, hxa, hx, rfl⟩))))); (all_goals (fail_if_success (with_reducible first | show Goes _ _ _ _ | show (∃ _, unr _ _ _ _ _ _))))))) | ((with_reducible first | refine Cb.mk ?_ | refine Lz.mk ?_ | refine JoinT.left ?_ | refine AllT.mk (fun x hx => ?_)); cbv) | ((with_reducible refine Ob.mk (fun _ => ?_) ?_); rotate_left 1) | (with_reducible first | refine Mg.mk (Exists.intro ?_ (And.intro ?_ ?_)) | rfl | refine Fin.mk ?_ | exact True.intro | refine And.intro ?_ ?_)))
    all_goals first | (with_reducible show (∃ _, unr _ _ _ _ _ _); skip) | (with_reducible show Goes _ _ _ _; skip) | (with_reducible show JoinT _ _ _ _ _ _; skip) | (first | ((try dsimp only [Shp.D, Shp.Ds, Shp.dflt] at *); simp only [vem, veq, ne_eq, cmpI, arI, dvI, shI, SV.den, obLt, elemAt, obApp, partL, obPart, lowD, highD, mxOk, convL_self, zerosB, List.length_replicate, vln] at *; (try dsimp only [Shp.D, Shp.Ds, Shp.dflt, Shp.dflts] at *); done) | ((try dsimp only [Shp.D, Shp.Ds, Shp.dflt] at *); simp only [vem, veq, ne_eq, cmpI, arI, dvI, shI, SV.den, obLt, elemAt, obApp, partL, obPart, lowD, highD, mxOk, convL_self, zerosB, List.length_replicate, vln] at *; (try dsimp only [Shp.D, Shp.Ds, Shp.dflt, Shp.dflts] at *); omega) | (try ((try dsimp only [Shp.D, Shp.Ds, Shp.dflt] at *); simp only [vem, veq, ne_eq, cmpI, arI, dvI, shI, SV.den, obLt, elemAt, obApp, partL, obPart, lowD, highD, mxOk, convL_self, zerosB, List.length_replicate, vln] at *; (try dsimp only [Shp.D, Shp.Ds, Shp.dflt, Shp.dflts] at *))))
    all_goals first
     | (with_reducible show Goes _ _ _ _; skip)
     | (trace_state; skip)
    all_goals first
     | (((with_reducible refine hR2 _ ?_ (fun zq bq tq yq hUq => ?_)); (focus (refine EndOk.mk (by cbv) (by cbv) (by cbv; repeat' (first | exact True.intro | exact rfl | with_reducible refine And.intro ?_ ?_)) (by cbv; repeat' (first | exact True.intro | exact rfl | with_reducible refine And.intro ?_ ?_)) (by cbv; repeat' (first | exact True.intro | exact rfl | with_reducible refine And.intro ?_ ?_)))); (have q41 := hUq.z 41); (cbv at q41); (replace q41 := q41.eq); (simp only [atI, vem, veq, ne_eq, cmpI, arI, dvI, shI, SV.den] at q41); (have q8 := hUq.z 8); (cbv at q8); (replace q8 := q8.eq); (simp only [atI, vem, veq, ne_eq, cmpI, arI, dvI, shI, SV.den] at q8); (clear hUq hR2); (try dsimp only [Shp.D, Shp.Ds, Shp.dflt] at *); (try simp only [vem, veq, ne_eq, cmpI, arI, dvI, shI, SV.den, elemAt, convL_self] at *); (try dsimp only [Shp.D, Shp.Ds, Shp.dflt, Shp.dflts] at *)); (try ((try dsimp only [Shp.D, Shp.Ds, Shp.dflt] at *); simp only [vem, veq, ne_eq, cmpI, arI, dvI, shI, SV.den, obLt, elemAt, obApp, partL, obPart, lowD, highD, mxOk, convL_self, zerosB, List.length_replicate, vln] at *; (try dsimp only [Shp.D, Shp.Ds, Shp.dflt, Shp.dflts] at *))); exact cn_in r4 r3 r1 (by assumption) s2 gl (.inl ⟨by assumption, q8⟩) q41)
     | (((with_reducible refine hR2 _ ?_ (fun zq bq tq yq hUq => ?_)); (focus (refine EndOk.mk (by cbv) (by cbv) (by cbv; repeat' (first | exact True.intro | exact rfl | with_reducible refine And.intro ?_ ?_)) (by cbv; repeat' (first | exact True.intro | exact rfl | with_reducible refine And.intro ?_ ?_)) (by cbv; repeat' (first | exact True.intro | exact rfl | with_reducible refine And.intro ?_ ?_)))); (have q41 := hUq.z 41); (cbv at q41); (replace q41 := q41.eq); (simp only [atI, vem, veq, ne_eq, cmpI, arI, dvI, shI, SV.den] at q41); (have q8 := hUq.z 8); (cbv at q8); (replace q8 := q8.eq); (simp only [atI, vem, veq, ne_eq, cmpI, arI, dvI, shI, SV.den] at q8); (clear hUq hR2); (try dsimp only [Shp.D, Shp.Ds, Shp.dflt] at *); (try simp only [vem, veq, ne_eq, cmpI, arI, dvI, shI, SV.den, elemAt, convL_self] at *); (try dsimp only [Shp.D, Shp.Ds, Shp.dflt, Shp.dflts] at *)); (try ((try dsimp only [Shp.D, Shp.Ds, Shp.dflt] at *); simp only [vem, veq, ne_eq, cmpI, arI, dvI, shI, SV.den, obLt, elemAt, obApp, partL, obPart, lowD, highD, mxOk, convL_self, zerosB, List.length_replicate, vln] at *; (try dsimp only [Shp.D, Shp.Ds, Shp.dflt, Shp.dflts] at *))); exact cn_in r4 r3 r1 (by assumption) s2 gl (.inr ⟨by assumption, q8⟩) q41)
     | (((with_reducible refine hR1 _ ?_ (fun zq bq tq yq hUq => ?_)); (focus (refine EndOk.mk (by cbv) (by cbv) (by cbv; repeat' (first | exact True.intro | exact rfl | with_reducible refine And.intro ?_ ?_)) (by cbv; repeat' (first | exact True.intro | exact rfl | with_reducible refine And.intro ?_ ?_)) (by cbv; repeat' (first | exact True.intro | exact rfl | with_reducible refine And.intro ?_ ?_)))); (have q28 := hUq.z 28); (cbv at q28); (replace q28 := q28.eq); (simp only [atI, vem, veq, ne_eq, cmpI, arI, dvI, shI, SV.den] at q28); (have q8 := hUq.z 8); (cbv at q8); (replace q8 := q8.eq); (simp only [atI, vem, veq, ne_eq, cmpI, arI, dvI, shI, SV.den] at q8); (clear hUq hR1); (try dsimp only [Shp.D, Shp.Ds, Shp.dflt] at *); (try simp only [vem, veq, ne_eq, cmpI, arI, dvI, shI, SV.den, elemAt, convL_self] at *); (try dsimp only [Shp.D, Shp.Ds, Shp.dflt, Shp.dflts] at *)); (try ((try dsimp only [Shp.D, Shp.Ds, Shp.dflt] at *); simp only [vem, veq, ne_eq, cmpI, arI, dvI, shI, SV.den, obLt, elemAt, obApp, partL, obPart, lowD, highD, mxOk, convL_self, zerosB, List.length_replicate, vln] at *; (try dsimp only [Shp.D, Shp.Ds, Shp.dflt, Shp.dflts] at *))); exact cn_fin r4 r3 (by assumption) p1 hlt g8 q8 q28)
theorem law_ProposalCounts (x : Shp.Ds cutAs) (w : World) (vals : List Value) (hr : ArgsRep w cutAs x vals) (hi : inrs cutAs x) : Calls Try.prog 6 vals.toArray w fun e w' => e = .returned (.bool true) ∧ Below w.heap.size w w' :=
  law_of_vc Try.func6 (by kernel_rfl) pcoC_cx hr (cnt_vc x hi)
end Go.Proofs.Ytkeefgiajogkkaa.V
