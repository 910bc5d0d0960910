/- Contracts: proposals are written (both texts compute the same bytes). -/
import Derived.Test.YtkeefgiajogkkaaVPk
import Derived.Test.YtkeefgiajogkkaaVPl
import Derived.Test.YtkeefgiajogkkaaVP
set_option linter.unusedVariables false
set_option linter.unusedSimpArgs false
namespace Go.Proofs.Ytkeefgiajogkkaa.V
open Go.RowKit
set_option maxHeartbeats 8000000
set_option maxRecDepth 100000
def relS (S : TypeId → Option Shp) (Sp : Spec) : Spec := fun lo hi id args s K =>
 match relitL S lo hi s.heap s.ents (id + 32) args with
 | ⟨args', H, G, _, ob⟩ => obsK ob (Sp lo hi id args' ⟨s.fr, s.n, H, G, s.next⟩ K)
theorem relS_ok {P : Program} {E : Env} {x : CxE} {f : FuncId} {S : TypeId → Option Shp} {Sp : Spec} (h : SpecOk P E f Sp) : SpecOkI P E x f (relS S Sp) := by
 refine ⟨h.fn, fun lo hi id args s K hlo hhi hs ρ w hh hargs => ?_⟩
 unfold relS at hs
 obtain ⟨ho, hs⟩ := obsK_spec hs
 obtain ⟨ρ1, k1, k2⟩ := relitL_sound (S := S) hlo hhi args (n := id + 32) hh ho
 have e1 : ∀ ρ'', Agr ρ1 ρ'' (relitL S lo hi s.heap s.ents (id + 32) args).H (relitL S lo hi s.heap s.ents (id + 32) args).G → SV.dens ρ'' (relitL S lo hi s.heap s.ents (id + 32) args).v = SV.dens ρ args := fun ρ'' hr => by
  rw [(k2 ρ'' hr).2]; exact hargs ρ'' (k2 ρ'' hr).1
 have e2 := e1 ρ1 (Agr.refl _ _ _)
 rw [← e2]
 refine (h.calls lo hi id _ ⟨s.fr, s.n, _, _, s.next⟩ K hlo hhi hs ρ1 w k1 fun ρ' hr => by rw [e2]; exact e1 ρ' hr).mono fun e w' hw => ?_
 obtain ⟨v, s', ρ', q1, q2, q3, q4, _⟩ := hw
 exact .inl ⟨v, s', ρ', q1, q2, q3, fun ρ'' hr => ⟨(k2 ρ'' (q4 ρ'' hr).1).1, (q4 ρ'' hr).2⟩⟩
theorem wriB {x : Int} (h : -9223372036854775808 ≤ x ∧ x < 9223372036854775808) : (x + 9223372036854775808) % 18446744073709551616 - 9223372036854775808 = x := by omega
theorem putF_len2 (v : Int) : (putF v 2).length = 2 := by rw [putF, if_pos (by omega), putB_length]; rfl
def trB (t : TrT) : List UInt8 := [toB (IntKind.u8.wrap t.1), toB 0] ++ putF (IntKind.u64.wrap t.2.1) 2 ++ (if t.2.2.1 = 0 then [] else putF 32782 2 ++ putF (IntKind.u64.wrap t.2.2.1) 2)
def partB (m : Int) (body : List UInt8) : List UInt8 := [toB m, toB 0] ++ putF (IntKind.u64.wrap ((body.length : Int) + 4)) 2 ++ body
def trsB : List TrT → List UInt8
 | [] => []
 | t :: l => partB (if l.length = 0 then 0 else 3) (trB t) ++ trsB l
def hdB (p : PrT) : List UInt8 := [toB (IntKind.u8.wrap p.1), toB (IntKind.u8.wrap p.2.1), toB (IntKind.u8.wrap p.2.2.1.length), toB (IntKind.u8.wrap p.2.2.2.1.length)] ++ p.2.2.1
def prB (p : PrT) : List UInt8 := hdB p ++ trsB p.2.2.2.1
def prsB : List PrT → List UInt8
 | [] => []
 | p :: l => partB (if l.length = 0 then 0 else 2) (prB p) ++ prsB l
def bldF (l : List PrT) : List UInt8 × Int := if chkF l = 0 then (prsB l, 0) else ([], chkF l)
theorem trB_len (t : TrT) : (trB t).length = if t.2.2.1 = 0 then 4 else 8 := by
 unfold trB
 split <;> simp [putF_len2]
theorem partB_len (m : Int) (b : List UInt8) : (partB m b).length = b.length + 4 := by
 unfold partB
 simp [putF_len2]
 omega
theorem trsB_len : ∀ l : List TrT, (trsB l).length ≤ 12 * l.length
 | [] => by simp [trsB]
 | t :: l => by
   have h1 := trsB_len l
   have h2 := trB_len t
   unfold trsB
   rw [List.length_append, partB_len, List.length_cons]
   split at h2 <;> omega
theorem trsB_drop (l : List TrT) (k : Nat) (h : k < l.length) : trsB (l.drop k) = partB (if k < l.length - 1 then 3 else 0) (trB (l.getD k trD0')) ++ trsB (l.drop (k + 1)) := by
 rw [List.drop_eq_getElem_cons h, trsB, List.length_drop, List.getD_eq_getElem?_getD, List.getElem?_eq_getElem h]
 by_cases hk : k < l.length - 1
 ·rw [if_pos hk, if_neg (by omega)]; rfl
 ·rw [if_neg hk, if_pos (by omega)]; rfl
theorem prsB_drop (l : List PrT) (k : Nat) (h : k < l.length) : prsB (l.drop k) = partB (if k < l.length - 1 then 2 else 0) (prB (l.getD k prD0)) ++ prsB (l.drop (k + 1)) := by
 rw [List.drop_eq_getElem_cons h, prsB, List.length_drop, List.getD_eq_getElem?_getD, List.getElem?_eq_getElem h]
 by_cases hk : k < l.length - 1
 ·rw [if_pos hk, if_neg (by omega)]; rfl
 ·rw [if_neg hk, if_pos (by omega)]; rfl
theorem one_0 {p : PrT} {n : Int} (h : oneF p n = 0) : p.1 = n ∧ 1 ≤ p.2.1 ∧ p.2.1 ≤ 3 ∧ ¬ spiBad p.2.1 p.2.2.1.length ∧ 1 ≤ p.2.2.2.1.length ∧ p.2.2.2.1.length ≤ 24 ∧ trsE [] p.2.2.2.1 = 0 := by
 unfold oneF at h
 split at h
 ·cases h
 ·split at h
  ·cases h
  ·split at h
   ·cases h
   ·split at h
    ·cases h
    ·split at h
     ·cases h
     ·refine ⟨by omega, by omega, by omega, by assumption, by omega, by omega, h⟩
theorem chkGo_0 : ∀ {l : List PrT} {n : Int}, chkGo l n = 0 → ∀ k (h : k < l.length), oneF (l.getD k prD0) (n + k) = 0
 | [], _, _, k, h => by simp at h
 | p :: l, n, hc, k, h => by
   unfold chkGo at hc
   split at hc
   ·rename_i h1
    cases k with
    | zero => simpa using h1
    | succ k =>
      have := chkGo_0 hc k (by simpa using h)
      rw [List.getD_cons_succ, show n + ((k + 1 : Nat) : Int) = n + 1 + k by omega]
      exact this
   ·rename_i h1; exact absurd hc h1
theorem chk_0 {l : List PrT} (h : chkF l = 0) : 1 ≤ l.length ∧ l.length ≤ 8 ∧ ∀ k, k < l.length → oneF (l.getD k prD0) (1 + k) = 0 := by
 unfold chkF at h
 split at h
 ·cases h
 ·split at h
  ·cases h
  ·exact ⟨by omega, by omega, fun k hk => chkGo_0 h k hk⟩
theorem spi_8 {p n : Int} (h : ¬ spiBad p n) : n ≤ 8 := by
 unfold spiBad at h
 omega
abbrev partAs : List Shp := [.sl .byte, .bool, .int .u8, .sl .byte]
abbrev partPre : Shp.Ds partAs → Prop := fun x => x.1.length ≤ 10000000 ∧ x.2.2.2.1.length ≤ 10000000 ∧ 0 ≤ x.2.2.1 ∧ x.2.2.1 < 256
abbrev partPost : Shp.Ds partAs → Shp.Ds [.sl .byte] → Prop := fun x y => y.1 = x.1 ++ partB (if x.2.1 = true then x.2.2.1 else 0) x.2.2.2.1
abbrev partSp : Spec := fnSpecT partAs [some 5, none, none, none] [.sl .byte] [.own 5] [] partPre partPost
abbrev wputS : Spec := fnSpecT putAs [some 5, none, none] [.sl .byte] [.own 5] [] putPre putPost
abbrev rputS : Spec := fnSpec putAs [.sl .byte] [5] putPre putPost
def ppaC_t : SpecT := lf0 29 (wputS)
def ppaC : Cx := ⟨tt, qt, bt, st, ppaC_t, 0, 1000000000000000, fun _ => none, false, CxE.no, []⟩
theorem ppaC_si {E : Env} (h : E.ok) : SpecsOk Try.prog E (CxE.no) ppaC_t (fun _ => none) := ⟨(lf0_ok (.inl (wput_sp h))), noI_ok _ _ _⟩
theorem ppaC_x {E : Env} (h : E.ok) : CxEOk Try.prog E (CxE.no) := CxE.no_ok _ _
theorem ppaC_cx (E : Env) (h : E.ok) (h1 : E.lo = 0) (h2 : E.hi = 1000000000000000) : Cx.ok ppaC Try.prog E := ⟨tt_ok, qt_ok, bt_ok, ppaC_si h, h, h1, h2, mixed_ok, ppaC_x h⟩
theorem ppaC_from (lo hi : Nat) (E : Env) (h : E.ok) (h1 : E.lo = lo) (h2 : E.hi = hi) : Cx.ok (Cx.from ppaC lo hi) Try.prog E := ⟨tt_ok, qt_ok, bt_ok, ppaC_si h, h, h1, h2, mixed_ok, ppaC_x h⟩
theorem ppa_fn : hasFn Try.prog 30 := ⟨_, Try.func30, by rfl, by rfl⟩
theorem ppa_sp {E : Env} (hE : E.ok) : SpecOk Try.prog E 30 partSp := by
 refine spec_of_vcT (C := ppaC) ppa_fn Try.func30 (by kernel_rfl) ppaC_cx (fun x hl hx => ?_) hE
 obtain ⟨b, more, m, body, ⟨⟩⟩ := x
 obtain ⟨h1, h2, h3, h4⟩ := hx
 dsimp only [Shp.D, Shp.Ds] at h1 h2 h3 h4
 cbv
 (repeat' (first | ((with_reducible apply And.intro <;> intro h) <;> (first | with_reducible exact (tf h (by assumption)).elim | with_reducible exact (tf (by assumption) h).elim | cbv)) | ((with_reducible show JoinT (fun s K => vc _ (Code.region _ _ true) s K) _ _ _ _ _ _); (with_reducible apply JoinT.mg2); (focus (cbv; (repeat' (first | ((with_reducible apply And.intro <;> intro h) <;> (first | with_reducible exact (tf h (by assumption)).elim | with_reducible exact (tf (by assumption) h).elim | cbv)) | ((with_reducible first | refine Cb.mk ?_ | refine Lz.mk ?_ | refine JoinT.left ?_ | (apply AllT.mk; intro x hx)); cbv) | ((with_reducible refine Ob.mk (fun _ => ?_) ?_); rotate_left 1) | (with_reducible first | refine Mg.mk (Exists.intro ?_ (And.intro ?_ ?_)) | rfl | refine Fin.mk ?_ | exact True.intro | refine And.intro ?_ ?_))); (all_goals (try (have du : Unit := (); have dv : Unit := (); first | exact Goes.self (Ex2.mk ⟨dv, du, trivial, trivial, rfl⟩) | exact Goes.self (Ex2.mk ⟨x, du, hx, trivial, rfl⟩) | (rename_i xa hxa; exact Goes.self (Ex2.mk ⟨xa, x, hxa, hx, rfl⟩))))); (all_goals (fail_if_success (with_reducible first | show Goes _ _ _ _ | show (∃ _, unr _ _ _ _ _ _))))))) | ((with_reducible first | refine Cb.mk ?_ | refine Lz.mk ?_ | refine JoinT.left ?_ | (apply AllT.mk; intro x hx)); cbv) | ((with_reducible refine Ob.mk (fun _ => ?_) ?_); rotate_left 1) | (with_reducible first | refine Mg.mk (Exists.intro ?_ (And.intro ?_ ?_)) | rfl | refine Fin.mk ?_ | exact True.intro | refine And.intro ?_ ?_)))
 all_goals first | (with_reducible show (∃ _, unr _ _ _ _ _ _); skip) | (with_reducible show UnrI _ _ _ _ _; skip) | (with_reducible show Goes _ _ _ _; skip) | (with_reducible show JoinT _ _ _ _ _ _ _; skip) | (first | ((try dsimp only [Shp.D, Shp.Ds, Shp.dflt] at *); simp only [vem, veq, ne_eq, cmpI, arI, dvI, shI, SV.den, obLt, elemAt, obApp, partL, obPart, lowD, highD, mxOk, convL_self, zerosB, List.length_replicate, vln] at *; (try dsimp only [Shp.D, Shp.Ds, Shp.dflt, Shp.dflts] at *); done) | ((try dsimp only [Shp.D, Shp.Ds, Shp.dflt] at *); simp only [vem, veq, ne_eq, cmpI, arI, dvI, shI, SV.den, obLt, elemAt, obApp, partL, obPart, lowD, highD, mxOk, convL_self, zerosB, List.length_replicate, vln] at *; (try dsimp only [Shp.D, Shp.Ds, Shp.dflt, Shp.dflts] at *); omega) | (try ((try dsimp only [Shp.D, Shp.Ds, Shp.dflt] at *); simp only [vem, veq, ne_eq, cmpI, arI, dvI, shI, SV.den, obLt, elemAt, obApp, partL, obPart, lowD, highD, mxOk, convL_self, zerosB, List.length_replicate, vln] at *; (try dsimp only [Shp.D, Shp.Ds, Shp.dflt, Shp.dflts] at *))))
 all_goals
  rw [hx.1.1, wriB (by omega)]
  unfold partB
  simp only [List.append_assoc]
  cases more
  ·first | rfl | (simp at h; done)
  ·first | rfl | (simp at h; done)
theorem bt_step {ts : List TrT} {acc : List UInt8} {T : List UInt8} {k kq : Int} {m : Int} (h : acc ++ trsB (ts.drop k.toNat) = T) (h0 : 0 ≤ k) (hk : k < ts.length) (hm : m = if k < (ts.length : Int) - 1 then 3 else 0) (q : k + 1 = kq) : (acc ++ partB m (trB (ts.getD k.toNat (0, 0, 0, ())))) ++ trsB (ts.drop kq.toNat) = T := by
 rw [← h, trsB_drop ts k.toNat (by omega), ← q, show (k + 1).toNat = k.toNat + 1 by omega, ← List.append_assoc, hm]
 congr 4
 exact propext ⟨fun _ => by omega, fun _ => by omega⟩
theorem bp_step {l : List PrT} {acc : List UInt8} {T : List UInt8} {k kq : Int} {m : Int} (h : acc ++ prsB (l.drop k.toNat) = T) (h0 : 0 ≤ k) (hk : k < l.length) (hm : m = if k < (l.length : Int) - 1 then 2 else 0) (q : k + 1 = kq) : (acc ++ partB m (prB (l.getD k.toNat (0, 0, [], [], ())))) ++ prsB (l.drop kq.toNat) = T := by
 rw [← h, prsB_drop l k.toNat (by omega), ← q, show (k + 1).toNat = k.toNat + 1 by omega, ← List.append_assoc, hm]
 congr 4
 exact propext ⟨fun _ => by omega, fun _ => by omega⟩
theorem chk_at {l : List PrT} (h : chkF l = 0) {k : Int} (h0 : 0 ≤ k) (hk : k < l.length) : (l.getD k.toNat (0, 0, [], [], ())).2.2.1.length ≤ 8 ∧ (l.getD k.toNat (0, 0, [], [], ())).2.2.2.1.length ≤ 24 := by
 obtain ⟨_, _, h3⟩ := chk_0 h
 obtain ⟨_, _, _, a4, _, a6, _⟩ := one_0 (h3 k.toNat (by omega))
 have := spi_8 a4
 exact ⟨by have : ((l.getD k.toNat prD0).2.2.1.length : Int) ≤ 8 := this; exact Int.ofNat_le.1 this, a6⟩
theorem trb_0 {t : TrT} {x : List UInt8} (h : t.2.2.1 = 0) (hx : x = [toB (IntKind.u8.wrap t.1), toB 0] ++ putF (IntKind.u64.wrap t.2.1) 2) : x = trB t := by
 unfold trB
 rw [if_pos h, List.append_nil, hx]
theorem trb_1 {t : TrT} {x y z : List UInt8} (h : ¬ t.2.2.1 = 0) (hx : x = [toB (IntKind.u8.wrap t.1), toB 0] ++ putF (IntKind.u64.wrap t.2.1) 2) (hy : y = x ++ putF 32782 2) (hz : z = y ++ putF (IntKind.u64.wrap t.2.2.1) 2) : z = trB t := by
 unfold trB
 rw [if_neg h, hz, hy, hx]
 simp only [List.append_assoc]
theorem bt_go {ts : List TrT} {acc aq x0 x T : List UInt8} {k kq : Int} (h : acc ++ trsB (ts.drop k.toNat) = T) (h0 : 0 ≤ k) (hk : k < ts.length) (h24 : ts.length ≤ 24) (hl : (acc.length : Int) ≤ 12 + 16 * k)
    (hx : x = acc ++ partB (if k < ((ts.length : Int) - 1 + 9223372036854775808) % 18446744073709551616 - 9223372036854775808 then 3 else 0) x0) (hx0 : x0 = trB (ts.getD k.toNat (0, 0, 0, ()))) (q : (k + 1 + 9223372036854775808) % 18446744073709551616 - 9223372036854775808 = kq) (qx : x = aq) :
    (0 ≤ kq ∧ kq ≤ ts.length ∧ (aq.length : Int) ≤ 12 + 16 * kq ∧ aq ++ trsB (ts.drop kq.toNat) = T) ∧ ((ts.length : Int) - kq).toNat < ((ts.length : Int) - k).toNat := by
 rw [wriB (by omega)] at q hx
 have e := bt_step h h0 hk rfl q
 have hb := trB_len (ts.getD k.toNat (0, 0, 0, ()))
 subst qx hx hx0
 refine ⟨⟨by omega, by omega, ?_, e⟩, by omega⟩
 rw [List.length_append, partB_len]
 split at hb <;> omega
theorem bp_go {l : List PrT} {acc aq x x0 T : List UInt8} {k kq z : Int} (h : acc ++ prsB (l.drop k.toNat) = T) (h0 : 0 ≤ k) (hk : k < l.length) (h8 : l.length ≤ 8) (hl : (acc.length : Int) ≤ 408 * k) (hz : ¬ z < ((l.getD k.toNat (0, 0, [], [], ())).2.2.2.1.length : Int)) (hz1 : z ≤ 24) (hxl : (x0.length : Int) ≤ 12 + 16 * z)
    (hx : x = acc ++ partB (if k < ((l.length : Int) - 1 + 9223372036854775808) % 18446744073709551616 - 9223372036854775808 then 2 else 0) x0) (hx0 : x0 ++ trsB ((l.getD k.toNat (0, 0, [], [], ())).2.2.2.1.drop z.toNat) = prB (l.getD k.toNat (0, 0, [], [], ()))) (q : (k + 1 + 9223372036854775808) % 18446744073709551616 - 9223372036854775808 = kq) (qx : x = aq) :
    (0 ≤ kq ∧ kq ≤ l.length ∧ (aq.length : Int) ≤ 408 * kq ∧ aq ++ prsB (l.drop kq.toNat) = T) ∧ ((l.length : Int) - kq).toNat < ((l.length : Int) - k).toNat := by
 rw [wriB (by omega)] at q hx
 rw [List.drop_eq_nil_of_le (by omega), trsB, List.append_nil] at hx0
 have e := bp_step h h0 hk rfl q
 subst qx hx hx0
 refine ⟨⟨by omega, by omega, ?_, e⟩, by omega⟩
 rw [List.length_append, partB_len]
 omega
abbrev pbuSp : Spec := fnSpec [.sl prE] [.sl .byte, .int .i64] [5] (fun _ => True) fun x y => (y.1, y.2.1) = bldF x.1
def pbuC_t : SpecT := nd0 30 (lf0 19 (chkS)) (lf0 30 (partSp))
def pbuC_i : SpecT := lf0 29 (relS st (wputS))
def pbuC : Cx := ⟨tt, qt, bt, st, pbuC_t, 0, 1000000000000000, pbuC_i, true, CxE.no, []⟩
theorem pbuC_si {E : Env} (h : E.ok) : SpecsOk Try.prog E (CxE.no) pbuC_t (pbuC_i) := ⟨(nd0_ok (lf0_ok (.inl (pck_sp h))) (lf0_ok (.inl (ppa_sp h)))), (lf0_ok (relS_ok (wput_sp h)))⟩
theorem pbuC_x {E : Env} (h : E.ok) : CxEOk Try.prog E (CxE.no) := CxE.no_ok _ _
theorem pbuC_cx (E : Env) (h : E.ok) (h1 : E.lo = 0) (h2 : E.hi = 1000000000000000) : Cx.ok pbuC Try.prog E := ⟨tt_ok, qt_ok, bt_ok, pbuC_si h, h, h1, h2, mixed_ok, pbuC_x h⟩
theorem pbuC_from (lo hi : Nat) (E : Env) (h : E.ok) (h1 : E.lo = lo) (h2 : E.hi = hi) : Cx.ok (Cx.from pbuC lo hi) Try.prog E := ⟨tt_ok, qt_ok, bt_ok, pbuC_si h, h, h1, h2, mixed_ok, pbuC_x h⟩
theorem pbu_fn : hasFn Try.prog 17 := ⟨_, Try.func17, by rfl, by rfl⟩
theorem pbu_sp {E : Env} (hE : E.ok) : SpecOk Try.prog E 17 pbuSp := by
 refine spec_of_vc (C := pbuC) pbu_fn Try.func17 (by kernel_rfl) pbuC_cx (fun x hl hx => ?_) hE
 obtain ⟨l, ⟨⟩⟩ := x
 cbv
 (repeat' (first | ((with_reducible apply And.intro <;> intro h) <;> (first | with_reducible exact (tf h (by assumption)).elim | with_reducible exact (tf (by assumption) h).elim | cbv)) | ((with_reducible show JoinT (fun s K => vc _ (Code.region _ _ true) s K) _ _ _ _ _ _); (with_reducible apply JoinT.mg2); (focus (cbv; (repeat' (first | ((with_reducible apply And.intro <;> intro h) <;> (first | with_reducible exact (tf h (by assumption)).elim | with_reducible exact (tf (by assumption) h).elim | cbv)) | ((with_reducible first | refine Cb.mk ?_ | refine Lz.mk ?_ | refine JoinT.left ?_ | (apply AllT.mk; intro x hx)); cbv) | ((with_reducible refine Ob.mk (fun _ => ?_) ?_); rotate_left 1) | (with_reducible first | refine Mg.mk (Exists.intro ?_ (And.intro ?_ ?_)) | rfl | refine Fin.mk ?_ | exact True.intro | refine And.intro ?_ ?_))); (all_goals (try (have du : Unit := (); have dv : Unit := (); first | exact Goes.self (Ex2.mk ⟨dv, du, trivial, trivial, rfl⟩) | exact Goes.self (Ex2.mk ⟨x, du, hx, trivial, rfl⟩) | (rename_i xa hxa; exact Goes.self (Ex2.mk ⟨xa, x, hxa, hx, rfl⟩))))); (all_goals (fail_if_success (with_reducible first | show Goes _ _ _ _ | show (∃ _, unr _ _ _ _ _ _))))))) | ((with_reducible first | refine Cb.mk ?_ | refine Lz.mk ?_ | refine JoinT.left ?_ | (apply AllT.mk; intro x hx)); cbv) | ((with_reducible refine Ob.mk (fun _ => ?_) ?_); rotate_left 1) | (with_reducible first | refine Mg.mk (Exists.intro ?_ (And.intro ?_ ?_)) | rfl | refine Fin.mk ?_ | exact True.intro | refine And.intro ?_ ?_)))
 all_goals first | (with_reducible show (∃ _, unr _ _ _ _ _ _); skip) | (with_reducible show UnrI _ _ _ _ _; skip) | (with_reducible show Goes _ _ _ _; skip) | (with_reducible show JoinT _ _ _ _ _ _ _; skip) | (first | ((try dsimp only [Shp.D, Shp.Ds, Shp.dflt] at *); simp only [vem, veq, ne_eq, cmpI, arI, dvI, shI, SV.den, obLt, elemAt, obApp, partL, obPart, lowD, highD, mxOk, convL_self, zerosB, List.length_replicate, vln] at *; (try dsimp only [Shp.D, Shp.Ds, Shp.dflt, Shp.dflts] at *); done) | ((try dsimp only [Shp.D, Shp.Ds, Shp.dflt] at *); simp only [vem, veq, ne_eq, cmpI, arI, dvI, shI, SV.den, obLt, elemAt, obApp, partL, obPart, lowD, highD, mxOk, convL_self, zerosB, List.length_replicate, vln] at *; (try dsimp only [Shp.D, Shp.Ds, Shp.dflt, Shp.dflts] at *); omega) | (try ((try dsimp only [Shp.D, Shp.Ds, Shp.dflt] at *); simp only [vem, veq, ne_eq, cmpI, arI, dvI, shI, SV.den, obLt, elemAt, obApp, partL, obPart, lowD, highD, mxOk, convL_self, zerosB, List.length_replicate, vln] at *; (try dsimp only [Shp.D, Shp.Ds, Shp.dflt, Shp.dflts] at *))))
 ·unfold bldF; rw [if_neg (by assumption)]
 have hc : chkF l = 0 := by ((try dsimp only [Shp.D, Shp.Ds, Shp.dflt] at *); simp only [vem, veq, ne_eq, cmpI, arI, dvI, shI, SV.den, obLt, elemAt, obApp, partL, obPart, lowD, highD, mxOk, convL_self, zerosB, List.length_replicate, vln] at *; (try dsimp only [Shp.D, Shp.Ds, Shp.dflt, Shp.dflts] at *); assumption)
 obtain ⟨c1, c2, c3⟩ := chk_0 hc
 have hb : bldF l = (prsB l, 0) := by unfold bldF; rw [if_pos hc]
 with_reducible refine loop_hv [(5, 900001, 5, .byte)] (6 :: 7 :: 8 :: 9 :: 10 :: 11 :: rangeN 20 67) [] [900001] (fun z b t y => 0 ≤ z 19 ∧ z 19 ≤ (l.length : Int) ∧ ((y 900001 .byte).length : Int) ≤ 408 * z 19 ∧ y 900001 .byte ++ prsB (l.drop (z 19).toNat) = prsB l) (fun z b t y => ((l.length : Int) - z 19).toNat) (by cbv) (by cbv) ?_ ?_ (fun z1 b1 t1 u1 y1 R1 hP1 hR1 => ?_)
 ·exact EndOk.au
 ·intro zq bq tq yq hUq
  have q19 := hUq.z 19
  have qy900001 := hUq.y 900001 (.byte)
  cbv at q19 qy900001
  replace q19 := q19.eq
  replace qy900001 := qy900001.eq
  simp only [atI, atB, atT, atY, convL_self, vem, veq, ne_eq, cmpI, arI, dvI, shI, SV.den] at q19 qy900001
  clear hUq
  try dsimp only [Shp.D, Shp.Ds, Shp.dflt] at *
  try simp only [vem, veq, ne_eq, cmpI, arI, dvI, shI, SV.den, convL_self] at *
  rw [← q19, ← qy900001]
  exact ⟨by omega, by omega, by simp, rfl⟩
 obtain ⟨p1, p2, p3, p4⟩ := hP1
 cbv
 (repeat' (first | ((with_reducible apply And.intro <;> intro h) <;> (first | with_reducible exact (tf h (by assumption)).elim | with_reducible exact (tf (by assumption) h).elim | cbv)) | ((with_reducible show JoinT (fun s K => vc _ (Code.region _ _ true) s K) _ _ _ _ _ _); (with_reducible apply JoinT.mg2); (focus (cbv; (repeat' (first | ((with_reducible apply And.intro <;> intro h) <;> (first | with_reducible exact (tf h (by assumption)).elim | with_reducible exact (tf (by assumption) h).elim | cbv)) | ((with_reducible first | refine Cb.mk ?_ | refine Lz.mk ?_ | refine JoinT.left ?_ | (apply AllT.mk; intro x hx)); cbv) | ((with_reducible refine Ob.mk (fun _ => ?_) ?_); rotate_left 1) | (with_reducible first | refine Mg.mk (Exists.intro ?_ (And.intro ?_ ?_)) | rfl | refine Fin.mk ?_ | exact True.intro | refine And.intro ?_ ?_))); (all_goals (try (have du : Unit := (); have dv : Unit := (); first | exact Goes.self (Ex2.mk ⟨dv, du, trivial, trivial, rfl⟩) | exact Goes.self (Ex2.mk ⟨x, du, hx, trivial, rfl⟩) | (rename_i xa hxa; exact Goes.self (Ex2.mk ⟨xa, x, hxa, hx, rfl⟩))))); (all_goals (fail_if_success (with_reducible first | show Goes _ _ _ _ | show (∃ _, unr _ _ _ _ _ _))))))) | ((with_reducible first | refine Cb.mk ?_ | refine Lz.mk ?_ | refine JoinT.left ?_ | (apply AllT.mk; intro x hx)); cbv) | ((with_reducible refine Ob.mk (fun _ => ?_) ?_); rotate_left 1) | (with_reducible first | refine Mg.mk (Exists.intro ?_ (And.intro ?_ ?_)) | rfl | refine Fin.mk ?_ | exact True.intro | refine And.intro ?_ ?_)))
 all_goals first | (with_reducible show (∃ _, unr _ _ _ _ _ _); skip) | (with_reducible show UnrI _ _ _ _ _; skip) | (with_reducible show Goes _ _ _ _; skip) | (with_reducible show JoinT _ _ _ _ _ _ _; skip) | (first | ((try dsimp only [Shp.D, Shp.Ds, Shp.dflt] at *); simp only [vem, veq, ne_eq, cmpI, arI, dvI, shI, SV.den, obLt, elemAt, obApp, partL, obPart, lowD, highD, mxOk, convL_self, zerosB, List.length_replicate, vln] at *; (try dsimp only [Shp.D, Shp.Ds, Shp.dflt, Shp.dflts] at *); done) | ((try dsimp only [Shp.D, Shp.Ds, Shp.dflt] at *); simp only [vem, veq, ne_eq, cmpI, arI, dvI, shI, SV.den, obLt, elemAt, obApp, partL, obPart, lowD, highD, mxOk, convL_self, zerosB, List.length_replicate, vln] at *; (try dsimp only [Shp.D, Shp.Ds, Shp.dflt, Shp.dflts] at *); omega) | (try ((try dsimp only [Shp.D, Shp.Ds, Shp.dflt] at *); simp only [vem, veq, ne_eq, cmpI, arI, dvI, shI, SV.den, obLt, elemAt, obApp, partL, obPart, lowD, highD, mxOk, convL_self, zerosB, List.length_replicate, vln] at *; (try dsimp only [Shp.D, Shp.Ds, Shp.dflt, Shp.dflts] at *))))
 all_goals first
  | (with_reducible show (∃ _, unr _ _ _ _ _ _); skip)
  | (have hs := (chk_at hc p1 (by assumption)).1; refine ⟨?_, ?_⟩ <;> omega)
  | (rw [List.drop_eq_nil_of_le (by omega)] at p4; simp only [prsB, List.append_nil] at p4; rw [hb, p4])
 have hlt : z1 19 < (l.length : Int) := by ((try dsimp only [Shp.D, Shp.Ds, Shp.dflt] at *); simp only [vem, veq, ne_eq, cmpI, arI, dvI, shI, SV.den, obLt, elemAt, obApp, partL, obPart, lowD, highD, mxOk, convL_self, zerosB, List.length_replicate, vln] at *; (try dsimp only [Shp.D, Shp.Ds, Shp.dflt, Shp.dflts] at *); assumption)
 obtain ⟨s1, s2⟩ := chk_at hc p1 hlt
 with_reducible refine loop_hv [(8, 900002, 5, .byte)] (9 :: 10 :: 11 :: 38 :: 41 :: rangeN 46 41) [] [900002] (fun z b t y => 0 ≤ z 45 ∧ z 45 ≤ ((l.getD (z1 19).toNat (0, 0, [], [], ())).2.2.2.1.length : Int) ∧ ((y 900002 .byte).length : Int) ≤ 12 + 16 * z 45 ∧ y 900002 .byte ++ trsB ((l.getD (z1 19).toNat (0, 0, [], [], ())).2.2.2.1.drop (z 45).toNat) = prB (l.getD (z1 19).toNat (0, 0, [], [], ()))) (fun z b t y => ((((l.getD (z1 19).toNat (0, 0, [], [], ())).2.2.2.1.length : Nat) : Int) - z 45).toNat) (by cbv) (by cbv) ?_ ?_ (fun z2 b2 t2 u2 y2 R2 hP2 hR2 => ?_)
 ·exact EndOk.au
 ·intro zq bq tq yq hUq
  have q45 := hUq.z 45
  have qy900002 := hUq.y 900002 (.byte)
  cbv at q45 qy900002
  replace q45 := q45.eq
  replace qy900002 := qy900002.eq
  simp only [atI, atB, atT, atY, convL_self, vem, veq, ne_eq, cmpI, arI, dvI, shI, SV.den] at q45 qy900002
  clear hUq
  try dsimp only [Shp.D, Shp.Ds, Shp.dflt] at *
  try simp only [vem, veq, ne_eq, cmpI, arI, dvI, shI, SV.den, convL_self] at *
  ((try dsimp only [Shp.D, Shp.Ds, Shp.dflt] at *); simp only [vem, veq, ne_eq, cmpI, arI, dvI, shI, SV.den, obLt, elemAt, obApp, partL, obPart, lowD, highD, mxOk, convL_self, zerosB, List.length_replicate, vln] at *; (try dsimp only [Shp.D, Shp.Ds, Shp.dflt, Shp.dflts] at *))
  rw [← q45, ← qy900002]
  have s1' : (l.getD (z1 19).toNat (0, 0, [], [], ())).2.2.1.length ≤ 8 := s1
  exact ⟨by omega, by omega, by simp only [List.length_append, List.length_cons, List.length_nil]; omega, rfl⟩
 obtain ⟨r1, r2, r3, r4⟩ := hP2
 have hz : z2 45 ≤ 24 := by omega
 cbv
 (repeat' (first | ((with_reducible apply And.intro <;> intro h) <;> (first | with_reducible exact (tf h (by assumption)).elim | with_reducible exact (tf (by assumption) h).elim | cbv)) | ((with_reducible show JoinT (fun s K => vc _ (Code.region _ _ true) s K) _ _ _ _ _ _); (with_reducible apply JoinT.mg2); (focus (cbv; (repeat' (first | ((with_reducible apply And.intro <;> intro h) <;> (first | with_reducible exact (tf h (by assumption)).elim | with_reducible exact (tf (by assumption) h).elim | cbv)) | ((with_reducible first | refine Cb.mk ?_ | refine Lz.mk ?_ | refine JoinT.left ?_ | (apply AllT.mk; intro x hx)); cbv) | ((with_reducible refine Ob.mk (fun _ => ?_) ?_); rotate_left 1) | (with_reducible first | refine Mg.mk (Exists.intro ?_ (And.intro ?_ ?_)) | rfl | refine Fin.mk ?_ | exact True.intro | refine And.intro ?_ ?_))); (all_goals (try (have du : Unit := (); have dv : Unit := (); first | exact Goes.self (Ex2.mk ⟨dv, du, trivial, trivial, rfl⟩) | exact Goes.self (Ex2.mk ⟨x, du, hx, trivial, rfl⟩) | (rename_i xa hxa; exact Goes.self (Ex2.mk ⟨xa, x, hxa, hx, rfl⟩))))); (all_goals (fail_if_success (with_reducible first | show Goes _ _ _ _ | show (∃ _, unr _ _ _ _ _ _))))))) | ((with_reducible first | refine Cb.mk ?_ | refine Lz.mk ?_ | refine JoinT.left ?_ | (apply AllT.mk; intro x hx)); cbv) | ((with_reducible refine Ob.mk (fun _ => ?_) ?_); rotate_left 1) | (with_reducible first | refine Mg.mk (Exists.intro ?_ (And.intro ?_ ?_)) | rfl | refine Fin.mk ?_ | exact True.intro | refine And.intro ?_ ?_)))
 all_goals first | (with_reducible show (∃ _, unr _ _ _ _ _ _); skip) | (with_reducible show UnrI _ _ _ _ _; skip) | (with_reducible show Goes _ _ _ _; skip) | (with_reducible show JoinT _ _ _ _ _ _ _; skip) | (first | ((try dsimp only [Shp.D, Shp.Ds, Shp.dflt] at *); simp only [vem, veq, ne_eq, cmpI, arI, dvI, shI, SV.den, obLt, elemAt, obApp, partL, obPart, lowD, highD, mxOk, convL_self, zerosB, List.length_replicate, vln] at *; (try dsimp only [Shp.D, Shp.Ds, Shp.dflt, Shp.dflts] at *); done) | ((try dsimp only [Shp.D, Shp.Ds, Shp.dflt] at *); simp only [vem, veq, ne_eq, cmpI, arI, dvI, shI, SV.den, obLt, elemAt, obApp, partL, obPart, lowD, highD, mxOk, convL_self, zerosB, List.length_replicate, vln] at *; (try dsimp only [Shp.D, Shp.Ds, Shp.dflt, Shp.dflts] at *); omega) | (try ((try dsimp only [Shp.D, Shp.Ds, Shp.dflt] at *); simp only [vem, veq, ne_eq, cmpI, arI, dvI, shI, SV.den, obLt, elemAt, obApp, partL, obPart, lowD, highD, mxOk, convL_self, zerosB, List.length_replicate, vln] at *; (try dsimp only [Shp.D, Shp.Ds, Shp.dflt, Shp.dflts] at *))))
 all_goals first
  | (((with_reducible refine hR2 _ ?_ (fun zq bq tq yq hUq => ?_)); (focus (exact EndOk.au)); (have q45 := hUq.z 45); (have qy900002 := hUq.y 900002 (.byte)); (cbv at q45 qy900002); (replace q45 := q45.eq); (replace qy900002 := qy900002.eq); (simp only [atI, atB, atT, atY, convL_self, vem, veq, ne_eq, cmpI, arI, dvI, shI, SV.den] at q45 qy900002); (clear hUq hR2); (try dsimp only [Shp.D, Shp.Ds, Shp.dflt] at *); (try simp only [vem, veq, ne_eq, cmpI, arI, dvI, shI, SV.den, elemAt, convL_self] at *); (try dsimp only [Shp.D, Shp.Ds, Shp.dflt, Shp.dflts] at *)); (try ((try dsimp only [Shp.D, Shp.Ds, Shp.dflt] at *); simp only [vem, veq, ne_eq, cmpI, arI, dvI, shI, SV.den, obLt, elemAt, obApp, partL, obPart, lowD, highD, mxOk, convL_self, zerosB, List.length_replicate, vln] at *; (try dsimp only [Shp.D, Shp.Ds, Shp.dflt, Shp.dflts] at *))); exact bt_go r4 r1 (by assumption) s2 r3 (‹_ = _ ++ partB _ _ ∧ Shp.lims _ _›).1 (trb_0 (by assumption) (‹(_ = [_, _] ++ putF _ _ ∧ _) ∧ Shp.lims _ _›).1.1) q45 qy900002)
  | (((with_reducible refine hR2 _ ?_ (fun zq bq tq yq hUq => ?_)); (focus (exact EndOk.au)); (have q45 := hUq.z 45); (have qy900002 := hUq.y 900002 (.byte)); (cbv at q45 qy900002); (replace q45 := q45.eq); (replace qy900002 := qy900002.eq); (simp only [atI, atB, atT, atY, convL_self, vem, veq, ne_eq, cmpI, arI, dvI, shI, SV.den] at q45 qy900002); (clear hUq hR2); (try dsimp only [Shp.D, Shp.Ds, Shp.dflt] at *); (try simp only [vem, veq, ne_eq, cmpI, arI, dvI, shI, SV.den, elemAt, convL_self] at *); (try dsimp only [Shp.D, Shp.Ds, Shp.dflt, Shp.dflts] at *)); (try ((try dsimp only [Shp.D, Shp.Ds, Shp.dflt] at *); simp only [vem, veq, ne_eq, cmpI, arI, dvI, shI, SV.den, obLt, elemAt, obApp, partL, obPart, lowD, highD, mxOk, convL_self, zerosB, List.length_replicate, vln] at *; (try dsimp only [Shp.D, Shp.Ds, Shp.dflt, Shp.dflts] at *))); exact bt_go r4 r1 (by assumption) s2 r3 (‹_ = _ ++ partB _ _ ∧ Shp.lims _ _›).1 (trb_1 (by assumption) (‹(_ = [_, _] ++ putF _ _ ∧ _) ∧ Shp.lims _ _›).1.1 (‹(_ = _ ++ putF 32782 2 ∧ _) ∧ Shp.lims _ _›).1.1 (‹(_ = _ ++ putF (IntKind.u64.wrap _) 2 ∧ _) ∧ Shp.lims _ _›).1.1) q45 qy900002)
  | (((with_reducible refine hR1 _ ?_ (fun zq bq tq yq hUq => ?_)); (focus (exact EndOk.au)); (have q19 := hUq.z 19); (have qy900001 := hUq.y 900001 (.byte)); (cbv at q19 qy900001); (replace q19 := q19.eq); (replace qy900001 := qy900001.eq); (simp only [atI, atB, atT, atY, convL_self, vem, veq, ne_eq, cmpI, arI, dvI, shI, SV.den] at q19 qy900001); (clear hUq hR1); (try dsimp only [Shp.D, Shp.Ds, Shp.dflt] at *); (try simp only [vem, veq, ne_eq, cmpI, arI, dvI, shI, SV.den, elemAt, convL_self] at *); (try dsimp only [Shp.D, Shp.Ds, Shp.dflt, Shp.dflts] at *)); (try ((try dsimp only [Shp.D, Shp.Ds, Shp.dflt] at *); simp only [vem, veq, ne_eq, cmpI, arI, dvI, shI, SV.den, obLt, elemAt, obApp, partL, obPart, lowD, highD, mxOk, convL_self, zerosB, List.length_replicate, vln] at *; (try dsimp only [Shp.D, Shp.Ds, Shp.dflt, Shp.dflts] at *))); exact bp_go p4 p1 (by assumption) c2 p3 (by assumption) hz r3 (‹_ = _ ++ partB _ _ ∧ Shp.lims _ _›).1 r4 q19 qy900001)
end Go.Proofs.Ytkeefgiajogkkaa.V
