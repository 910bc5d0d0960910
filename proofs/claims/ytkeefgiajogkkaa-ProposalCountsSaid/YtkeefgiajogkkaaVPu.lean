/- The law ProposalCuts. -/
import Derived.Test.YtkeefgiajogkkaaVPn
import Derived.Test.YtkeefgiajogkkaaVL
set_option linter.unusedVariables false
set_option linter.unusedSimpArgs false
namespace Go.Proofs.Ytkeefgiajogkkaa.V
open Go.RowKit
set_option maxHeartbeats 8000000
set_option maxRecDepth 100000
theorem u8_in {v : Int} (h : IntKind.u8.min ≤ v ∧ v ≤ IntKind.u8.max) : 0 ≤ v ∧ v < 256 := by
  rw [show IntKind.u8.min = 0 by decide, show IntKind.u8.max = 255 by decide] at h
  exact ⟨h.1, Int.lt_add_one_of_le h.2⟩
theorem props_chk {pr : Int} {l : List PrT} (h : PropsG pr l) (hp : 1 ≤ pr ∧ pr ≤ 3) (h1 : 1 ≤ l.length) (h8 : (l.length : Int) ≤ 8) : chkF l = 0 := by
  unfold chkF
  rw [if_neg (by omega), if_neg (by omega)]
  refine chkGo_of fun k hk => ?_
  have g := h.ok k hk
  have e1 := g.num
  have e2 := g.prot
  have e3 := g.spi
  have e4 := g.ne
  have e5 := g.le
  unfold oneF
  have d : l.getD k prD0 = l.getD k (0, 0, [], [], ()) := rfl
  rw [d, if_neg (by omega), if_neg (by omega), if_neg, if_neg (by omega), if_neg (by omega)]
  · refine trsE_0 (fun t ht => ?_) g.nd fun t _ hp => by cases hp
    have a1 := g.ty t ht
    have a2 := g.id t ht
    have a3 := g.key t ht
    unfold badT
    omega
  · rw [e3]
    unfold spiBad
    split <;> omega
structure CutG (l : List PrT) (b : List UInt8) : Prop where
  chk : chkF l = 0
  eq : b = prsB l
  ne : 1 ≤ b.length
  le : b.length ≤ 2432
theorem cut_g {l : List PrT} {x : List UInt8} {e : Int} {P Q : Prop} (h : (x, e) = bldF l ∧ P) (hg : (PropsG 1 l ∧ 1 ≤ l.length ∧ (l.length : Int) ≤ 4) ∧ Q) : CutG l x ∧ e = 0 := by
  have hc := props_chk hg.1.1 (by omega) hg.1.2.1 (by omega)
  obtain ⟨h1, h2⟩ := bld_eq h hc
  have h3 := (chk_ok hc).2
  refine ⟨⟨hc, h1, ?_, bld_len h⟩, h2⟩
  rw [h1]
  cases l with
  | nil => exact absurd rfl h3
  | cons p l => rw [prsB, List.length_append, partB_len]; omega
abbrev cutN (v : Int) (b : List UInt8) : Int := ((v + 9223372036854775808) % 18446744073709551616 - 9223372036854775808).tmod (b.length : Int)
theorem cut_n {v : Int} {b : List UInt8} (hv : 0 ≤ v ∧ v < 256) (hb : 1 ≤ b.length) : 0 ≤ cutN v b ∧ cutN v b < b.length := by
  unfold cutN
  rw [show (v + 9223372036854775808) % 18446744073709551616 - 9223372036854775808 = v by omega]
  exact ⟨Int.tmod_nonneg _ hv.1, Int.tmod_lt_of_pos _ (by omega)⟩
theorem cut_f {l m : List PrT} {b : List UInt8} {v f : Int} {P : Prop} (hv : 0 ≤ v ∧ v < 256) (g : CutG l b) (h : (m, f) = parP (List.take ((cutN v b).toNat - Int.toNat 0) (List.drop (Int.toNat 0) b)) ∧ P) : (cutN v b = 0 ∧ f = 1) ∨ (¬ cutN v b = 0 ∧ f = 4) := by
  have hn := cut_n hv g.ne
  have h := congrArg (·.2) h.1
  simp only [Int.toNat_zero, List.drop_zero, Nat.sub_zero] at h
  rw [g.eq] at h hn ⊢
  rw [par_cut g.chk (by omega)] at h
  rw [h]
  split <;> omega
theorem cut_m {l m : List PrT} {b : List UInt8} {x : UInt8} {f : Int} {P : Prop} (g : CutG l b) (h : (m, f) = parP ([] ++ b ++ [x]) ∧ P) : f = 4 := by
  have h := congrArg (·.2) h.1
  rw [List.nil_append, g.eq, par_more g.chk] at h
  exact h
def pcuC_t : SpecT := nd0 10 (nd0 8 (lf0 7 (aw4Sp)) (lf0 8 (newSpec 49))) (nd0 13 (lf0 10 (propS)) (nd0 17 (lf0 13 (ppSp)) (lf0 17 (pbuSp))))
def pcuC : Cx := ⟨tt, qt, bt, st, pcuC_t, 0, 1000000000000000, fun _ => none, false, CxE.no, []⟩
theorem pcuC_si {E : Env} (h : E.ok) : SpecsOk Try.prog E (CxE.no) pcuC_t (fun _ => none) := ⟨(nd0_ok (nd0_ok (lf0_ok (aw4_sp h)) (lf0_ok (new_sp h))) (nd0_ok (lf0_ok (prop_sp h)) (nd0_ok (lf0_ok (pps_sp h)) (lf0_ok (pbu_sp h))))), noI_ok _ _ _⟩
theorem pcuC_x {E : Env} (h : E.ok) : CxEOk Try.prog E (CxE.no) := CxE.no_ok _ _
theorem pcuC_cx (E : Env) (h : E.ok) (h1 : E.lo = 0) (h2 : E.hi = 1000000000000000) : Cx.ok pcuC Try.prog E := ⟨tt_ok, qt_ok, bt_ok, pcuC_si h, h, h1, h2, mixed_ok, pcuC_x h⟩
theorem pcuC_from (lo hi : Nat) (E : Env) (h : E.ok) (h1 : E.lo = lo) (h2 : E.hi = hi) : Cx.ok (Cx.from pcuC lo hi) Try.prog E := ⟨tt_ok, qt_ok, bt_ok, pcuC_si h, h, h1, h2, mixed_ok, pcuC_x h⟩
abbrev cutAs : List Shp := [.sl .byte, .int .u8]
theorem cut_vc (x : Shp.Ds cutAs) (hi : inrs cutAs x) : vcLaw pcuC Try.f5 cutAs x := by
  obtain ⟨codes, v, u⟩ := x
  have hv := u8_in hi.2.1
  clear hi
  cbv
  (repeat' (first | ((with_reducible refine And.intro (fun h => ?_) (fun h => ?_)) <;> (first | with_reducible exact (tf h (by assumption)).elim | with_reducible exact (tf (by assumption) h).elim | cbv)) | ((with_reducible show JoinT (fun s K => vc _ (Code.region _ _ true) s K) _ _ _ _ _); (with_reducible apply JoinT.mg2); (focus (cbv; (repeat' (first | ((with_reducible refine And.intro (fun h => ?_) (fun h => ?_)) <;> (first | with_reducible exact (tf h (by assumption)).elim | with_reducible exact (tf (by assumption) h).elim | cbv)) | ((with_reducible first | refine Cb.mk ?_ | refine Lz.mk ?_ | refine JoinT.left ?_ | refine AllT.mk (fun x hx => ?_)); cbv) | ((with_reducible refine Ob.mk (fun _ => ?_) ?_); rotate_left 1) | (with_reducible first | refine Mg.mk (Exists.intro ?_ (And.intro ?_ ?_)) | rfl | refine Fin.mk ?_ | exact True.intro | refine And.intro ?_ ?_))); (all_goals (try (have du : Unit := (); have dv : Unit := (); first | exact Goes.self (Ex2.mk ⟨dv, du, trivial, trivial, rfl⟩) | exact Goes.self (Ex2.mk ⟨x, du, hx, trivial, rfl⟩) | (rename_i xa hxa; exact Goes.self (Ex2.mk ⟨xa, x, hxa, hx, rfl⟩))))); (all_goals (fail_if_success (with_reducible first | show Goes _ _ _ _ | show (∃ _, unr _ _ _ _ _ _))))))) | ((with_reducible first | refine Cb.mk ?_ | refine Lz.mk ?_ | refine JoinT.left ?_ | refine AllT.mk (fun x hx => ?_)); cbv) | ((with_reducible refine Ob.mk (fun _ => ?_) ?_); rotate_left 1) | (with_reducible first | refine Mg.mk (Exists.intro ?_ (And.intro ?_ ?_)) | rfl | refine Fin.mk ?_ | exact True.intro | refine And.intro ?_ ?_)))
  all_goals first | (with_reducible show (∃ _, unr _ _ _ _ _ _); skip) | (with_reducible show Goes _ _ _ _; skip) | (with_reducible show JoinT _ _ _ _ _ _; skip) | (first | ((try dsimp only [Shp.D, Shp.Ds, Shp.dflt] at *); simp only [vem, veq, ne_eq, cmpI, arI, dvI, shI, SV.den, obLt, elemAt, obApp, partL, obPart, lowD, highD, mxOk, convL_self, zerosB, List.length_replicate, vln] at *; (try dsimp only [Shp.D, Shp.Ds, Shp.dflt, Shp.dflts] at *); done) | ((try dsimp only [Shp.D, Shp.Ds, Shp.dflt] at *); simp only [vem, veq, ne_eq, cmpI, arI, dvI, shI, SV.den, obLt, elemAt, obApp, partL, obPart, lowD, highD, mxOk, convL_self, zerosB, List.length_replicate, vln] at *; (try dsimp only [Shp.D, Shp.Ds, Shp.dflt, Shp.dflts] at *); omega) | (try ((try dsimp only [Shp.D, Shp.Ds, Shp.dflt] at *); simp only [vem, veq, ne_eq, cmpI, arI, dvI, shI, SV.den, obLt, elemAt, obApp, partL, obPart, lowD, highD, mxOk, convL_self, zerosB, List.length_replicate, vln] at *; (try dsimp only [Shp.D, Shp.Ds, Shp.dflt, Shp.dflts] at *))))
  all_goals first
    | (simp_all; done)
    | (obtain ⟨G, E⟩ := cut_g ‹(_, _) = bldF _ ∧ _› ‹(PropsG 1 _ ∧ _) ∧ _›; have hn := cut_n hv G.ne; have h1 := G.ne; have h2 := G.le; first | contradiction | omega | (refine ⟨?_, ?_, ?_⟩ <;> omega) | (refine ⟨?_, ?_, ?_, trivial⟩ <;> omega) | exact ⟨by omega, hn.1, Int.le_of_lt hn.2, trivial⟩ | (simp only [List.length_take, List.length_drop]; omega) | (simp only [List.length_append, List.length_nil, List.length_cons, List.length_take]; omega) | exact cut_m G ‹(_, _) = parP ([] ++ _ ++ [_]) ∧ _› | ((with_reducible show false = true); exfalso; rcases cut_f hv G ‹(_, _) = parP (List.take _ _) ∧ _› with ⟨_, _⟩ | ⟨_, _⟩ <;> contradiction) | skip)
  all_goals trace_state
theorem law_ProposalCuts (x : Shp.Ds cutAs) (w : World) (vals : List Value) (hr : ArgsRep w cutAs x vals) (hi : inrs cutAs x) : Calls Try.prog 5 vals.toArray w fun e w' => e = .returned (.bool true) ∧ Below w.heap.size w w' :=
  law_of_vc Try.func5 (by kernel_rfl) pcuC_cx hr (cut_vc x hi)
end Go.Proofs.Ytkeefgiajogkkaa.V
