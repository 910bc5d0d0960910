import Derived.Test.YtkifmppmfkpfbaaGreatW28
import Derived.Test.YtkifmppmfkpfbaaGreatW21
import Derived.Test.YtkifmppmfkpfbaaGreatW30
import Derived.Test.YtkifmppmfkpfbaaGreatW32
import Derived.Test.YtkifmppmfkpfbaaGreatW29
import Derived.Test.YtkifmppmfkpfbaaGreatW27
set_option linter.unusedVariables false
set_option linter.unusedSimpArgs false
namespace Go.Proofs.YtkifmppmfkpfbaaGreat.V
open Go.RowKit
section
set_option maxHeartbeats 8000000
set_option maxRecDepth 100000
def selrB (s : SelT) : List UInt8 := [toB (if (toSel s).lo.fam = 4 then 7 else 8), toB (IntKind.u8.wrap (toSel s).pr)] ++ (putF (IntKind.u64.wrap (if (toSel s).lo.fam = 4 then 16 else 40)) 2 ++ (putF (IntKind.u64.wrap (toSel s).pl) 2 ++ (putF (IntKind.u64.wrap (toSel s).ph) 2 ++ (adrB (toSel s).lo ++ adrB (toSel s).hi))))
def selrsB : List SelT → List UInt8
 | [] => []
 | s :: l => selrB s ++ selrsB l
abbrev selD : SelT := (0, 0, 0, (0, 0, 0, ()), (0, 0, 0, ()), ())
theorem selrsB_drop (l : List SelT) (k : Nat) (h : k < l.length) : selrsB (l.drop k) = selrB (l.getD k selD) ++ selrsB (l.drop (k + 1)) := by
 rw [List.drop_eq_getElem_cons h, selrsB, List.getD_eq_getElem?_getD, List.getElem?_eq_getElem h]
 rfl
theorem selrB_eq (s : SelT) (k : Int × Int × Int) (h : k = if s.2.2.2.1.1 = 4 then (7, 16, 4) else (8, 40, 16)) (y r : List UInt8) :
    y ++ [toB (IntKind.u8.wrap k.1), toB (IntKind.u8.wrap s.1)] ++ putF (IntKind.u64.wrap k.2.1) 2 ++ putF (IntKind.u64.wrap s.2.1) 2 ++ putF (IntKind.u64.wrap s.2.2.1) 2 ++ adrB (toAdr s.2.2.2.1) ++ adrB (toAdr s.2.2.2.2.1) ++ r = y ++ (selrB s ++ r) := by
 subst h
 simp only [List.append_assoc, List.cons_append, List.nil_append, selrB, toSel]
 by_cases h4 : s.2.2.2.1.1 = 4
 ·simp only [toAdr, h4, if_true]; rfl
 ·simp only [toAdr, h4, if_false]; rfl
def buildF (l : List SelT) : List UInt8 × Int :=
 if l.length = 0 then ([], 8) else if 16 < l.length then ([], 10) else if chkAll l ≠ 0 then ([], chkAll l) else (toB (IntKind.u8.wrap l.length) :: 0 :: 0 :: 0 :: selrsB l, 0)
abbrev buildSp : Spec := fnSpec [.sl selE] [.sl .byte, .int .i64] [5] (fun _ => True) fun x y => (y.1, y.2.1) = buildF x.1
abbrev shapeSp : Spec := fnSpec [.int .i64] [.int .i64, .int .i64, .int .i64] [] (fun _ => True) fun x y => (y.1, y.2.1, y.2.2.1) = if x.1 = 4 then (7, 16, 4) else (8, 40, 16)
def sbC_t : SpecT := nd0 127 (nd0 126 (lf0 66 (fnSpecT putAs [some 5, none, none] [.sl .byte] [.own 5] [] putPre putPost)) (lf0 126 (fnSpec [.sl selE] [.int .i64] [] (fun _ => True) (fun x y => y.1 = chkAll x.1)))) (nd0 128 (lf0 127 (shapeSp)) (lf0 128 (fnSpecT [.sl .byte, adrE] [some 5, none] [.sl .byte] [.own 5] [] paPre paPost)))
def sbC : Cx := ⟨tt, qt, bt, st, sbC_t, 0, 1000000000000000, fun _ => none, false, CxE.no, []⟩
theorem sbC_si {E : Env} (h : E.ok) : SpecsOk Tryz.prog E (CxE.no) sbC_t (fun _ => none) := ⟨(nd0_ok (nd0_ok (lf0_ok (.inl (wput_sp h))) (lf0_ok (.inl (sca_sp h)))) (nd0_ok (lf0_ok (.inl (shape_sp h))) (lf0_ok (.inl (pa_sp h))))), noI_ok _ _ _⟩
theorem sbC_x {E : Env} (h : E.ok) : CxEOk Tryz.prog E (CxE.no) := CxE.no_ok _ _
theorem sbC_cx (E : Env) (h : E.ok) (h1 : E.lo = 0) (h2 : E.hi = 1000000000000000) : Cx.ok sbC Tryz.prog E := ⟨tt_ok, qt_ok, bt_ok, sbC_si h, h, h1, h2, mixed_ok, sbC_x h⟩
theorem sbuild_fn : hasFn Tryz.prog 105 := ⟨_, Tryz.func105, by rfl, by rfl⟩
theorem sbuild_sp {E : Env} (hE : E.ok) : SpecOk Tryz.prog E 105 buildSp := by
 refine spec_of_vc (C := sbC) sbuild_fn Tryz.func105 (by kernel_rfl) sbC_cx (fun x hl hx => ?_) hE
 obtain ⟨l, u⟩ := x
 have hlen : l.length ≤ 140737488355328 := by simp only [Shp.lims, Shp.lim] at hl; exact hl.1.1
 cbv
 (repeat' (first|((with_reducible apply And.intro <;> intro h) <;> (first|(with_reducible first|exact (tf h ‹_›).elim|exact (tf ‹_› h).elim)|cbv))|((with_reducible first|apply Cb.mk|apply Lz.mk|apply JoinT.left|(apply AllT.mk;intro x hx));cbv)|((with_reducible refine Ob.mk (fun _ => ?_) ?_);rotate_left 1)|(with_reducible first|refine Mg.mk (Exists.intro ?_ (And.intro ?_ ?_))|rfl|apply Fin.mk|exact True.intro|apply And.intro)))
 all_goals first|(with_reducible first|show (∃ _, unr _ _ _ _ _ _)|show UnrI _ _ _ _ _|show Goes _ _ _ _|show JoinT _ _ _ _ _ _ _)|((try dsimp only [Shp.D, Shp.Ds, Shp.dflt] at *); simp only [vla, vem, veq, vln] at *; (try dsimp only [Shp.D, Shp.Ds, Shp.dflt, Shp.dflts] at *); unfold buildF; (repeat' split) <;> first | rfl | (exfalso; omega) | (simp_all; done) | (exfalso; simp_all; omega))
 with_reducible refine loop_hv [(5, 900, 5, .byte)] (27 :: rangeN 31 44) [] [900] (fun z b t y => 0 ≤ z 30 ∧ z 30 ≤ (l.length : Int) ∧ ((y 900 .byte).length : Int) ≤ 4 + 100 * z 30 ∧ y 900 .byte ++ selrsB (l.drop (z 30).toNat) = toB (IntKind.u8.wrap l.length) :: 0 :: 0 :: 0 :: selrsB l) (fun z b t y => ((l.length : Int) - z 30).toNat) (by cbv) (by cbv) ?_ ?_ (fun z1 b1 t1 u1 y1 R1 hP1 hR1 => ?_)
 ·exact EndOk.au
 ·intro zq bq tq yq hUq
  have q30 := hUq.z 30
  have qy900 := hUq.y 900 (.byte)
  cbv at q30 qy900
  replace q30 := q30.eq
  replace qy900 := qy900.eq
  simp only [atI, atB, atT, atY, convL_self, vem, veq, ne_eq, cmpI, arI, dvI, shI, SV.den] at q30 qy900
  clear hUq
  try dsimp only [Shp.D, Shp.Ds, Shp.dflt] at *
  try simp only [vla, vem, veq] at *
  rw [← qy900, ← q30]
  exact ⟨by omega, by omega, by simp, rfl⟩
 obtain ⟨p1, p2, p4, p3⟩ := hP1
 cbv
 (repeat' (first|((with_reducible apply And.intro <;> intro h) <;> (first|(with_reducible first|exact (tf h ‹_›).elim|exact (tf ‹_› h).elim)|cbv))|((with_reducible first|apply Cb.mk|apply Lz.mk|apply JoinT.left|(apply AllT.mk;intro x hx));cbv)|((with_reducible refine Ob.mk (fun _ => ?_) ?_);rotate_left 1)|(with_reducible first|refine Mg.mk (Exists.intro ?_ (And.intro ?_ ?_))|rfl|apply Fin.mk|exact True.intro|apply And.intro)))
 all_goals first|(with_reducible first|show (∃ _, unr _ _ _ _ _ _)|show UnrI _ _ _ _ _|show Goes _ _ _ _|show JoinT _ _ _ _ _ _ _)|(first | (((try dsimp only [Shp.D, Shp.Ds, Shp.dflt] at *); simp only [vla, vem, veq, vln] at *; (try dsimp only [Shp.D, Shp.Ds, Shp.dflt, Shp.dflts] at *)) <;> (try simp only [Shp.lims, Shp.lim, IntKind.wrap_u64, IntKind.wrap_u8] at *) <;> omega) | skip)
 all_goals first
  | (with_reducible show Goes _ _ _ _; skip)
  | (refine ⟨4, ?_⟩; (cbv; (repeat' (first|((with_reducible apply And.intro <;> intro h) <;> (first|(with_reducible first|exact (tf h ‹_›).elim|exact (tf ‹_› h).elim)|cbv))|((with_reducible first|apply Cb.mk|apply Lz.mk|apply JoinT.left|(apply AllT.mk;intro x hx));cbv)|((with_reducible refine Ob.mk (fun _ => ?_) ?_);rotate_left 1)|(with_reducible first|refine Mg.mk (Exists.intro ?_ (And.intro ?_ ?_))|rfl|apply Fin.mk|exact True.intro|apply And.intro)))))
  | skip
 all_goals first|(with_reducible first|show (∃ _, unr _ _ _ _ _ _)|show UnrI _ _ _ _ _|show Goes _ _ _ _|show JoinT _ _ _ _ _ _ _)|(first | ((((try dsimp only [Shp.D, Shp.Ds, Shp.dflt] at *); simp only [vla, vem, veq, vln] at *; (try dsimp only [Shp.D, Shp.Ds, Shp.dflt, Shp.dflts] at *)) <;> (try simp only [Shp.lims, Shp.lim, IntKind.wrap_u64, IntKind.wrap_u8] at *) <;> omega); done) | skip)
 ·with_reducible refine hR1 _ ?_ (fun zq bq tq yq hUq => ?_)
  ·exact EndOk.au
  have q30 := hUq.z 30
  have qy900 := hUq.y 900 (.byte)
  cbv at q30 qy900
  replace q30 := q30.eq
  replace qy900 := qy900.eq
  simp only [atI, atB, atT, atY, convL_self, vem, veq, ne_eq, cmpI, arI, dvI, shI, SV.den] at q30 qy900
  clear hUq hR1
  try dsimp only [Shp.D, Shp.Ds, Shp.dflt] at *
  try simp only [vem, veq, ne_eq, cmpI, arI, dvI, shI, SV.den, elemAt, convL_self] at *
  try dsimp only [Shp.D, Shp.Ds, Shp.dflt, Shp.dflts] at *
  rename_i hsh hp0 hp1 hp2 hp3
  simp only [List.length_append, List.length_cons, List.length_nil] at hp0
  have hq := congrArg List.length qy900
  rw [selrsB_drop l _ (by omega)] at p3
  rw [hx.1.1, hp3.1.1, hp2.1.1, hp1.1.1, hp0.1.1] at qy900
  refine ⟨⟨by omega, by omega, by omega, ?_⟩, by omega⟩
  rw [← qy900, ← p3, show (zq 30).toNat = (z1 30).toNat + 1 by omega]
  exact selrB_eq _ (_, _, _) hsh.1 _ _
 ·(try dsimp only [Shp.D, Shp.Ds, Shp.dflt] at *); simp only [vla, vem, veq, vln] at *; (try dsimp only [Shp.D, Shp.Ds, Shp.dflt, Shp.dflts] at *)
  rw [List.drop_eq_nil_of_le (by omega), selrsB, List.append_nil] at p3
  unfold buildF
  rw [if_neg (by omega), if_neg (by omega), if_neg (by rw [← ‹_ = chkAll l ∧ _›.1]; simp_all), p3]
end
section
set_option maxHeartbeats 8000000
set_option maxRecDepth 100000
def bnoC_t : SpecT := lf0 121 (cnoSp)
def bnoC : Cx := ⟨tt, qt, bt, st, bnoC_t, 0, 1000000000000000, fun _ => none, false, CxE.no, []⟩
theorem bnoC_si {E : Env} (h : E.ok) : SpecsOk Tryz.prog E (CxE.no) bnoC_t (fun _ => none) := ⟨(lf0_ok (.inl (cno_sp h))), noI_ok _ _ _⟩
theorem bnoC_x {E : Env} (h : E.ok) : CxEOk Tryz.prog E (CxE.no) := CxE.no_ok _ _
theorem bnoC_cx (E : Env) (h : E.ok) (h1 : E.lo = 0) (h2 : E.hi = 1000000000000000) : Cx.ok bnoC Tryz.prog E := ⟨tt_ok, qt_ok, bt_ok, bnoC_si h, h, h1, h2, mixed_ok, bnoC_x h⟩
theorem bno_fn : hasFn Tryz.prog 110 := ⟨_, Tryz.func110, by rfl, by rfl⟩
abbrev bnoSp : Spec := fnSpecT [notE] [none] [.sl .byte, .int .i64] [.sh] [] (fun (x : Shp.Ds [notE]) => NotB x.1) fun _ _ => True
theorem bno_sp {E : Env} (hE : E.ok) : SpecOk Tryz.prog E 110 bnoSp := by
 refine spec_of_vcT (C := bnoC) bno_fn Tryz.func110 (by kernel_rfl) bnoC_cx (fun x hl hx => ?_) hE
 obtain ⟨⟨p, s, t, d, ⟨⟩⟩, ⟨⟩⟩ := x
 have h1 : s.length ≤ 1000000 := hx.spi
 have h2 : d.length ≤ 1000000 := hx.data
 cbv
 (repeat' (first|((with_reducible apply And.intro <;> intro h) <;> (first|(with_reducible first|exact (tf h ‹_›).elim|exact (tf ‹_› h).elim)|cbv)) | ((with_reducible show JoinT (fun s K => vc _ (Code.region _ _ true) s K) _ _ _ _ _ _); (with_reducible apply JoinT.mg2); (focus (cbv; (repeat' (first|((with_reducible apply And.intro <;> intro h) <;> (first|(with_reducible first|exact (tf h ‹_›).elim|exact (tf ‹_› h).elim)|cbv))|((with_reducible first|apply Cb.mk|apply Lz.mk|apply JoinT.left|(apply AllT.mk;intro x hx));cbv)|((with_reducible refine Ob.mk (fun _ => ?_) ?_);rotate_left 1)|(with_reducible first|refine Mg.mk (Exists.intro ?_ (And.intro ?_ ?_))|rfl|apply Fin.mk|exact True.intro|apply And.intro))); (all_goals (try (have du : Unit := (); have dv : Unit := (); first | exact Goes.self (Ex2.mk ⟨dv, du, trivial, trivial, rfl⟩) | exact Goes.self (Ex2.mk ⟨x, du, hx, trivial, rfl⟩) | (rename_i xa hxa; exact Goes.self (Ex2.mk ⟨xa, x, hxa, hx, rfl⟩))))); (all_goals (fail_if_success (with_reducible first | show Goes _ _ _ _ | show (∃ _, unr _ _ _ _ _ _)))))))|((with_reducible first|apply Cb.mk|apply Lz.mk|apply JoinT.left|(apply AllT.mk;intro x hx));cbv)|((with_reducible refine Ob.mk (fun _ => ?_) ?_);rotate_left 1)|(with_reducible first|refine Mg.mk (Exists.intro ?_ (And.intro ?_ ?_))|rfl|apply Fin.mk|exact True.intro|apply And.intro)))
 all_goals first|(with_reducible first|show (∃ _, unr _ _ _ _ _ _)|show UnrI _ _ _ _ _|show Goes _ _ _ _|show JoinT _ _ _ _ _ _ _)|((try ((try dsimp only [Shp.D, Shp.Ds, Shp.dflt] at *); simp only [vla, vem, veq, vln] at *; (try dsimp only [Shp.D, Shp.Ds, Shp.dflt, Shp.dflts] at *); first | done | omega | skip)))
theorem cde_1 {p c e : Int} {Q : Prop} (h : e = cdeF p 0 c ∧ Q) (h0 : e = 0) (hp : p = 1) (hc : 0 < c) : False := by
 rw [h.1, hp] at h0
 unfold cdeF at h0
 have k : ¬ ((0 : Int) = (if (1 : Int) = 1 then 0 else 4) ∧ ((1 : Int) = 1 → c = 0)) := fun k => by
  have := k.2 rfl
  omega
 rw [if_neg (by decide), if_neg k] at h0
 exact absurd h0 (by decide)
def bdeC_t : SpecT := nd0 123 (lf0 122 (cdeSp)) (lf0 123 (chsSp))
def bdeC : Cx := ⟨tt, qt, bt, st, bdeC_t, 0, 1000000000000000, fun _ => none, false, CxE.no, []⟩
theorem bdeC_si {E : Env} (h : E.ok) : SpecsOk Tryz.prog E (CxE.no) bdeC_t (fun _ => none) := ⟨(nd0_ok (lf0_ok (.inl (cde_sp h))) (lf0_ok (.inl (chs_sp h)))), noI_ok _ _ _⟩
theorem bdeC_x {E : Env} (h : E.ok) : CxEOk Tryz.prog E (CxE.no) := CxE.no_ok _ _
theorem bdeC_cx (E : Env) (h : E.ok) (h1 : E.lo = 0) (h2 : E.hi = 1000000000000000) : Cx.ok bdeC Tryz.prog E := ⟨tt_ok, qt_ok, bt_ok, bdeC_si h, h, h1, h2, mixed_ok, bdeC_x h⟩
theorem bde_fn : hasFn Tryz.prog 111 := ⟨_, Tryz.func111, by rfl, by rfl⟩
abbrev bdeSp : Spec := fnSpecT [delE] [none] [.sl .byte, .int .i64] [.sh] [] (fun (x : Shp.Ds [delE]) => DelB x.1) fun _ _ => True
theorem bde_sp {E : Env} (hE : E.ok) : SpecOk Tryz.prog E 111 bdeSp := by
 refine spec_of_vcT (C := bdeC) bde_fn Tryz.func111 (by kernel_rfl) bdeC_cx (fun x hl hx => ?_) hE
 obtain ⟨⟨p, l, ⟨⟩⟩, ⟨⟩⟩ := x
 have h1 : l.length ≤ 1000000 := hx.le
 cbv
 (repeat' (first|((with_reducible apply And.intro <;> intro h) <;> (first|(with_reducible first|exact (tf h ‹_›).elim|exact (tf ‹_› h).elim)|cbv))|((with_reducible first|apply Cb.mk|apply Lz.mk|apply JoinT.left|(apply AllT.mk;intro x hx));cbv)|((with_reducible refine Ob.mk (fun _ => ?_) ?_);rotate_left 1)|(with_reducible first|refine Mg.mk (Exists.intro ?_ (And.intro ?_ ?_))|rfl|apply Fin.mk|exact True.intro|apply And.intro)))
 all_goals first|(with_reducible first|show (∃ _, unr _ _ _ _ _ _)|show UnrI _ _ _ _ _|show Goes _ _ _ _|show JoinT _ _ _ _ _ _ _)|((try ((try dsimp only [Shp.D, Shp.Ds, Shp.dflt] at *); simp only [vla, vem, veq, vln] at *; (try dsimp only [Shp.D, Shp.Ds, Shp.dflt, Shp.dflts] at *); first | done | omega | skip)))
 all_goals first
  | (with_reducible show (∃ _, unr _ _ _ _ _ _); skip)
 ·refine ⟨1, ?_⟩
  cbv
  (repeat' (first|((with_reducible apply And.intro <;> intro h) <;> (first|(with_reducible first|exact (tf h ‹_›).elim|exact (tf ‹_› h).elim)|cbv))|((with_reducible first|apply Cb.mk|apply Lz.mk|apply JoinT.left|(apply AllT.mk;intro x hx));cbv)|((with_reducible refine Ob.mk (fun _ => ?_) ?_);rotate_left 1)|(with_reducible first|refine Mg.mk (Exists.intro ?_ (And.intro ?_ ?_))|rfl|apply Fin.mk|exact True.intro|apply And.intro)))
  all_goals first|(with_reducible first|show (∃ _, unr _ _ _ _ _ _)|show UnrI _ _ _ _ _|show Goes _ _ _ _|show JoinT _ _ _ _ _ _ _)|((try ((try dsimp only [Shp.D, Shp.Ds, Shp.dflt] at *); simp only [vla, vem, veq, vln] at *; (try dsimp only [Shp.D, Shp.Ds, Shp.dflt, Shp.dflts] at *); first | done | omega | skip)))
  all_goals first
   | (exfalso; ((try dsimp only [Shp.D, Shp.Ds, Shp.dflt] at *); simp only [vla, vem, veq, vln] at *; (try dsimp only [Shp.D, Shp.Ds, Shp.dflt, Shp.dflts] at *)); omega)
   | skip
  with_reducible refine loop_hvZ [(7, 900001, 5, .byte)] (9 :: rangeN 43 11) [] [900001] (fun z b t y => 0 ≤ z 42 ∧ z 42 ≤ (l.length : Int) ∧ ((y 900001 .byte).length : Int) ≤ 4 + 4 * z 42) (fun z b t y => ((l.length : Int) - z 42).toNat) (by rfl) (by rfl) (by cbv) (by cbv) ?_ ?_ (fun z1 b1 t1 u1 y1 R1 hP1 hR1 => ?_)
  ·exact EndOk.au
  ·intro zq bq tq yq hUq
   have q42 := hUq.z 42
   have qy900001 := hUq.y 900001 (.byte)
   cbv at q42 qy900001
   replace q42 := q42.eq
   replace qy900001 := qy900001.eq
   simp only [atI, atB, atT, atY, convL_self, vem, veq, ne_eq, cmpI, arI, dvI, shI, SV.den] at q42 qy900001
   clear hUq
   try dsimp only [Shp.D, Shp.Ds, Shp.dflt] at *
   try simp only [vla, vem, veq] at *
   (try ((try dsimp only [Shp.D, Shp.Ds, Shp.dflt] at *); simp only [vla, vem, veq, vln] at *; (try dsimp only [Shp.D, Shp.Ds, Shp.dflt, Shp.dflts] at *)))
   try dsimp only [Shp.D, Shp.Ds, Shp.dflt, Shp.dflts] at *
   rw [← q42, ← qy900001]
   exact ⟨by omega, by omega, by rw [List.length_append]; simp only [List.length_cons, List.length_nil]; omega⟩
  obtain ⟨p1, p2, p3⟩ := hP1
  cbv
  (repeat' (first|((with_reducible apply And.intro <;> intro h) <;> (first|(with_reducible first|exact (tf h ‹_›).elim|exact (tf ‹_› h).elim)|cbv))|((with_reducible first|apply Cb.mk|apply Lz.mk|apply JoinT.left|(apply AllT.mk;intro x hx));cbv)|((with_reducible refine Ob.mk (fun _ => ?_) ?_);rotate_left 1)|(with_reducible first|refine Mg.mk (Exists.intro ?_ (And.intro ?_ ?_))|rfl|apply Fin.mk|exact True.intro|apply And.intro)))
  all_goals first|(with_reducible first|show (∃ _, unr _ _ _ _ _ _)|show UnrI _ _ _ _ _|show Goes _ _ _ _|show JoinT _ _ _ _ _ _ _)|((try ((try dsimp only [Shp.D, Shp.Ds, Shp.dflt] at *); simp only [vla, vem, veq, vln] at *; (try dsimp only [Shp.D, Shp.Ds, Shp.dflt, Shp.dflts] at *); first | done | omega | skip)))
  all_goals (((with_reducible refine hR1 _ ?_ (fun zq bq tq yq hUq => ?_)); (focus (exact EndOk.au)); (have q42 := hUq.z 42); (have qy900001 := hUq.y 900001 (.byte)); (cbv at q42 qy900001); (replace q42 := q42.eq); (replace qy900001 := qy900001.eq); (simp only [atI, atB, atT, atY, convL_self, vem, veq, ne_eq, cmpI, arI, dvI, shI, SV.den] at q42 qy900001); (clear hUq hR1); (try dsimp only [Shp.D, Shp.Ds, Shp.dflt] at *); (try simp only [vem, veq, ne_eq, cmpI, arI, dvI, shI, SV.den, elemAt, convL_self] at *); (try dsimp only [Shp.D, Shp.Ds, Shp.dflt, Shp.dflts] at *)); (try ((try dsimp only [Shp.D, Shp.Ds, Shp.dflt] at *); simp only [vla, vem, veq, vln] at *; (try dsimp only [Shp.D, Shp.Ds, Shp.dflt, Shp.dflts] at *))); refine ⟨⟨by omega, by omega, ?_⟩, by omega⟩; rw [← qy900001, List.length_append]; omega)
 ·refine ⟨1, ?_⟩
  cbv
  (repeat' (first|((with_reducible apply And.intro <;> intro h) <;> (first|(with_reducible first|exact (tf h ‹_›).elim|exact (tf ‹_› h).elim)|cbv))|((with_reducible first|apply Cb.mk|apply Lz.mk|apply JoinT.left|(apply AllT.mk;intro x hx));cbv)|((with_reducible refine Ob.mk (fun _ => ?_) ?_);rotate_left 1)|(with_reducible first|refine Mg.mk (Exists.intro ?_ (And.intro ?_ ?_))|rfl|apply Fin.mk|exact True.intro|apply And.intro)))
  all_goals first|(with_reducible first|show (∃ _, unr _ _ _ _ _ _)|show UnrI _ _ _ _ _|show Goes _ _ _ _|show JoinT _ _ _ _ _ _ _)|((try ((try dsimp only [Shp.D, Shp.Ds, Shp.dflt] at *); simp only [vla, vem, veq, vln] at *; (try dsimp only [Shp.D, Shp.Ds, Shp.dflt, Shp.dflts] at *); first | done | omega | skip)))
  all_goals (exfalso; ((try dsimp only [Shp.D, Shp.Ds, Shp.dflt] at *); simp only [vla, vem, veq, vln] at *; (try dsimp only [Shp.D, Shp.Ds, Shp.dflt, Shp.dflts] at *)); exact cde_1 (by assumption) (by assumption) (by assumption) (by omega))
def bodC_t : SpecT := nd0 108 (nd0 106 (nd0 105 (lf0 104 (pbuSp)) (lf0 105 (buildSp))) (nd0 107 (lf0 106 (ckeSp)) (lf0 107 (ckiSp)))) (nd0 110 (nd0 109 (lf0 108 (ckaSp)) (lf0 109 (cknSp))) (nd0 111 (lf0 110 (bnoSp)) (lf0 111 (bdeSp))))
def bodC : Cx := ⟨tt, qt, bt, st, bodC_t, 0, 1000000000000000, fun _ => none, false, CxE.no, []⟩
theorem bodC_si {E : Env} (h : E.ok) : SpecsOk Tryz.prog E (CxE.no) bodC_t (fun _ => none) := ⟨(nd0_ok (nd0_ok (nd0_ok (lf0_ok (.inl (pbu_sp h))) (lf0_ok (.inl (sbuild_sp h)))) (nd0_ok (lf0_ok (.inl (cke_sp h))) (lf0_ok (.inl (cki_sp h))))) (nd0_ok (nd0_ok (lf0_ok (.inl (cka_sp h))) (lf0_ok (.inl (ckn_sp h)))) (nd0_ok (lf0_ok (.inl (bno_sp h))) (lf0_ok (.inl (bde_sp h)))))), noI_ok _ _ _⟩
theorem bodC_x {E : Env} (h : E.ok) : CxEOk Tryz.prog E (CxE.no) := CxE.no_ok _ _
theorem bodC_cx (E : Env) (h : E.ok) (h1 : E.lo = 0) (h2 : E.hi = 1000000000000000) : Cx.ok bodC Tryz.prog E := ⟨tt_ok, qt_ok, bt_ok, bodC_si h, h, h1, h2, mixed_ok, bodC_x h⟩
theorem bod_fn : hasFn Tryz.prog 85 := ⟨_, Tryz.func85, by rfl, by rfl⟩
abbrev bodSp : Spec := fnSpecT [plE] [none] [.sl .byte, .int .i64] [.sh] [0] (fun (x : Shp.Ds [plE]) => PlB x.1) fun _ _ => True
theorem bod_sp {E : Env} (hE : E.ok) : SpecOk Tryz.prog E 85 bodSp := by
 refine spec_of_vcT (C := bodC) bod_fn Tryz.func85 (by kernel_rfl) bodC_cx (fun x hl hx => ?_) hE
 obtain ⟨⟨t, ps, ⟨e1, e2, ⟨⟩⟩, ⟨i1, i2, ⟨⟩⟩, ⟨a1, a2, ⟨⟩⟩, ⟨n1, n2, n3, n4, ⟨⟩⟩, ⟨d1, d2, ⟨⟩⟩, ss, dd, ⟨⟩⟩, ⟨⟩⟩ := x
 have g1 : e2.length ≤ 1000000 := hx.exc
 have g2 : i2.length ≤ 1000000 := hx.idy
 have g3 : a2.length ≤ 1000000 := hx.aut
 have g4 := hx.note
 have g5 : d2.length ≤ 1000000 := hx.del
 cbv
 (repeat' (first|((with_reducible apply And.intro <;> intro h) <;> (first|(with_reducible first|exact (tf h ‹_›).elim|exact (tf ‹_› h).elim)|cbv)) | ((with_reducible show JoinT (fun s K => vc _ (Code.region _ _ true) s K) _ _ _ _ _ _); (with_reducible apply JoinT.mg2); (focus (cbv; (repeat' (first|((with_reducible apply And.intro <;> intro h) <;> (first|(with_reducible first|exact (tf h ‹_›).elim|exact (tf ‹_› h).elim)|cbv))|((with_reducible first|apply Cb.mk|apply Lz.mk|apply JoinT.left|(apply AllT.mk;intro x hx));cbv)|((with_reducible refine Ob.mk (fun _ => ?_) ?_);rotate_left 1)|(with_reducible first|refine Mg.mk (Exists.intro ?_ (And.intro ?_ ?_))|rfl|apply Fin.mk|exact True.intro|apply And.intro))); (all_goals (try (have du : Unit := (); have dv : Unit := (); first | exact Goes.self (Ex2.mk ⟨dv, du, trivial, trivial, rfl⟩) | exact Goes.self (Ex2.mk ⟨x, du, hx, trivial, rfl⟩) | (rename_i xa hxa; exact Goes.self (Ex2.mk ⟨xa, x, hxa, hx, rfl⟩))))); (all_goals (fail_if_success (with_reducible first | show Goes _ _ _ _ | show (∃ _, unr _ _ _ _ _ _)))))))|((with_reducible first|apply Cb.mk|apply Lz.mk|apply JoinT.left|(apply AllT.mk;intro x hx));cbv)|((with_reducible refine Ob.mk (fun _ => ?_) ?_);rotate_left 1)|(with_reducible first|refine Mg.mk (Exists.intro ?_ (And.intro ?_ ?_))|rfl|apply Fin.mk|exact True.intro|apply And.intro)))
 all_goals first|(with_reducible first|show (∃ _, unr _ _ _ _ _ _)|show UnrI _ _ _ _ _|show Goes _ _ _ _|show JoinT _ _ _ _ _ _ _)|((try ((try dsimp only [Shp.D, Shp.Ds, Shp.dflt] at *); simp only [vla, vem, veq, vln] at *; (try dsimp only [Shp.D, Shp.Ds, Shp.dflt, Shp.dflts] at *); first | done | omega | skip)))
 all_goals exact ⟨g5⟩
abbrev pblSp : Spec := fnSpec [plE] [rawE, .int .i64] [5] (fun (x : Shp.Ds [plE]) => PlB x.1) fun (_ : Shp.Ds [plE]) (y : Shp.Ds [rawE, .int .i64]) => y.1.2.2.1.length ≤ 65531
def pblC_t : SpecT := lf0 85 (bodSp)
def pblC : Cx := ⟨tt, qt, bt, st, pblC_t, 0, 1000000000000000, fun _ => none, false, CxE.no, []⟩
theorem pblC_si {E : Env} (h : E.ok) : SpecsOk Tryz.prog E (CxE.no) pblC_t (fun _ => none) := ⟨(lf0_ok (.inl (bod_sp h))), noI_ok _ _ _⟩
theorem pblC_x {E : Env} (h : E.ok) : CxEOk Tryz.prog E (CxE.no) := CxE.no_ok _ _
theorem pblC_cx (E : Env) (h : E.ok) (h1 : E.lo = 0) (h2 : E.hi = 1000000000000000) : Cx.ok pblC Tryz.prog E := ⟨tt_ok, qt_ok, bt_ok, pblC_si h, h, h1, h2, mixed_ok, pblC_x h⟩
theorem pbl_fn : hasFn Tryz.prog 64 := ⟨_, Tryz.func64, by rfl, by rfl⟩
theorem pbl_sp {E : Env} (hE : E.ok) : SpecOk Tryz.prog E 64 pblSp := by
 refine spec_of_vc (C := pblC) pbl_fn Tryz.func64 (by kernel_rfl) pblC_cx (fun x hl hx => ?_) hE
 obtain ⟨p, ⟨⟩⟩ := x
 have hx : PlB p := hx
 obtain ⟨t, ps, ⟨e1, e2, ⟨⟩⟩, ⟨i1, i2, ⟨⟩⟩, ⟨a1, a2, ⟨⟩⟩, ⟨n1, n2, n3, n4, ⟨⟩⟩, ⟨d1, d2, ⟨⟩⟩, ss, dd, ⟨⟩⟩ := p
 cbv
 (repeat' (first|((with_reducible apply And.intro <;> intro h) <;> (first|(with_reducible first|exact (tf h ‹_›).elim|exact (tf ‹_› h).elim)|cbv)) | ((with_reducible show JoinT (fun s K => vc _ (Code.region _ _ true) s K) _ _ _ _ _ _); (with_reducible apply JoinT.mg2); (focus (cbv; (repeat' (first|((with_reducible apply And.intro <;> intro h) <;> (first|(with_reducible first|exact (tf h ‹_›).elim|exact (tf ‹_› h).elim)|cbv))|((with_reducible first|apply Cb.mk|apply Lz.mk|apply JoinT.left|(apply AllT.mk;intro x hx));cbv)|((with_reducible refine Ob.mk (fun _ => ?_) ?_);rotate_left 1)|(with_reducible first|refine Mg.mk (Exists.intro ?_ (And.intro ?_ ?_))|rfl|apply Fin.mk|exact True.intro|apply And.intro))); (all_goals (try (have du : Unit := (); have dv : Unit := (); first | exact Goes.self (Ex2.mk ⟨dv, du, trivial, trivial, rfl⟩) | exact Goes.self (Ex2.mk ⟨x, du, hx, trivial, rfl⟩) | (rename_i xa hxa; exact Goes.self (Ex2.mk ⟨xa, x, hxa, hx, rfl⟩))))); (all_goals (fail_if_success (with_reducible first | show Goes _ _ _ _ | show (∃ _, unr _ _ _ _ _ _)))))))|((with_reducible first|apply Cb.mk|apply Lz.mk|apply JoinT.left|(apply AllT.mk;intro x hx));cbv)|((with_reducible refine Ob.mk (fun _ => ?_) ?_);rotate_left 1)|(with_reducible first|refine Mg.mk (Exists.intro ?_ (And.intro ?_ ?_))|rfl|apply Fin.mk|exact True.intro|apply And.intro)))
 all_goals first|(with_reducible first|show (∃ _, unr _ _ _ _ _ _)|show UnrI _ _ _ _ _|show Goes _ _ _ _|show JoinT _ _ _ _ _ _ _)|((try ((try dsimp only [Shp.D, Shp.Ds, Shp.dflt] at *); simp only [vla, vem, veq, vln] at *; (try dsimp only [Shp.D, Shp.Ds, Shp.dflt, Shp.dflts] at *); first | done | omega | skip)))
end
end Go.Proofs.YtkifmppmfkpfbaaGreat.V
namespace Go.Proofs.YtkifmppmfkpfbaaGreat.V.Ch
open Go.RowKit
section
set_option maxHeartbeats 8000000
set_option maxRecDepth 100000
theorem putF_len (v : Int) (w : Int) (h : 1 ≤ w ∧ w ≤ 8) : ((putF v w).length : Int) = w := by rw [putF, if_pos h, putB_length]; omega
abbrev i64E : Shp := .int .i64
def oneB (r : RawT) (nx : Int) : List UInt8 := toB (IntKind.u8.wrap nx) :: (if r.2.1 then 128 else 0) :: (putF (IntKind.u64.wrap ((r.2.2.1.length : Int) + 4)) 2 ++ r.2.2.1)
def hdK : List RawT → Int → Int
 | [], ins => ins
 | s :: _, _ => s.1
def outB : List RawT → Int → List UInt8
 | [], _ => []
 | r :: l, ins => oneB r (hdK l ins) ++ outB l ins
def nextF (l : List RawT) (ins : Int) (k : Nat) : Int := if k + 1 < l.length then (l.getD (k + 1) raw0).1 else ins
theorem outB_drop (l : List RawT) (ins : Int) (k : Nat) (h : k < l.length) : outB (l.drop k) ins = oneB (l.getD k raw0) (nextF l ins k) ++ outB (l.drop (k + 1)) ins := by
 rw [List.drop_eq_getElem_cons h, outB, List.getD_eq_getElem?_getD, List.getElem?_eq_getElem h, nextF]
 congr 2
 by_cases hk : k + 1 < l.length
 ·rw [List.drop_eq_getElem_cons hk, if_pos hk, List.getD_eq_getElem?_getD, List.getElem?_eq_getElem hk]
  rfl
 ·rw [List.drop_eq_nil_of_le (by omega), if_neg hk]; rfl
theorem outB_nil (l : List RawT) (ins : Int) (k : Nat) (h : l.length ≤ k) : outB (l.drop k) ins = [] := by
 rw [List.drop_eq_nil_of_le h, outB]
theorem kinds_at (l : List RawT) (ins : Int) (k : Nat) (h : k < l.length) : (l.map (·.1) ++ [ins]).getD (k + 1) 0 = nextF l ins k := by
 rw [nextF, List.getD_eq_getElem?_getD]
 by_cases hk : k + 1 < l.length
 ·rw [if_pos hk, List.getElem?_append_left (by simpa using hk), List.getElem?_map, List.getElem?_eq_getElem hk, List.getD_eq_getElem?_getD, List.getElem?_eq_getElem hk]
  rfl
 ·rw [if_neg hk, List.getElem?_append_right (by simp; omega)]
  simp [show k + 1 - l.length = 0 by omega]
theorem checkF_0 {l : List RawT} {ins : Int} (h : checkF l ins = 0) : l.length ≤ 40 ∧ chkL l = 0 ∧ 0 ≤ ins ∧ ins ≤ 255 ∧ (l.length = 0 → ins = 0) := by
 unfold checkF at h
 split at h
 ·cases h
 ·split at h
  ·rename_i h1; exact absurd h h1
  ·split at h
   ·cases h
   ·split at h
    ·cases h
    ·rename_i h1 h2 h3 h4
     refine ⟨by omega, by simpa using h2, by omega, by omega, fun h5 => ?_⟩
     exact Decidable.byContradiction fun h6 => h4 ⟨h6, .inl h5⟩
theorem chk_at : ∀ {l : List RawT}, chkL l = 0 → ∀ r ∈ l, 1 ≤ r.1 ∧ r.1 ≤ 255 ∧ r.2.2.1.length ≤ 65531
 | [], _, r, hr => by cases hr
 | s :: l, h, r, hr => by
   unfold chkL at h
   split at h
   ·cases h
   ·split at h
    ·cases h
    ·split at h
     ·cases h
     ·rcases List.mem_cons.1 hr with rfl | hr
      ·exact ⟨by omega, by omega, by omega⟩
      ·exact chk_at h r hr
theorem chk_get {l : List RawT} (h : chkL l = 0) (k : Nat) (hk : k < l.length) : 1 ≤ (l.getD k raw0).1 ∧ (l.getD k raw0).1 ≤ 255 ∧ (l.getD k raw0).2.2.1.length ≤ 65531 := by
 rw [List.getD_eq_getElem?_getD, List.getElem?_eq_getElem hk]
 exact chk_at h _ (List.getElem_mem hk)
def headF : List RawT → Int
 | [] => 0
 | r :: _ => r.1
def chainF (l : List RawT) (ins : Int) : Int × List UInt8 × Int := if checkF l ins ≠ 0 then (0, [], checkF l ins) else (headF l, outB l ins, 0)
theorem take_map_succ (l : List RawT) (k : Nat) (h : k < l.length) : (l.take k).map (·.1) ++ [(l.getD k raw0).1] = (l.take (k + 1)).map (·.1) := by
 rw [List.take_succ_eq_append_getElem h, List.map_append, List.getD_eq_getElem?_getD, List.getElem?_eq_getElem h]
 rfl
theorem head_at (l : List RawT) (ins : Int) (h : l.length = 0 → ins = 0) : (l.map (·.1) ++ [ins]).getD 0 0 = headF l := by
 cases l with
 | nil => exact h rfl
 | cons r l => rfl
theorem cb_step {l : List RawT} {ins k j n : Int} {ys x : List UInt8} {ks : List Int} {m : UInt8} (p3 : ks = (l.take n.toNat).map (·.1)) (hn : ¬ n < (l.length : Int)) (r4 : ys ++ outB (l.drop k.toNat) ins = outB l ins) (k0 : 0 ≤ k) (k1 : k < (l.length : Int)) (hl40 : l.length ≤ 40) (hj : j = k + 1) (hm' : ((l.getD k.toNat raw0).2.1 = true ∧ m = 128) ∨ ((l.getD k.toNat raw0).2.1 = false ∧ m = 0)) (c2 : chkL l = 0) (r3 : (ys.length : Int) ≤ 65535 * k)
    (hx : x = ys ++ [toB (IntKind.u8.wrap ((ks ++ [ins]).getD ((k + 1 + 9223372036854775808) % 18446744073709551616 - 9223372036854775808).toNat 0)), m] ++ putF (IntKind.u64.wrap ((((l.getD k.toNat raw0).2.2.1.length : Int) + 4 + 9223372036854775808) % 18446744073709551616 - 9223372036854775808)) 2) :
    ((x ++ (l.getD k.toNat raw0).2.2.1).length : Int) ≤ 65535 * j ∧ (x ++ (l.getD k.toNat raw0).2.2.1) ++ outB (l.drop j.toNat) ins = outB l ins := by
 have hb := (chk_get c2 k.toNat (by omega)).2.2
 have hm : m = if (l.getD k.toNat raw0).2.1 then 128 else 0 := by
  rcases hm' with ⟨h1, h2⟩ | ⟨h1, h2⟩
  ·rw [h1, h2]; rfl
  ·rw [h1, h2]; rfl
 refine ⟨?_, ?_⟩
 ·have h := putF_len (IntKind.u64.wrap ((((l.getD k.toNat raw0).2.2.1.length : Int) + 4 + 9223372036854775808) % 18446744073709551616 - 9223372036854775808)) 2 (by omega)
  rw [hx]
  simp only [List.length_append, List.length_cons, List.length_nil]
  omega
 have e1 : ks = l.map (·.1) := by rw [p3, List.take_of_length_le (by omega)]
 rw [← r4, outB_drop l ins k.toNat (by omega), hx, hj, show (k + 1).toNat = k.toNat + 1 by omega, e1, show ((k + 1 + 9223372036854775808) % 18446744073709551616 - 9223372036854775808).toNat = k.toNat + 1 by omega, kinds_at l ins k.toNat (by omega), hm, oneB,
  show (((l.getD k.toNat raw0).2.2.1.length : Int) + 4 + 9223372036854775808) % 18446744073709551616 - 9223372036854775808 = ((l.getD k.toNat raw0).2.2.1.length : Int) + 4 by omega]
 simp only [List.append_assoc, List.cons_append, List.nil_append]
theorem cb_lim {l : List RawT} {k : Int} {ys x : List UInt8} (c2 : chkL l = 0) (c1 : l.length ≤ 40) (k0 : 0 ≤ k) (k1 : k < (l.length : Int)) (r3 : (ys.length : Int) ≤ 65535 * k) (hx : x.length ≤ ys.length + (0 + 1 + 1) + 8) : (x.length + (l.getD k.toNat raw0).2.2.1.length) * 1 ≤ 140737488355328 ∧ x.length + (l.getD k.toNat raw0).2.2.1.length ≤ 140737488355328 := by
 have hb := (chk_get c2 k.toNat (by omega)).2.2
 omega
theorem cb_end {l : List RawT} {ins k n : Int} {ys : List UInt8} {ks : List Int} (p3 : ks = (l.take n.toNat).map (·.1)) (hn : ¬ n < (l.length : Int)) (r4 : ys ++ outB (l.drop k.toNat) ins = outB l ins) (k1 : ¬ k < (l.length : Int)) (hc : checkF l ins = 0) : ((ks ++ [ins]).getD (Int.toNat 0) 0, ys, 0) = chainF l ins := by
 have e1 : ks = l.map (·.1) := by rw [p3, List.take_of_length_le (by omega)]
 rw [outB_nil l ins k.toNat (by omega), List.append_nil] at r4
 unfold chainF
 rw [if_neg (by rw [hc]; simp), e1, r4]
 show ((l.map (·.1) ++ [ins]).getD 0 0, _, _) = _
 rw [head_at l ins (checkF_0 hc).2.2.2.2]
abbrev cbuSp : Spec := fnSpec chkAs [.int .i64, .sl .byte, .int .i64] [5] (fun _ => True) fun x y => (y.1, y.2.1, y.2.2.1) = chainF x.1 x.2.1
abbrev wputS2 : Spec := fnSpecT putAs [some 5, none, none] [.sl .byte] [.own 5] [] putPre putPost
def cbC_t : SpecT := nd0 66 (lf0 65 (chkFn)) (lf0 66 (wputS2))
def cbC : Cx := ⟨tt, qt, bt, st, cbC_t, 0, 1000000000000000, fun _ => none, false, CxE.no, []⟩
theorem cbC_si {E : Env} (h : E.ok) : SpecsOk Tryz.prog E (CxE.no) cbC_t (fun _ => none) := ⟨(nd0_ok (lf0_ok (.inl (cchk_sp h))) (lf0_ok (.inl (wput_sp h)))), noI_ok _ _ _⟩
theorem cbC_x {E : Env} (h : E.ok) : CxEOk Tryz.prog E (CxE.no) := CxE.no_ok _ _
theorem cbC_cx (E : Env) (h : E.ok) (h1 : E.lo = 0) (h2 : E.hi = 1000000000000000) : Cx.ok cbC Tryz.prog E := ⟨tt_ok, qt_ok, bt_ok, cbC_si h, h, h1, h2, mixed_ok, cbC_x h⟩
theorem cbu_fn : hasFn Tryz.prog 36 := ⟨_, Tryz.func36, by rfl, by rfl⟩
theorem cbu_sp {E : Env} (hE : E.ok) : SpecOk Tryz.prog E 36 cbuSp := by
 refine spec_of_vc (C := cbC) cbu_fn Tryz.func36 (by kernel_rfl) cbC_cx (fun x hl hx => ?_) hE
 obtain ⟨l, ins, u⟩ := x
 have hlen : l.length ≤ 140737488355328 := by simp only [Shp.lims, Shp.lim] at hl; exact hl.1.1
 cbv
 (repeat' (first|((with_reducible apply And.intro <;> intro h) <;> (first|(with_reducible first|exact (tf h ‹_›).elim|exact (tf ‹_› h).elim)|cbv))|((with_reducible first|apply Cb.mk|apply Lz.mk|apply JoinT.left|(apply AllT.mk;intro x hx));cbv)|((with_reducible refine Ob.mk (fun _ => ?_) ?_);rotate_left 1)|(with_reducible first|refine Mg.mk (Exists.intro ?_ (And.intro ?_ ?_))|rfl|apply Fin.mk|exact True.intro|apply And.intro)))
 all_goals first|(with_reducible first|show (∃ _, unr _ _ _ _ _ _)|show UnrI _ _ _ _ _|show Goes _ _ _ _|show JoinT _ _ _ _ _ _ _)|(((try dsimp only [Shp.D, Shp.Ds, Shp.dflt] at *); simp only [vla, vem, veq, vln] at *; (try dsimp only [Shp.D, Shp.Ds, Shp.dflt, Shp.dflts] at *); first | done | (unfold chainF; rw [if_pos (by rw [← hx.1]; exact h), hx.1]; done)))
 with_reducible refine loop_hv [(8, 901, 3, .int .i64)] (9 :: 10 :: 21 :: rangeN 25 48) [] [901] (fun z b t y => 0 ≤ z 24 ∧ z 24 ≤ (l.length : Int) ∧ y 901 (.int .i64) = (l.take (z 24).toNat).map (·.1)) (fun z b t y => ((l.length : Int) - z 24).toNat) (by cbv) (by cbv) ?_ ?_ (fun z1 b1 t1 u1 y1 R1 hP1 hR1 => ?_)
 ·exact EndOk.au
 ·intro zq bq tq yq hUq
  have q24 := hUq.z 24
  have qy901 := hUq.y 901 (i64E)
  cbv at q24 qy901
  replace q24 := q24.eq
  replace qy901 := qy901.eq
  simp only [atI, atB, atT, atY, convL_self, vem, veq, ne_eq, cmpI, arI, dvI, shI, SV.den] at q24 qy901
  clear hUq
  try dsimp only [Shp.D, Shp.Ds, Shp.dflt] at *
  try simp only [vla, vem, veq] at *
  rw [← q24, ← qy901]
  exact ⟨by omega, by omega, rfl⟩
 obtain ⟨p1, p2, p3⟩ := hP1
 have hc : checkF l ins = 0 := by
  have h0 := hx.1
  (try dsimp only [Shp.D, Shp.Ds, Shp.dflt] at *); simp only [vla, vem, veq, vln] at *; (try dsimp only [Shp.D, Shp.Ds, Shp.dflt, Shp.dflts] at *)
  exact h0.symm.trans ‹x.1 = 0›
 obtain ⟨c1, c2, c3, c4, c5⟩ := checkF_0 hc
 have p4 := congrArg List.length p3
 simp only [List.length_map, List.length_take] at p4
 cbv
 (repeat' (first|((with_reducible apply And.intro <;> intro h) <;> (first|(with_reducible first|exact (tf h ‹_›).elim|exact (tf ‹_› h).elim)|cbv))|((with_reducible first|apply Cb.mk|apply Lz.mk|apply JoinT.left|(apply AllT.mk;intro x hx));cbv)|((with_reducible refine Ob.mk (fun _ => ?_) ?_);rotate_left 1)|(with_reducible first|refine Mg.mk (Exists.intro ?_ (And.intro ?_ ?_))|rfl|apply Fin.mk|exact True.intro|apply And.intro)))
 all_goals first|(with_reducible first|show (∃ _, unr _ _ _ _ _ _)|show UnrI _ _ _ _ _|show Goes _ _ _ _|show JoinT _ _ _ _ _ _ _)|(first | ((try dsimp only [Shp.D, Shp.Ds, Shp.dflt] at *); simp only [vla, vem, veq, vln] at *; (try dsimp only [Shp.D, Shp.Ds, Shp.dflt, Shp.dflts] at *); first | done | omega) | skip)
 ·with_reducible refine hR1 _ ?_ (fun zq bq tq yq hUq => ?_)
  ·exact EndOk.au
  have q24 := hUq.z 24
  have qy901 := hUq.y 901 (i64E)
  cbv at q24 qy901
  replace q24 := q24.eq
  replace qy901 := qy901.eq
  simp only [atI, atB, atT, atY, convL_self, vem, veq, ne_eq, cmpI, arI, dvI, shI, SV.den] at q24 qy901
  clear hUq hR1
  try dsimp only [Shp.D, Shp.Ds, Shp.dflt] at *
  try simp only [vem, veq, ne_eq, cmpI, arI, dvI, shI, SV.den, elemAt, convL_self] at *
  try dsimp only [Shp.D, Shp.Ds, Shp.dflt, Shp.dflts] at *
  refine ⟨⟨by omega, by omega, ?_⟩, by omega⟩
  rw [← qy901, show (zq 24).toNat = (z1 24).toNat + 1 by omega, ← take_map_succ l _ (by omega), ← p3]
 with_reducible refine loop_hv [(11, 902, 5, .byte)] (12 :: 13 :: 14 :: 34 :: 36 :: rangeN 41 32) [] [902] (fun z b t y => 0 ≤ z 40 ∧ z 40 ≤ (l.length : Int) ∧ ((y 902 .byte).length : Int) ≤ 65535 * z 40 ∧ y 902 .byte ++ outB (l.drop (z 40).toNat) ins = outB l ins) (fun z b t y => ((l.length : Int) - z 40).toNat) (by cbv) (by cbv) ?_ ?_ (fun z2 b2 t2 u2 y2 R2 hP2 hR2 => ?_)
 ·exact EndOk.au
 ·intro zq bq tq yq hUq
  have q40 := hUq.z 40
  have qy902 := hUq.y 902 (.byte)
  cbv at q40 qy902
  replace q40 := q40.eq
  replace qy902 := qy902.eq
  simp only [atI, atB, atT, atY, convL_self, vem, veq, ne_eq, cmpI, arI, dvI, shI, SV.den] at q40 qy902
  clear hUq
  try dsimp only [Shp.D, Shp.Ds, Shp.dflt] at *
  try simp only [vla, vem, veq] at *
  rw [← q40, ← qy902]
  exact ⟨by omega, by omega, by simp, rfl⟩
 obtain ⟨r1, r2, r3, r4⟩ := hP2
 cbv
 (repeat' (first|((with_reducible apply And.intro <;> intro h) <;> (first|(with_reducible first|exact (tf h ‹_›).elim|exact (tf ‹_› h).elim)|cbv))|((with_reducible first|apply Cb.mk|apply Lz.mk|apply JoinT.left|(apply AllT.mk;intro x hx));cbv)|((with_reducible refine Ob.mk (fun _ => ?_) ?_);rotate_left 1)|(with_reducible first|refine Mg.mk (Exists.intro ?_ (And.intro ?_ ?_))|rfl|apply Fin.mk|exact True.intro|apply And.intro)))
 all_goals first|(with_reducible first|show (∃ _, unr _ _ _ _ _ _)|show UnrI _ _ _ _ _|show Goes _ _ _ _|show JoinT _ _ _ _ _ _ _)|((try ((try dsimp only [Shp.D, Shp.Ds, Shp.dflt] at *); simp only [vla, vem, veq, vln] at *; (try dsimp only [Shp.D, Shp.Ds, Shp.dflt, Shp.dflts] at *); first | done | omega | (exact cb_lim c2 c1 r1 (by assumption) r3 hx.1.2) | (exact cb_end p3 (by assumption) r4 h hc) | skip)))
 all_goals first
  | (with_reducible show Goes _ _ _ _; skip)
  | trace_state
 ·with_reducible refine hR2 _ ?_ (fun zq bq tq yq hUq => ?_)
  ·exact EndOk.au
  have q40 := hUq.z 40
  have qy902 := hUq.y 902 (.byte)
  cbv at q40 qy902
  replace q40 := q40.eq
  replace qy902 := qy902.eq
  simp only [atI, atB, atT, atY, convL_self, vem, veq, ne_eq, cmpI, arI, dvI, shI, SV.den] at q40 qy902
  clear hUq hR2
  try dsimp only [Shp.D, Shp.Ds, Shp.dflt] at *
  try simp only [vem, veq, ne_eq, cmpI, arI, dvI, shI, SV.den, elemAt, convL_self] at *
  try dsimp only [Shp.D, Shp.Ds, Shp.dflt, Shp.dflts] at *
  obtain ⟨s1, s2⟩ := cb_step p3 (by assumption) r4 r1 (by omega) c1 (j := zq 40) (by omega) (.inl ⟨h, rfl⟩) c2 r3 hx.1.1
  rw [qy902] at s1 s2
  exact ⟨⟨by omega, by omega, s1, s2⟩, by omega⟩
 ·with_reducible refine hR2 _ ?_ (fun zq bq tq yq hUq => ?_)
  ·exact EndOk.au
  have q40 := hUq.z 40
  have qy902 := hUq.y 902 (.byte)
  cbv at q40 qy902
  replace q40 := q40.eq
  replace qy902 := qy902.eq
  simp only [atI, atB, atT, atY, convL_self, vem, veq, ne_eq, cmpI, arI, dvI, shI, SV.den] at q40 qy902
  clear hUq hR2
  try dsimp only [Shp.D, Shp.Ds, Shp.dflt] at *
  try simp only [vem, veq, ne_eq, cmpI, arI, dvI, shI, SV.den, elemAt, convL_self] at *
  try dsimp only [Shp.D, Shp.Ds, Shp.dflt, Shp.dflts] at *
  obtain ⟨s1, s2⟩ := cb_step p3 (by assumption) r4 r1 (by omega) c1 (j := zq 40) (by omega) (.inr ⟨h, rfl⟩) c2 r3 hx.1.1
  rw [qy902] at s1 s2
  exact ⟨⟨by omega, by omega, s1, s2⟩, by omega⟩
end
end Go.Proofs.YtkifmppmfkpfbaaGreat.V.Ch
namespace Go.Proofs.YtkifmppmfkpfbaaGreat.V.Hd
open Go.RowKit
section
set_option maxHeartbeats 8000000
set_option maxRecDepth 100000
def hdB (h : HdT) (n : Int) : List UInt8 := [] ++ putF h.1 8 ++ putF h.2.1 8 ++ [toB (IntKind.u8.wrap h.2.2.1), toB 32, toB (IntKind.u8.wrap h.2.2.2.1), toB (IntKind.u8.wrap h.2.2.2.2.1)] ++ putF (IntKind.u64.wrap h.2.2.2.2.2.1) 4 ++ putF (IntKind.u64.wrap n) 4
def buildF (h : HdT) (n : Int) : List UInt8 × Int :=
 if ¬ ckF h = 0 then ([], ckF h) else if n < 28 ∨ n > 8192 then ([], 5) else (hdB h n, 0)
theorem build_no {h : HdT} {n : Int} (hc : ¬ ckF h = 0) : ([], ckF h) = buildF h n := by
 unfold buildF; rw [if_pos hc]
theorem build_rg {h : HdT} {n : Int} (hc : ckF h = 0) (hn : n < 28 ∨ n > 8192) : ([], 5) = buildF h n := by
 unfold buildF; rw [if_neg (by omega), if_pos hn]
theorem build_yes {h : HdT} {n : Int} {a b c d : List UInt8} {P Q R S P' Q' R' S' : Prop} (hc : ckF h = 0) (hn : ¬ n < 28) (hn' : ¬ n > 8192) (h1 : (a = [] ++ putF h.1 8 ∧ P) ∧ P') (h2 : (b = a ++ putF h.2.1 8 ∧ Q) ∧ Q')
    (h3 : (c = b ++ [toB (IntKind.u8.wrap h.2.2.1), toB 32, toB (IntKind.u8.wrap h.2.2.2.1), toB (IntKind.u8.wrap h.2.2.2.2.1)] ++ putF (IntKind.u64.wrap h.2.2.2.2.2.1) 4 ∧ R) ∧ R') (h4 : (d = c ++ putF (IntKind.u64.wrap n) 4 ∧ S) ∧ S') : (d, 0) = buildF h n := by
 unfold buildF hdB; rw [if_neg (by omega), if_neg (by omega), h4.1.1, h3.1.1, h2.1.1, h1.1.1]
abbrev wputSp : Spec := fnSpecT putAs [some 5, none, none] [.sl .byte] [.own 5] [] putPre putPost
abbrev hbuSp : Spec := fnSpec [hdE, .int .i64] [.sl .byte, .int .i64] [5] (fun _ => True) fun x y => (y.1, y.2.1) = buildF x.1 x.2.1
def hbC_t : SpecT := nd0 66 (lf0 37 (ckFn)) (lf0 66 (wputSp))
def hbC : Cx := ⟨tt, qt, bt, st, hbC_t, 0, 1000000000000000, fun _ => none, false, CxE.no, []⟩
theorem hbC_si {E : Env} (h : E.ok) : SpecsOk Tryz.prog E (CxE.no) hbC_t (fun _ => none) := ⟨(nd0_ok (lf0_ok (.inl (hck_sp h))) (lf0_ok (.inl (wput_sp h)))), noI_ok _ _ _⟩
theorem hbC_x {E : Env} (h : E.ok) : CxEOk Tryz.prog E (CxE.no) := CxE.no_ok _ _
theorem hbC_cx (E : Env) (h : E.ok) (h1 : E.lo = 0) (h2 : E.hi = 1000000000000000) : Cx.ok hbC Tryz.prog E := ⟨tt_ok, qt_ok, bt_ok, hbC_si h, h, h1, h2, mixed_ok, hbC_x h⟩
theorem hbu_fn : hasFn Tryz.prog 38 := ⟨_, Tryz.func38, by rfl, by rfl⟩
theorem hbu_sp {E : Env} (hE : E.ok) : SpecOk Tryz.prog E 38 hbuSp := by
 refine spec_of_vc (C := hbC) hbu_fn Tryz.func38 (by kernel_rfl) hbC_cx (fun x hl hx => ?_) hE
 obtain ⟨⟨i, r, n, e, f, m, ⟨⟩⟩, len, _⟩ := x
 cbv
 (repeat' (first|((with_reducible apply And.intro <;> intro h) <;> (first|(with_reducible first|exact (tf h ‹_›).elim|exact (tf ‹_› h).elim)|cbv))|((with_reducible first|apply Cb.mk|apply Lz.mk|apply JoinT.left|(apply AllT.mk;intro x hx));cbv)|((with_reducible refine Ob.mk (fun _ => ?_) ?_);rotate_left 1)|(with_reducible first|refine Mg.mk (Exists.intro ?_ (And.intro ?_ ?_))|rfl|apply Fin.mk|exact True.intro|apply And.intro)))
 all_goals first|(with_reducible first|show (∃ _, unr _ _ _ _ _ _)|show UnrI _ _ _ _ _|show Goes _ _ _ _|show JoinT _ _ _ _ _ _ _)|(((try dsimp only [Shp.D, Shp.Ds, Shp.dflt] at *); simp only [vla, vem, veq, vln] at *; (try dsimp only [Shp.D, Shp.Ds, Shp.dflt, Shp.dflts] at *); first | done | omega | (exact build_no h) | (exact build_rg (by assumption) (by omega)) | (exact build_yes (by assumption) (by assumption) (by assumption) (by assumption) (by assumption) (by assumption) (by assumption))))
end
end Go.Proofs.YtkifmppmfkpfbaaGreat.V.Hd
namespace Go.Proofs.YtkifmppmfkpfbaaGreat.V
open Go.RowKit
section
set_option maxHeartbeats 8000000
set_option maxRecDepth 100000
theorem pb_at {l : List PlT} (h : MsgB l) {i : Nat} (hi : i < l.length) (d : PlT) : PlB (l.getD i d) := by
 rw [List.getD_eq_getElem?_getD, List.getElem?_eq_getElem hi]
 exact h.pb _ (List.getElem_mem hi)
def mrwC_t : SpecT := nd0 64 (lf0 31 (seaFn)) (lf0 64 (pblSp))
def mrwC : Cx := ⟨tt, qt, bt, st, mrwC_t, 0, 1000000000000000, fun _ => none, false, CxE.no, []⟩
theorem mrwC_si {E : Env} (h : E.ok) : SpecsOk Tryz.prog E (CxE.no) mrwC_t (fun _ => none) := ⟨(nd0_ok (lf0_ok (.inl (sea_sp h))) (lf0_ok (.inl (pbl_sp h)))), noI_ok _ _ _⟩
theorem mrwC_x {E : Env} (h : E.ok) : CxEOk Tryz.prog E (CxE.no) := CxE.no_ok _ _
theorem mrwC_cx (E : Env) (h : E.ok) (h1 : E.lo = 0) (h2 : E.hi = 1000000000000000) : Cx.ok mrwC Tryz.prog E := ⟨tt_ok, qt_ok, bt_ok, mrwC_si h, h, h1, h2, mixed_ok, mrwC_x h⟩
abbrev mrwSp : Spec := fnSpec [msgE] [.sl rawE, .int .i64, .int .i64] [51] (fun (x : Shp.Ds [msgE]) => MsgB x.1.2.1) fun _ _ => True
theorem mrw_fn : hasFn Tryz.prog 35 := ⟨_, Tryz.func35, by rfl, by rfl⟩
theorem mrw_sp {E : Env} (hE : E.ok) : SpecOk Tryz.prog E 35 mrwSp := by
 refine spec_of_vc (C := mrwC) mrw_fn Tryz.func35 (by kernel_rfl) mrwC_cx (fun x hl hx => ?_) hE
 obtain ⟨⟨⟨i1, r1, n1, x1, f1, d1, ⟨⟩⟩, l, ⟨⟩⟩, ⟨⟩⟩ := x
 have hr : MsgB l := hx
 have hlen : l.length ≤ 100 := hr.few
 clear hl
 cbv
 (repeat' (first|((with_reducible apply And.intro <;> intro h) <;> (first|(with_reducible first|exact (tf h ‹_›).elim|exact (tf ‹_› h).elim)|cbv)) | ((with_reducible show JoinT (fun s K => vc _ (Code.region _ _ true) s K) _ _ _ _ _ _); (with_reducible apply JoinT.mg2); (focus (cbv; (repeat' (first|((with_reducible apply And.intro <;> intro h) <;> (first|(with_reducible first|exact (tf h ‹_›).elim|exact (tf ‹_› h).elim)|cbv))|((with_reducible first|apply Cb.mk|apply Lz.mk|apply JoinT.left|(apply AllT.mk;intro x hx));cbv)|((with_reducible refine Ob.mk (fun _ => ?_) ?_);rotate_left 1)|(with_reducible first|refine Mg.mk (Exists.intro ?_ (And.intro ?_ ?_))|rfl|apply Fin.mk|exact True.intro|apply And.intro))); (all_goals (try (have du : Unit := (); have dv : Unit := (); first | exact Goes.self (Ex2.mk ⟨dv, du, trivial, trivial, rfl⟩) | exact Goes.self (Ex2.mk ⟨x, du, hx, trivial, rfl⟩) | (rename_i xa hxa; exact Goes.self (Ex2.mk ⟨xa, x, hxa, hx, rfl⟩))))); (all_goals (fail_if_success (with_reducible first | show Goes _ _ _ _ | show (∃ _, unr _ _ _ _ _ _)))))))|((with_reducible first|apply Cb.mk|apply Lz.mk|apply JoinT.left|(apply AllT.mk;intro x hx));cbv)|((with_reducible refine Ob.mk (fun _ => ?_) ?_);rotate_left 1)|(with_reducible first|refine Mg.mk (Exists.intro ?_ (And.intro ?_ ?_))|rfl|apply Fin.mk|exact True.intro|apply And.intro)))
 all_goals first|(with_reducible first|show (∃ _, unr _ _ _ _ _ _)|show UnrI _ _ _ _ _|show Goes _ _ _ _|show JoinT _ _ _ _ _ _ _)|((try ((try dsimp only [Shp.D, Shp.Ds, Shp.dflt] at *); simp only [vla, vem, veq, vln] at *; (try dsimp only [Shp.D, Shp.Ds, Shp.dflt, Shp.dflts] at *); first | done | omega | skip)))
 with_reducible refine loop_hv [(5, 900001, 51, rawE)] (8 :: 9 :: 10 :: rangeN 15 34) [] [900001] (fun z b t y => 0 ≤ z 14 ∧ z 14 ≤ (l.length : Int) ∧ ((y 900001 rawE).length : Int) ≤ z 14) (fun z b t y => ((l.length : Int) - z 14).toNat) (by cbv) (by cbv) ?_ ?_ (fun z1 b1 t1 u1 y1 R1 hP1 hR1 => ?_)
 ·exact EndOk.au
 ·intro zq bq tq yq hUq
  have q14 := hUq.z 14
  have qy900001 := hUq.y 900001 (rawE)
  cbv at q14 qy900001
  replace q14 := q14.eq
  replace qy900001 := qy900001.eq
  simp only [atI, atB, atT, atY, convL_self, vem, veq, ne_eq, cmpI, arI, dvI, shI, SV.den] at q14 qy900001
  clear hUq
  try dsimp only [Shp.D, Shp.Ds, Shp.dflt] at *
  try simp only [vla, vem, veq] at *
  rw [← q14, ← qy900001]
  exact ⟨by omega, by omega, by simp⟩
 obtain ⟨p1, p2, p3⟩ := hP1
 cbv
 (repeat' (first|((with_reducible apply And.intro <;> intro h) <;> (first|(with_reducible first|exact (tf h ‹_›).elim|exact (tf ‹_› h).elim)|cbv)) | ((with_reducible show JoinT (fun s K => vc _ (Code.region _ _ true) s K) _ _ _ _ _ _); (with_reducible apply JoinT.mg2); (focus (cbv; (repeat' (first|((with_reducible apply And.intro <;> intro h) <;> (first|(with_reducible first|exact (tf h ‹_›).elim|exact (tf ‹_› h).elim)|cbv))|((with_reducible first|apply Cb.mk|apply Lz.mk|apply JoinT.left|(apply AllT.mk;intro x hx));cbv)|((with_reducible refine Ob.mk (fun _ => ?_) ?_);rotate_left 1)|(with_reducible first|refine Mg.mk (Exists.intro ?_ (And.intro ?_ ?_))|rfl|apply Fin.mk|exact True.intro|apply And.intro))); (all_goals (try (have du : Unit := (); have dv : Unit := (); first | exact Goes.self (Ex2.mk ⟨dv, du, trivial, trivial, rfl⟩) | exact Goes.self (Ex2.mk ⟨x, du, hx, trivial, rfl⟩) | (rename_i xa hxa; exact Goes.self (Ex2.mk ⟨xa, x, hxa, hx, rfl⟩))))); (all_goals (fail_if_success (with_reducible first | show Goes _ _ _ _ | show (∃ _, unr _ _ _ _ _ _)))))))|((with_reducible first|apply Cb.mk|apply Lz.mk|apply JoinT.left|(apply AllT.mk;intro x hx));cbv)|((with_reducible refine Ob.mk (fun _ => ?_) ?_);rotate_left 1)|(with_reducible first|refine Mg.mk (Exists.intro ?_ (And.intro ?_ ?_))|rfl|apply Fin.mk|exact True.intro|apply And.intro)))
 all_goals first
  | (with_reducible show Goes _ _ _ _; skip)
  | (try ((try dsimp only [Shp.D, Shp.Ds, Shp.dflt] at *); simp only [vla, vem, veq, vln] at *; (try dsimp only [Shp.D, Shp.Ds, Shp.dflt, Shp.dflts] at *); first | done | omega | (exact pb_at hr (i := (z1 14).toNat) (by omega) _) | (exact ⟨by decide, by omega, by omega, trivial⟩) | skip))
 all_goals
  (((with_reducible refine hR1 _ ?_ (fun zq bq tq yq hUq => ?_)); (focus (exact EndOk.au)); (have q14 := hUq.z 14); (have qy900001 := hUq.y 900001 (rawE)); (cbv at q14 qy900001); (replace q14 := q14.eq); (replace qy900001 := qy900001.eq); (simp only [atI, atB, atT, atY, convL_self, vem, veq, ne_eq, cmpI, arI, dvI, shI, SV.den] at q14 qy900001); (clear hUq hR1); (try dsimp only [Shp.D, Shp.Ds, Shp.dflt] at *); (try simp only [vem, veq, ne_eq, cmpI, arI, dvI, shI, SV.den, elemAt, convL_self] at *); (try dsimp only [Shp.D, Shp.Ds, Shp.dflt, Shp.dflts] at *))); (try ((try dsimp only [Shp.D, Shp.Ds, Shp.dflt] at *); simp only [vla, vem, veq, vln] at *; (try dsimp only [Shp.D, Shp.Ds, Shp.dflt, Shp.dflts] at *)))
  first
   | exact ⟨⟨by omega, by omega, by rw [← qy900001, List.length_append, List.length_cons, List.length_nil]; omega⟩, by omega⟩
theorem hb_len {h : Hd.HdT} {n : Int} {b : List UInt8} {e : Int} {P : Prop} (hb : (b, e) = Hd.buildF h n ∧ P) : b.length ≤ 28 := by
 have := congrArg Prod.fst hb.1
 rw [show b = (Hd.buildF h n).1 from this]
 unfold Hd.buildF
 split
 ·simp
 split
 ·simp
 ·have h1 := Ch.putF_len h.1 8 (by omega)
  have h2 := Ch.putF_len h.2.1 8 (by omega)
  have h3 := Ch.putF_len (IntKind.u64.wrap h.2.2.2.2.2.1) 4 (by omega)
  have h4 := Ch.putF_len (IntKind.u64.wrap n) 4 (by omega)
  simp only [Hd.hdB, List.length_append, List.length_cons, List.length_nil]
  omega
abbrev mbuSp : Spec := fnSpec [msgE] [.sl .byte, .int .i64] [5] (fun (x : Shp.Ds [msgE]) => MsgB x.1.2.1) fun _ (y : Shp.Ds [.sl .byte, .int .i64]) => y.1.length ≤ 8192
def mbuC_t : SpecT := nd0 36 (nd0 35 (lf0 20 (ckmSp)) (lf0 35 (mrwSp))) (nd0 37 (lf0 36 (Ch.cbuSp)) (nd0 38 (lf0 37 (Hd.ckFn)) (lf0 38 (Hd.hbuSp))))
def mbuC : Cx := ⟨tt, qt, bt, st, mbuC_t, 0, 1000000000000000, fun _ => none, false, CxE.no, []⟩
theorem mbuC_si {E : Env} (h : E.ok) : SpecsOk Tryz.prog E (CxE.no) mbuC_t (fun _ => none) := ⟨(nd0_ok (nd0_ok (lf0_ok (.inl (ckm_sp h))) (lf0_ok (.inl (mrw_sp h)))) (nd0_ok (lf0_ok (.inl (Ch.cbu_sp h))) (nd0_ok (lf0_ok (.inl (Hd.hck_sp h))) (lf0_ok (.inl (Hd.hbu_sp h)))))), noI_ok _ _ _⟩
theorem mbuC_x {E : Env} (h : E.ok) : CxEOk Tryz.prog E (CxE.no) := CxE.no_ok _ _
theorem mbuC_cx (E : Env) (h : E.ok) (h1 : E.lo = 0) (h2 : E.hi = 1000000000000000) : Cx.ok mbuC Tryz.prog E := ⟨tt_ok, qt_ok, bt_ok, mbuC_si h, h, h1, h2, mixed_ok, mbuC_x h⟩
theorem mbu_fn : hasFn Tryz.prog 17 := ⟨_, Tryz.func17, by rfl, by rfl⟩
theorem mbu_sp {E : Env} (hE : E.ok) : SpecOk Tryz.prog E 17 mbuSp := by
 refine spec_of_vc (C := mbuC) mbu_fn Tryz.func17 (by kernel_rfl) mbuC_cx (fun x hl hx => ?_) hE
 obtain ⟨⟨⟨i1, r1, n1, x1, f1, d1, ⟨⟩⟩, l, ⟨⟩⟩, ⟨⟩⟩ := x
 have hr : MsgB l := hx
 have hlen : l.length ≤ 100 := hr.few
 clear hl
 cbv
 (repeat' (first|((with_reducible apply And.intro <;> intro h) <;> (first|(with_reducible first|exact (tf h ‹_›).elim|exact (tf ‹_› h).elim)|cbv))|((with_reducible first|apply Cb.mk|apply Lz.mk|apply JoinT.left|(apply AllT.mk;intro x hx));cbv)|((with_reducible refine Ob.mk (fun _ => ?_) ?_);rotate_left 1)|(with_reducible first|refine Mg.mk (Exists.intro ?_ (And.intro ?_ ?_))|rfl|apply Fin.mk|exact True.intro|apply And.intro)))
 all_goals first|(with_reducible first|show (∃ _, unr _ _ _ _ _ _)|show UnrI _ _ _ _ _|show Goes _ _ _ _|show JoinT _ _ _ _ _ _ _)|((try ((try dsimp only [Shp.D, Shp.Ds, Shp.dflt] at *); simp only [vla, vem, veq, vln] at *; (try dsimp only [Shp.D, Shp.Ds, Shp.dflt, Shp.dflts] at *); first | done | omega | (exact hr) | (exact ⟨by omega⟩) | (have := hb_len ‹(_, _) = Hd.buildF _ _ ∧ _›; simp only [Shp.lims, Shp.lim] at *; first | omega | exact ⟨by omega, by omega⟩ | (simp only [List.length_append]; omega)) | skip)))
end
end Go.Proofs.YtkifmppmfkpfbaaGreat.V
