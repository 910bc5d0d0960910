import Derived.Test.YtkifmppmfkpfbaaGreatW21
set_option linter.unusedVariables false
set_option linter.unusedSimpArgs false
namespace Go.Proofs.YtkifmppmfkpfbaaGreat.V
open Go.RowKit
section
set_option maxHeartbeats 8000000
set_option maxRecDepth 100000
abbrev i64E : Shp := .int .i64
theorem MsgB.of {l : List PlT} {z : Int} (r2 : z ≤ 8) (r3 : (l.length : Int) = z) (r4 : ∀ p ∈ l, PlB p) : MsgB l := ⟨by omega, r4⟩
theorem msg_st {l l' : List PlT} {p : PlT} {z z' n : Int} (hp : PlB p) (r1 : 0 ≤ z) (r3 : (l.length : Int) = z) (r4 : ∀ p ∈ l, PlB p) (q : l ++ [p] = l') (qz : z' = z + 1) (hL : n ≤ 8) (hz : z < n) :
    (0 ≤ z' ∧ z' ≤ 8 ∧ (l'.length : Int) = z' ∧ ∀ p ∈ l', PlB p) ∧ (8 - z').toNat < (8 - z).toNat := by
 subst q
 refine ⟨⟨by omega, by omega, ?_, fun x hx => ?_⟩, by omega⟩
 ·simp only [List.length_append, List.length_cons, List.length_nil]
  omega
 ·rcases List.mem_append.1 hx with h | h
  ·exact r4 x h
  ·rw [List.mem_singleton] at h
   rw [h]
   exact hp
def dmC_t : SpecT := nd0 21 (lf0 12 (nextS)) (nd0 22 (lf0 21 (hdrS)) (lf0 22 (dplS)))
def dmC : Cx := ⟨tt, qt, bt, st, dmC_t, 0, 1000000000000000, fun _ => none, false, CxE.no, []⟩
theorem dmC_si {E : Env} (h : E.ok) : SpecsOk Tryz.prog E (CxE.no) dmC_t (fun _ => none) := ⟨(nd0_ok (lf0_ok (.inl (next_sp h))) (nd0_ok (lf0_ok (.inl (dhd_sp h))) (lf0_ok (.inl (dpl_sp h))))), noI_ok _ _ _⟩
theorem dmC_x {E : Env} (h : E.ok) : CxEOk Tryz.prog E (CxE.no) := CxE.no_ok _ _
theorem dmC_cx (E : Env) (h : E.ok) (h1 : E.lo = 0) (h2 : E.hi = 1000000000000000) : Cx.ok dmC Tryz.prog E := ⟨tt_ok, qt_ok, bt_ok, dmC_si h, h, h1, h2, mixed_ok, dmC_x h⟩
abbrev dmsS : Spec := drSpec 74 [] [msgE] [.own 49] (fun _ => True) (fun _ y => MsgB y.1.2.1)
theorem dms_fn : hasFn Tryz.prog 8 := ⟨_, Tryz.func8, by rfl, by rfl⟩
theorem dms_sp {E : Env} (hE : E.ok) : SpecOk Tryz.prog E 8 dmsS := by
 refine spec_of_vcD (C := dmC) dms_fn Tryz.func8 (by kernel_rfl) dmC_cx (fun x hl hx => ?_) hE
 obtain ⟨⟩ := x
 cbv
 (repeat' (first|((with_reducible apply And.intro <;> intro h) <;> (first|(with_reducible first|exact (tf h ‹_›).elim|exact (tf ‹_› h).elim)|cbv)) | ((with_reducible show JoinT (fun s K => vc _ (Code.region _ _ true) s K) _ _ _ _ _ _); (with_reducible apply JoinT.mg2); (focus (cbv; (repeat' (first|((with_reducible apply And.intro <;> intro h) <;> (first|(with_reducible first|exact (tf h ‹_›).elim|exact (tf ‹_› h).elim)|cbv))|((with_reducible first|apply Cb.mk|apply Lz.mk|apply JoinT.left|(apply AllT.mk;intro x hx));cbv)|((with_reducible refine Ob.mk (fun _ => ?_) ?_);rotate_left 1)|(with_reducible first|refine Mg.mk (Exists.intro ?_ (And.intro ?_ ?_))|rfl|apply Fin.mk|exact True.intro|apply And.intro))); (all_goals (try (have du : Unit := (); have dv : Unit := (); first | exact Goes.self (Ex2.mk ⟨dv, du, trivial, trivial, rfl⟩) | exact Goes.self (Ex2.mk ⟨x, du, hx, trivial, rfl⟩) | (rename_i xa hxa; exact Goes.self (Ex2.mk ⟨xa, x, hxa, hx, rfl⟩))))); (all_goals (fail_if_success (with_reducible first | show Goes _ _ _ _ | show (∃ _, unr _ _ _ _ _ _)))))))|((with_reducible first|apply Cb.mk|apply Lz.mk|apply JoinT.left|(apply AllT.mk;intro x hx));cbv)|((with_reducible refine Ob.mk (fun _ => ?_) ?_);rotate_left 1)|(with_reducible first|refine Mg.mk (Exists.intro ?_ (And.intro ?_ ?_))|rfl|apply Fin.mk|exact True.intro|apply And.intro)))
 all_goals first|(with_reducible first|show (∃ _, unr _ _ _ _ _ _)|show UnrI _ _ _ _ _|show Goes _ _ _ _|show JoinT _ _ _ _ _ _ _)|((try ((try dsimp only [Shp.D, Shp.Ds, Shp.dflt] at *); simp only [vla, vem, veq, vln] at *; (try dsimp only [Shp.D, Shp.Ds, Shp.dflt, Shp.dflts] at *); first | done | omega | skip)))
 all_goals
  first
   | skip
     with_reducible refine loop_hv [(4, 900002, 3, .int .i64)] (15 :: 18 :: 24 :: 25 :: 28 :: 33 :: rangeN 41 30) [] [900002] (fun z b t y => 0 ≤ z 5 ∧ z 5 ≤ 2 ∧ ((y 900002 (.int .i64)).length : Int) ≤ 8 - z 5) (fun z b t y => (z 5).toNat) ?_ ?_ ?_ ?_ (fun z1 b1 t1 u1 y1 R1 hP1 hR1 => ?_)
     focus (cbv; done)
     focus (cbv; done)
     focus exact EndOk.au
     focus
      intro zq bq tq yq hUq
      have q5 := hUq.z 5
      have qy900002 := hUq.y 900002 (i64E)
      cbv at q5 qy900002
      replace q5 := q5.eq
      replace qy900002 := qy900002.eq
      simp only [atI, atB, atT, atY, convL_self, vem, veq, ne_eq, cmpI, arI, dvI, shI, SV.den] at q5 qy900002
      clear hUq
      try dsimp only [Shp.D, Shp.Ds, Shp.dflt] at *
      try simp only [vla, vem, veq] at *
      rw [← q5, ← qy900002]
      exact ⟨by omega, by omega, by first | (simp only [List.length_cons, List.length_nil]; omega) | (simp; omega)⟩
     obtain ⟨p1, p2, p3⟩ := hP1
     cbv
     (repeat' (first|((with_reducible apply And.intro <;> intro h) <;> (first|(with_reducible first|exact (tf h ‹_›).elim|exact (tf ‹_› h).elim)|cbv)) | ((with_reducible show JoinT (fun s K => vc _ (Code.region _ _ true) s K) _ _ _ _ _ _); (with_reducible apply JoinT.mg2); (focus (cbv; (repeat' (first|((with_reducible apply And.intro <;> intro h) <;> (first|(with_reducible first|exact (tf h ‹_›).elim|exact (tf ‹_› h).elim)|cbv))|((with_reducible first|apply Cb.mk|apply Lz.mk|apply JoinT.left|(apply AllT.mk;intro x hx));cbv)|((with_reducible refine Ob.mk (fun _ => ?_) ?_);rotate_left 1)|(with_reducible first|refine Mg.mk (Exists.intro ?_ (And.intro ?_ ?_))|rfl|apply Fin.mk|exact True.intro|apply And.intro))); (all_goals (try (have du : Unit := (); have dv : Unit := (); first | exact Goes.self (Ex2.mk ⟨dv, du, trivial, trivial, rfl⟩) | exact Goes.self (Ex2.mk ⟨x, du, hx, trivial, rfl⟩) | (rename_i xa hxa; exact Goes.self (Ex2.mk ⟨xa, x, hxa, hx, rfl⟩))))); (all_goals (fail_if_success (with_reducible first | show Goes _ _ _ _ | show (∃ _, unr _ _ _ _ _ _)))))))|((with_reducible first|apply Cb.mk|apply Lz.mk|apply JoinT.left|(apply AllT.mk;intro x hx));cbv)|((with_reducible refine Ob.mk (fun _ => ?_) ?_);rotate_left 1)|(with_reducible first|refine Mg.mk (Exists.intro ?_ (And.intro ?_ ?_))|rfl|apply Fin.mk|exact True.intro|apply And.intro)))
     all_goals first|(with_reducible first|show (∃ _, unr _ _ _ _ _ _)|show UnrI _ _ _ _ _|show Goes _ _ _ _|show JoinT _ _ _ _ _ _ _)|((try ((try dsimp only [Shp.D, Shp.Ds, Shp.dflt] at *); simp only [vla, vem, veq, vln] at *; (try dsimp only [Shp.D, Shp.Ds, Shp.dflt, Shp.dflts] at *); first | done | omega | skip)))
     all_goals (try (with_reducible show Goes _ _ _ _; (((with_reducible refine hR1 _ ?_ (fun zq bq tq yq hUq => ?_)); (focus (exact EndOk.au)); (have q5 := hUq.z 5); (have qy900002 := hUq.y 900002 (i64E)); (cbv at q5 qy900002); (replace q5 := q5.eq); (replace qy900002 := qy900002.eq); (simp only [atI, atB, atT, atY, convL_self, vem, veq, ne_eq, cmpI, arI, dvI, shI, SV.den] at q5 qy900002); (clear hUq hR1); (try dsimp only [Shp.D, Shp.Ds, Shp.dflt] at *); (try simp only [vem, veq, ne_eq, cmpI, arI, dvI, shI, SV.den, elemAt, convL_self] at *); (try dsimp only [Shp.D, Shp.Ds, Shp.dflt, Shp.dflts] at *))); (try ((try dsimp only [Shp.D, Shp.Ds, Shp.dflt] at *); simp only [vla, vem, veq, vln] at *; (try dsimp only [Shp.D, Shp.Ds, Shp.dflt, Shp.dflts] at *))); refine ⟨⟨by omega, by omega, ?_⟩, by omega⟩; rw [← qy900002]; simp only [List.length_append, List.length_cons, List.length_nil] at *; omega))
   | skip
     refine ⟨3, ?_⟩
     cbv
     (repeat' (first|((with_reducible apply And.intro <;> intro h) <;> (first|(with_reducible first|exact (tf h ‹_›).elim|exact (tf ‹_› h).elim)|cbv)) | ((with_reducible show JoinT (fun s K => vc _ (Code.region _ _ true) s K) _ _ _ _ _ _); (with_reducible apply JoinT.mg2); (focus (cbv; (repeat' (first|((with_reducible apply And.intro <;> intro h) <;> (first|(with_reducible first|exact (tf h ‹_›).elim|exact (tf ‹_› h).elim)|cbv))|((with_reducible first|apply Cb.mk|apply Lz.mk|apply JoinT.left|(apply AllT.mk;intro x hx));cbv)|((with_reducible refine Ob.mk (fun _ => ?_) ?_);rotate_left 1)|(with_reducible first|refine Mg.mk (Exists.intro ?_ (And.intro ?_ ?_))|rfl|apply Fin.mk|exact True.intro|apply And.intro))); (all_goals (try (have du : Unit := (); have dv : Unit := (); first | exact Goes.self (Ex2.mk ⟨dv, du, trivial, trivial, rfl⟩) | exact Goes.self (Ex2.mk ⟨x, du, hx, trivial, rfl⟩) | (rename_i xa hxa; exact Goes.self (Ex2.mk ⟨xa, x, hxa, hx, rfl⟩))))); (all_goals (fail_if_success (with_reducible first | show Goes _ _ _ _ | show (∃ _, unr _ _ _ _ _ _)))))))|((with_reducible first|apply Cb.mk|apply Lz.mk|apply JoinT.left|(apply AllT.mk;intro x hx));cbv)|((with_reducible refine Ob.mk (fun _ => ?_) ?_);rotate_left 1)|(with_reducible first|refine Mg.mk (Exists.intro ?_ (And.intro ?_ ?_))|rfl|apply Fin.mk|exact True.intro|apply And.intro)))
     all_goals first|(with_reducible first|show (∃ _, unr _ _ _ _ _ _)|show UnrI _ _ _ _ _|show Goes _ _ _ _|show JoinT _ _ _ _ _ _ _)|((try ((try dsimp only [Shp.D, Shp.Ds, Shp.dflt] at *); simp only [vla, vem, veq, vln] at *; (try dsimp only [Shp.D, Shp.Ds, Shp.dflt, Shp.dflts] at *); first | done | omega | skip)))
     all_goals first
      | (with_reducible show (∃ _, unr _ _ _ _ _ _); skip)
      | (exfalso; ((try dsimp only [Shp.D, Shp.Ds, Shp.dflt] at *); simp only [vla, vem, veq, vln] at *; (try dsimp only [Shp.D, Shp.Ds, Shp.dflt, Shp.dflts] at *)); omega)
 all_goals
  with_reducible refine loop_hv [(84486, 900001, 49, plE)] (rangeN 41 29) [1256] [900001] (fun z b t y => 0 ≤ z 6 ∧ z 6 ≤ 8 ∧ ((y 900001 plE).length : Int) = z 6 ∧ ∀ p ∈ y 900001 plE, PlB p) (fun z b t y => (8 - z 6).toNat) (by cbv) (by cbv) ?_ ?_ (fun z2 b2 t2 u2 y2 R2 hP2 hR2 => ?_)
  ·exact EndOk.au
  ·intro zq bq tq yq hUq
   have q6 := hUq.z 6
   have qy900001 := hUq.y 900001 (plE)
   cbv at q6 qy900001
   replace q6 := q6.eq
   replace qy900001 := qy900001.eq
   simp only [atI, atB, atT, atY, convL_self, vem, veq, ne_eq, cmpI, arI, dvI, shI, SV.den] at q6 qy900001
   clear hUq
   try dsimp only [Shp.D, Shp.Ds, Shp.dflt] at *
   try simp only [vla, vem, veq] at *
   rw [← q6, ← qy900001]
   exact ⟨by omega, by omega, by simp, fun i hi => by cases hi⟩
  obtain ⟨r1, r2, r3, r4⟩ := hP2
  cbv
  (repeat' (first|((with_reducible apply And.intro <;> intro h) <;> (first|(with_reducible first|exact (tf h ‹_›).elim|exact (tf ‹_› h).elim)|cbv)) | ((with_reducible show JoinT (fun s K => vc _ (Code.region _ _ true) s K) _ _ _ _ _ _); (with_reducible apply JoinT.mg2); (focus (cbv; (repeat' (first|((with_reducible apply And.intro <;> intro h) <;> (first|(with_reducible first|exact (tf h ‹_›).elim|exact (tf ‹_› h).elim)|cbv))|((with_reducible first|apply Cb.mk|apply Lz.mk|apply JoinT.left|(apply AllT.mk;intro x hx));cbv)|((with_reducible refine Ob.mk (fun _ => ?_) ?_);rotate_left 1)|(with_reducible first|refine Mg.mk (Exists.intro ?_ (And.intro ?_ ?_))|rfl|apply Fin.mk|exact True.intro|apply And.intro))); (all_goals (try (have du : Unit := (); have dv : Unit := (); first | exact Goes.self (Ex2.mk ⟨dv, du, trivial, trivial, rfl⟩) | exact Goes.self (Ex2.mk ⟨x, du, hx, trivial, rfl⟩) | (rename_i xa hxa; exact Goes.self (Ex2.mk ⟨xa, x, hxa, hx, rfl⟩))))); (all_goals (fail_if_success (with_reducible first | show Goes _ _ _ _ | show (∃ _, unr _ _ _ _ _ _)))))))|((with_reducible first|apply Cb.mk|apply Lz.mk|apply JoinT.left|(apply AllT.mk;intro x hx));cbv)|((with_reducible refine Ob.mk (fun _ => ?_) ?_);rotate_left 1)|(with_reducible first|refine Mg.mk (Exists.intro ?_ (And.intro ?_ ?_))|rfl|apply Fin.mk|exact True.intro|apply And.intro)))
  all_goals first
   | (with_reducible show Goes _ _ _ _; skip)
   | (try ((try dsimp only [Shp.D, Shp.Ds, Shp.dflt] at *); simp only [vla, vem, veq, vln] at *; (try dsimp only [Shp.D, Shp.Ds, Shp.dflt, Shp.dflts] at *); first | done | omega | (exact MsgB.of r2 r3 r4) | skip))
  all_goals
   (((with_reducible refine hR2 _ ?_ (fun zq bq tq yq hUq => ?_)); (focus (exact EndOk.au)); (have q6 := hUq.z 6); (have qy900001 := hUq.y 900001 (plE)); (cbv at q6 qy900001); (replace q6 := q6.eq); (replace qy900001 := qy900001.eq); (simp only [atI, atB, atT, atY, convL_self, vem, veq, ne_eq, cmpI, arI, dvI, shI, SV.den] at q6 qy900001); (clear hUq hR2); (try dsimp only [Shp.D, Shp.Ds, Shp.dflt] at *); (try simp only [vem, veq, ne_eq, cmpI, arI, dvI, shI, SV.den, elemAt, convL_self] at *); (try dsimp only [Shp.D, Shp.Ds, Shp.dflt, Shp.dflts] at *))); (try ((try dsimp only [Shp.D, Shp.Ds, Shp.dflt] at *); simp only [vla, vem, veq, vln] at *; (try dsimp only [Shp.D, Shp.Ds, Shp.dflt, Shp.dflts] at *)))
   first
    | exact msg_st ‹PlB _ ∧ _›.1 r1 r3 r4 qy900001 (by omega) (by omega) h
    | exact msg_st ‹PlB _ ∧ _›.1 r1 r3 r4 qy900001 (by omega) (by decide) h
    | exact msg_st ‹PlB _ ∧ _›.1 r1 r3 r4 qy900001 (by omega) (by simp only [List.length_append, List.length_cons, List.length_nil]; omega) h
end
end Go.Proofs.YtkifmppmfkpfbaaGreat.V
