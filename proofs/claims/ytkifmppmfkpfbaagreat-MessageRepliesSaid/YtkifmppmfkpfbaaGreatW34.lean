import Derived.Test.YtkifmppmfkpfbaaGreatW18
import Derived.Test.YtkifmppmfkpfbaaGreatW16
import Derived.Test.YtkifmppmfkpfbaaGreatW17
import Derived.WideShapes
import Derived.Test.YtkifmppmfkpfbaaGreatW32
import Derived.Test.YtkifmppmfkpfbaaGreatW33
import Derived.Test.YtkifmppmfkpfbaaGreatW22
set_option linter.unusedVariables false
set_option linter.unusedSimpArgs false
namespace Go.Proofs.YtkifmppmfkpfbaaGreat.V
open Go.RowKit
section
set_option maxHeartbeats 8000000
set_option maxRecDepth 100000
theorem bits_u8 (op : BinOp) (x y : Int) : 0 ≤ bits op .u8 x y ∧ bits op .u8 x y < 256 := by
 unfold bits
 rw [IntKind.wrap_u8]
 omega
theorem two_bytes (x y : Int) (h0 : 0 ≤ x) (h1 : x < 256) (g0 : 0 ≤ y) (g1 : y < 256) : bits .or .i64 ((x * 2 ^ min (Int.toNat 8) IntKind.i64.bits + 9223372036854775808) % 18446744073709551616 - 9223372036854775808) y = x * 256 + y := by
 have e : (x * 2 ^ min (Int.toNat 8) IntKind.i64.bits + 9223372036854775808) % 18446744073709551616 - 9223372036854775808 = x * 256 := by
  show (x * 2 ^ 8 + _) % _ - _ = _
  omega
 rw [e, bits_join .i64 63 (by decide) (fun n h0 h1 => by rw [IntKind.wrap_i64]; omega) 8 _ _ (by omega) (by omega) (by omega) (by omega) (by omega) (by omega)]
theorem chg_at (x y n : Int) (h0 : 0 ≤ x) (h1 : x < 256) (g0 : 0 ≤ y) (g1 : y < 256) (hn : 0 < n) : 0 ≤ (bits .or .i64 ((x * 2 ^ min (Int.toNat 8) IntKind.i64.bits + 9223372036854775808) % 18446744073709551616 - 9223372036854775808) y).tmod n ∧ (bits .or .i64 ((x * 2 ^ min (Int.toNat 8) IntKind.i64.bits + 9223372036854775808) % 18446744073709551616 - 9223372036854775808) y).tmod n < n := by
 rw [two_bytes x y h0 h1 g0 g1]
 exact ⟨Int.tmod_nonneg _ (by omega), Int.tmod_lt_of_pos _ hn⟩
theorem chg_len (n : Nat) (k : Int) (hn : n ≤ 100000000) (h0 : 0 ≤ k) (h1 : k < 9) : 0 ≤ ((((n : Int) * k + 9223372036854775808) % 18446744073709551616 - 9223372036854775808).tdiv 9 + 9223372036854775808) % 18446744073709551616 - 9223372036854775808 ∧ ((((n : Int) * k + 9223372036854775808) % 18446744073709551616 - 9223372036854775808).tdiv 9 + 9223372036854775808) % 18446744073709551616 - 9223372036854775808 ≤ n := by
 have a0 : 0 ≤ (n : Int) * k := Int.mul_nonneg (by omega) h0
 have a1 : (n : Int) * k ≤ (n : Int) * 9 := Int.mul_le_mul_of_nonneg_left (by omega) (by omega)
 generalize (n : Int) * k = p at a0 a1
 have e : (p + 9223372036854775808) % 18446744073709551616 - 9223372036854775808 = p := by omega
 rw [e, Int.tdiv_eq_ediv_of_nonneg a0]
 omega
theorem setAt_len {α : Type} (l : List α) (i : Int) (d : α) (f : α → α) : (setAt l i d f).length = l.length := by simp [setAt]
def cgC_t : SpecT := lf0 12 (drSpec 74 [.int .i64] [.int .i64] [] nextPre nextPost)
def cgC : Cx := ⟨tt, qt, bt, st, cgC_t, 0, 1000000000000000, fun _ => none, false, CxE.no, []⟩
theorem cgC_si {E : Env} (h : E.ok) : SpecsOk Tryz.prog E (CxE.no) cgC_t (fun _ => none) := ⟨(lf0_ok (.inl (next_sp h))), noI_ok _ _ _⟩
theorem cgC_x {E : Env} (h : E.ok) : CxEOk Tryz.prog E (CxE.no) := CxE.no_ok _ _
theorem cgC_cx (E : Env) (h : E.ok) (h1 : E.lo = 0) (h2 : E.hi = 1000000000000000) : Cx.ok cgC Tryz.prog E := ⟨tt_ok, qt_ok, bt_ok, cgC_si h, h, h1, h2, mixed_ok, cgC_x h⟩
theorem chg_fn : hasFn Tryz.prog 18 := ⟨_, Tryz.func18, by rfl, by rfl⟩
theorem chg_sp {E : Env} (hE : E.ok) : SpecOk Tryz.prog E 18 (drSpec 74 [.sl .byte] [.sl .byte] [.sh] (fun x => x.1.length ≤ 100000000) (fun x y => y.1.length ≤ x.1.length + 1)) := by
 refine spec_of_vcD (C := cgC) chg_fn Tryz.func18 (by kernel_rfl) cgC_cx (fun x hl hx => ?_) hE
 obtain ⟨l, u⟩ := x
 have hlen : l.length ≤ 100000000 := hx
 cbv
 (repeat' (first|((with_reducible apply And.intro <;> intro h) <;> (first|(with_reducible first|exact (tf h ‹_›).elim|exact (tf ‹_› h).elim)|cbv))|((with_reducible first|apply Cb.mk|apply Lz.mk|apply JoinT.left|(apply AllT.mk;intro x hx));cbv)|((with_reducible refine Ob.mk (fun _ => ?_) ?_);rotate_left 1)|(with_reducible first|refine Mg.mk (Exists.intro ?_ (And.intro ?_ ?_))|rfl|apply Fin.mk|exact True.intro|apply And.intro)))
 all_goals first|(with_reducible first|show (∃ _, unr _ _ _ _ _ _)|show UnrI _ _ _ _ _|show Goes _ _ _ _|show JoinT _ _ _ _ _ _ _)|(first | ((((try dsimp only [Shp.D, Shp.Ds, Shp.dflt] at *); simp only [vla, vem, veq, vln] at *; (try dsimp only [Shp.D, Shp.Ds, Shp.dflt, Shp.dflts] at *)) <;> (try simp only [Shp.lims, Shp.lim, IntKind.wrap_u64, IntKind.wrap_u8] at *) <;> omega); done) | ((try dsimp only [Shp.D, Shp.Ds, Shp.dflt] at *); simp only [vla, vem, veq, vln] at *; (try dsimp only [Shp.D, Shp.Ds, Shp.dflt, Shp.dflts] at *); simp only [List.nil_append, Nat.zero_add, and_true] at *; first | omega | (rw [List.length_take]; refine Nat.le_trans (Nat.min_le_right _ _) ?_; simp; done) | exact ⟨by decide, chg_len _ _ hlen hx.1.1 hx.1.2⟩ | (rw [setAt_len]; omega) | exact (bits_u8 _ _ _).1 | exact (bits_u8 _ _ _).2 | (simp only [Shp.lims, Shp.lim, and_true] at *; refine chg_at _ _ _ ?_ ?_ ?_ ?_ ?_ <;> omega)))
end
section
theorem rep_bytes {w : World} {a : Option Addr} {len cap : Nat} {l : List UInt8} (h : Bs w a len cap l) : Shp.rep w (fun k => k < w.heap.size) (.sl .byte) l [.slice a len cap] := by
 refine ⟨⟨a, len, cap⟩, rfl, ⟨h.len_eq.symm, by rw [h.len_eq]; exact h.le, h.cap_le, by rw [h.len_eq]; exact h.len_le⟩, l.map (fun x => Value.int .u8 (UInt8.toNat x)), by simp [Shp.size], ?_, ?_⟩
 ·by_cases h0 : len = 0
  ·have : l = [] := List.eq_nil_of_length_eq_zero (by rw [h.len_eq]; exact h0)
   exact .inl (by simp [this])
  ·obtain ⟨b, off, ha, hc⟩ := h.cells (by omega)
   refine .inr ⟨b, off, ha, World.block_lt_of_cell? w ⟨b, off + 0, none⟩ (hc 0 (by rw [h.len_eq]; omega)), fun j v hv => ?_⟩
   simp only [List.getElem?_map, Option.map_eq_some_iff] at hv
   obtain ⟨x, hx, rfl⟩ := hv
   obtain ⟨hj, rfl⟩ := List.getElem?_eq_some_iff.1 hx
   exact hc j hj
 ·intro i hi
  simp only [Shp.rep, Shp.size, chunk]
  rw [Nat.mul_one, List.drop_eq_getElem_cons (by simpa using hi)]
  simp
mutual
def inr : (e : Shp) → e.D → Prop
 | .int k, x => k.has x
 | .str, x => x.size ≤ 140737488351232
 | .sl .byte, x => (x : List UInt8).length ≤ 140737488351232
 | .st fs, x => inrs fs x
 | _, _ => True
def inrs : (fs : List Shp) → Shp.Ds fs → Prop
 | [], _ => True
 | f :: fs, x => inr f x.1 ∧ inrs fs x.2
end
def ArgRep (w : World) (e : Shp) (x : e.D) (v : Value) : Prop := ∃ cs, v = argV e cs ∧ Shp.rep w (fun k => k < w.heap.size) e x cs
theorem argsRep_nil {w : World} : ArgsRep w [] () [] := rfl
theorem argsRep_cons {w : World} {e : Shp} {az : List Shp} {x : e.D} {y : Shp.Ds az} {v : Value} {vs : List Value} (h : ArgRep w e x v) (h' : ArgsRep w az y vs) : ArgsRep w (e :: az) (x, y) (v :: vs) := by
 obtain ⟨cs, rfl, h1⟩ := h
 exact ⟨cs, vs, rfl, h1, h'⟩
theorem open_intV {P : Program} {w : World} {r : Reach} {b0 : Nat} {t : TypeId} {v : Value} {k : IntKind} (ht : P.underlying t = some (.int k)) (hv : Value.okWide P w r b0 t v) (W : World) :
    ∃ x : Int, ArgRep W (.int k) x v ∧ k.has x := by
 simp only [Value.okWide, ht, Cell.okWide, Cell.ok] at hv
 cases v with
 | int k' n => obtain ⟨rfl, h⟩ := hv; exact ⟨n, ⟨_, rfl, rfl⟩, h⟩
 | _ => exact hv.elim
theorem argRep_bytes {w : World} {a : Option Addr} {len cap : Nat} {l : List UInt8} (h : Bs w a len cap l) : ArgRep w (.sl .byte) l (.slice a len cap) := ⟨_, rfl, rep_bytes h⟩
end
section
set_option maxHeartbeats 8000000
set_option maxRecDepth 100000
theorem rp2 {a c : Int} {b d : Bool} {B : Int × Bool} {P Q : Prop} (h1 : (a, b) = B ∧ P) (h2 : (c, d) = B ∧ Q) : a = c ∧ b = d := by
 have := h1.1.trans h2.1.symm
 simpa only [Prod.mk.injEq] using this
theorem rp_no {e n : Int} {ok : Bool} {P Q : Prop} (g : GE e ∧ P) (h0 : ¬ e = 0) (hr : (n, ok) = replyF e ∧ Q) (h : (!ok) = true) : False := by
 have k := reply_ok g.1 h0
 rw [← hr.1] at k
 have k : ok = true := k
 rw [k] at h
 cases h
theorem rp3 {a c : Int} {b d : Bool} {B : Int × Bool} {P Q : Prop} (h1 : (a, b) = B ∧ P) (h2 : (c, d) = B ∧ Q) (h : (!(b == d)) = true) : False := by
 rw [(rp2 h1 h2).2] at h
 simp at h
abbrev chgS : Spec := drSpec 74 [.sl .byte] [.sl .byte] [.sh] (fun x => x.1.length ≤ 100000000) (fun x y => y.1.length ≤ x.1.length + 1)
def mrlC_t : SpecT := nd0 15 (nd0 8 (nd0 7 (lf0 6 (aw7Sp)) (lf0 7 (newSpec 74))) (nd0 14 (lf0 8 (dmsS)) (lf0 14 (modSp)))) (nd0 17 (nd0 16 (lf0 15 (rplSp)) (lf0 16 (rplSp))) (nd0 18 (lf0 17 (mbuSp)) (nd0 19 (lf0 18 (chgS)) (lf0 19 (mpaSp)))))
def mrlC : Cx := ⟨tt, qt, bt, st, mrlC_t, 0, 1000000000000000, fun _ => none, false, CxE.no, []⟩
theorem mrlC_si {E : Env} (h : E.ok) : SpecsOk Tryz.prog E (CxE.no) mrlC_t (fun _ => none) := ⟨(nd0_ok (nd0_ok (nd0_ok (lf0_ok (.inl (aw7_sp h))) (lf0_ok (.inl (new_sp h)))) (nd0_ok (lf0_ok (.inl (dms_sp h))) (lf0_ok (.inl (mod_sp h))))) (nd0_ok (nd0_ok (lf0_ok (.inl (rep_sp h))) (lf0_ok (.inl (rrep_sp h)))) (nd0_ok (lf0_ok (.inl (mbu_sp h))) (nd0_ok (lf0_ok (.inl (chg_sp h))) (lf0_ok (.inl (mpa_sp h))))))), noI_ok _ _ _⟩
theorem mrlC_x {E : Env} (h : E.ok) : CxEOk Tryz.prog E (CxE.no) := CxE.no_ok _ _
theorem mrlC_cx (E : Env) (h : E.ok) (h1 : E.lo = 0) (h2 : E.hi = 1000000000000000) : Cx.ok mrlC Tryz.prog E := ⟨tt_ok, qt_ok, bt_ok, mrlC_si h, h, h1, h2, mixed_ok, mrlC_x h⟩
abbrev mrlAs : List Shp := [.int .i64, .sl .byte, .sl .byte]
theorem mrl_vc (x : Shp.Ds mrlAs) (hin : inrs mrlAs x) : vcLaw mrlC Tryz.f4 mrlAs x := by
 obtain ⟨e, b, codes, ⟨⟩⟩ := x
 clear hin
 cbv
 (repeat' (first|((with_reducible apply And.intro <;> intro h) <;> (first|(with_reducible first|exact (tf h ‹_›).elim|exact (tf ‹_› h).elim)|cbv))|((with_reducible first|apply Cb.mk|apply Lz.mk|apply JoinT.left|(apply AllT.mk;intro x hx));cbv)|((with_reducible refine Ob.mk (fun _ => ?_) ?_);rotate_left 1)|(with_reducible first|refine Mg.mk (Exists.intro ?_ (And.intro ?_ ?_))|rfl|apply Fin.mk|exact True.intro|apply And.intro)))
 all_goals first|(with_reducible first|show (∃ _, unr _ _ _ _ _ _)|show UnrI _ _ _ _ _|show Goes _ _ _ _|show JoinT _ _ _ _ _ _ _)|((try ((try dsimp only [Shp.D, Shp.Ds, Shp.dflt] at *); simp only [vla, vem, veq, vln] at *; (try dsimp only [Shp.D, Shp.Ds, Shp.dflt, Shp.dflts] at *); first | done | omega | ((rw [hx.1] at h; cases h); done) | skip)))
 all_goals refine ⟨3, ?_⟩
 all_goals
  cbv
  (repeat' (first|((with_reducible apply And.intro <;> intro h) <;> (first|(with_reducible first|exact (tf h ‹_›).elim|exact (tf ‹_› h).elim)|cbv))|((with_reducible first|apply Cb.mk|apply Lz.mk|apply JoinT.left|(apply AllT.mk;intro x hx));cbv)|((with_reducible refine Ob.mk (fun _ => ?_) ?_);rotate_left 1)|(with_reducible first|refine Mg.mk (Exists.intro ?_ (And.intro ?_ ?_))|rfl|apply Fin.mk|exact True.intro|apply And.intro)))
  all_goals first|(with_reducible first|show (∃ _, unr _ _ _ _ _ _)|show UnrI _ _ _ _ _|show Goes _ _ _ _|show JoinT _ _ _ _ _ _ _)|((try ((try dsimp only [Shp.D, Shp.Ds, Shp.dflt] at *); simp only [vla, vem, veq, vln] at *; (try dsimp only [Shp.D, Shp.Ds, Shp.dflt, Shp.dflts] at *); first | done | omega | (exact (h (rp2 (by assumption) (by assumption)).1).elim) | (exact (rp3 (by assumption) (by assumption) h).elim) | (exact (‹MsgB _ ∧ _›).1) | skip)))
 all_goals refine ⟨4, ?_⟩
 all_goals
  cbv
  (repeat' (first|((with_reducible apply And.intro <;> intro h) <;> (first|(with_reducible first|exact (tf h ‹_›).elim|exact (tf ‹_› h).elim)|cbv))|((with_reducible first|apply Cb.mk|apply Lz.mk|apply JoinT.left|(apply AllT.mk;intro x hx));cbv)|((with_reducible refine Ob.mk (fun _ => ?_) ?_);rotate_left 1)|(with_reducible first|refine Mg.mk (Exists.intro ?_ (And.intro ?_ ?_))|rfl|apply Fin.mk|exact True.intro|apply And.intro)))
  all_goals first|(with_reducible first|show (∃ _, unr _ _ _ _ _ _)|show UnrI _ _ _ _ _|show Goes _ _ _ _|show JoinT _ _ _ _ _ _ _)|((try ((try dsimp only [Shp.D, Shp.Ds, Shp.dflt] at *); simp only [vla, vem, veq, vln] at *; (try dsimp only [Shp.D, Shp.Ds, Shp.dflt, Shp.dflts] at *); first | done | omega | (exact (rp_no (‹GE _ ∧ _›) (by assumption) hx h).elim) | skip)))
theorem law_MessageReplies (x : Shp.Ds mrlAs) (w : World) (vals : List Value) (hr : ArgsRep w mrlAs x vals) (hin : inrs mrlAs x) : Calls Tryz.prog 4 vals.toArray w fun e w' => e = .returned (.bool true) ∧ Below w.heap.size w w' :=
 law_of_vc Tryz.func4 (by kernel_rfl) mrlC_cx hr (mrl_vc x hin)
end
end Go.Proofs.YtkifmppmfkpfbaaGreat.V
