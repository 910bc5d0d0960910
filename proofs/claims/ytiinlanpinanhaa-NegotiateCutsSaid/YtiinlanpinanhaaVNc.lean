/- Narrowed lists have just the packets of the offer that are in the box (plain law). -/
import Derived.Test.YtiinlanpinanhaaVNg
import Derived.Test.YtiinlanpinanhaaVNr
set_option linter.unusedVariables false
set_option linter.unusedSimpArgs false
namespace Go.Proofs.Ytiinlanpinanhaa.V
open Go.RowKit
set_option maxHeartbeats 8000000
set_option maxRecDepth 100000
theorem has_meet0 {a b : Sel} (ha : a.ok) (hb : b.ok) {u : Adr} (hu : u.ok) (pr port : Int) :
    (has a u pr port && has b u pr port) = ((meet a b).2 && has (meet a b).1 u pr port) := by
  rw [Bool.eq_iff_iff, Bool.and_eq_true, Bool.and_eq_true, has_iff ha hu, has_iff hb hu]
  by_cases hm : may a b
  · obtain ⟨c, e, oc, m⟩ := meet_yes ha hb hm
    have hp0 := ha.p0; have hp1 := hb.p0
    have h1 := m.pr; have h2 := m.cpr; have h3 := m.klo; have h4 := m.khi; have h7 := m.qlo; have h8 := m.qhi; have h9 := m.fam
    have hf := m.fam' ha hb oc ha hb
    rw [e, has_iff oc hu, h3, h4, h7, h8, hf]
    clear h3 h4 h7 h8 m e oc hm hf
    constructor
    · rintro ⟨⟨a1, a2, a3, a4, a5, a6⟩, ⟨b1, b2, b3, b4, b5, b6⟩⟩
      exact ⟨rfl, a1, by omega, by omega, by omega, by omega, by omega⟩
    · rintro ⟨_, a1, a2, a3, a4, a5, a6⟩
      exact ⟨⟨a1, by omega, by omega, by omega, by omega, by omega⟩, ⟨by omega, by omega, by omega, by omega, by omega, by omega⟩⟩
  · rw [meet_no ha hb hm]
    constructor
    · rintro ⟨⟨a1, a2, a3, a4, a5, a6⟩, ⟨b1, b2, b3, b4, b5, b6⟩⟩
      exact (hm ⟨by omega, by omega, by omega, by omega⟩).elim
    · rintro ⟨h, _⟩
      cases h
theorem inL_iff {l : List SelT} {u : AdrT} {pr port : Int} : inL l u pr port = true ↔ ∃ s ∈ l, has (toSel s) (toAdr u) pr port = true := by
  unfold inL
  rw [List.any_eq_true]
theorem meetT_some {a b c : SelT} : meetT a b = some c ↔ meet (toSel a) (toSel b) = (toSel c, true) := by
  unfold meetT
  cases h : meet (toSel a) (toSel b) with
  | mk m ok =>
    cases ok with
    | true =>
      simp only [Option.some.injEq, Prod.mk.injEq, and_true]
      constructor
      · intro e; rw [← e]; rfl
      · intro e; rw [e]; rfl
    | false => simp
theorem inL_meets {l S : List SelT} (hl : OkL l) (hS : OkL S) {u : AdrT} (hu : (toAdr u).ok) (pr port : Int) : inL (meetsF l S) u pr port = (inL l u pr port && inL S u pr port) := by
  rw [Bool.eq_iff_iff, Bool.and_eq_true, inL_iff, inL_iff, inL_iff]
  unfold meetsF
  constructor
  · rintro ⟨c, hc, h⟩
    obtain ⟨s, hs, hc⟩ := List.mem_flatMap.1 hc
    obtain ⟨t, ht, hc⟩ := List.mem_filterMap.1 hc
    have hm := has_meet0 (hl.all s hs) (hS.all t ht) hu pr port
    rw [meetT_some.1 hc] at hm
    rw [h] at hm
    simp only [Bool.and_self, Bool.and_eq_true] at hm
    exact ⟨⟨s, hs, hm.1⟩, ⟨t, ht, hm.2⟩⟩
  · rintro ⟨⟨s, hs, h1⟩, ⟨t, ht, h2⟩⟩
    have hm := has_meet0 (hl.all s hs) (hS.all t ht) hu pr port
    rw [h1, h2] at hm
    simp only [Bool.and_self] at hm
    have hm := hm.symm
    rw [Bool.and_eq_true] at hm
    refine ⟨ofSel (meet (toSel s) (toSel t)).1, List.mem_flatMap.2 ⟨s, hs, List.mem_filterMap.2 ⟨t, ht, ?_⟩⟩, hm.2⟩
    rw [meetT_some]
    exact Prod.ext rfl hm.1
theorem portsF_has {p : PrtT} (h : PrtG p) {pr : Int} {lo hi : AdrT} {port : Int} (h0 : 0 ≤ pr) (h1 : pr ≤ 255) {f : Int} (hs : SpanP f (toAdr lo) (toAdr hi)) :
    (∃ q ∈ portsF p, qlo (toSel (pr, q.1, q.2.1, lo, hi, ())) ≤ port ∧ port ≤ qhi (toSel (pr, q.1, q.2.1, lo, hi, ()))) ↔ p.1 ≤ port ∧ port ≤ p.2.1 := by
  obtain ⟨a, b, u⟩ := p
  obtain ⟨g1, g2, g3⟩ := h
  have g1 : -1 ≤ a := g1
  have g2 : a ≤ b := g2
  have g3 : b ≤ 65535 := g3
  have ql : ∀ x y : Int, (0 ≤ x ∧ x ≤ y ∧ y ≤ 65535 ∧ ¬ (x = 0 ∧ y = 65535)) → qlo (toSel (pr, x, y, lo, hi, ())) = x ∧ qhi (toSel (pr, x, y, lo, hi, ())) = y := by
    intro x y hxy
    have ho : opq (toSel (pr, x, y, lo, hi, ())) = false := by
      show (x == 65535 && y == 0) = false
      simp only [Bool.and_eq_false_iff, beq_eq_false_iff_ne]; omega
    have ha : alls (toSel (pr, x, y, lo, hi, ())) = false := by
      show (x == 0 && y == 65535) = false
      simp only [Bool.and_eq_false_iff, beq_eq_false_iff_ne]; omega
    unfold qlo qhi
    rw [ho, ha]
    exact ⟨rfl, rfl⟩
  have qo : qlo (toSel (pr, 65535, 0, lo, hi, ())) = -1 ∧ qhi (toSel (pr, 65535, 0, lo, hi, ())) = -1 := ⟨rfl, rfl⟩
  have qa : qlo (toSel (pr, 0, 65535, lo, hi, ())) = -1 ∧ qhi (toSel (pr, 0, 65535, lo, hi, ())) = 65535 := ⟨rfl, rfl⟩
  unfold portsF
  dsimp only
  by_cases c1 : a = -1 ∧ b = 65535
  · rw [if_pos c1]
    simp only [List.mem_singleton, exists_eq_left]
    rw [qa.1, qa.2]
    omega
  · rw [if_neg c1]
    by_cases c2 : a = -1
    · rw [if_pos c2, show (if (0 : Int) > a then (0 : Int) else a) = 0 from if_pos (by omega)]
      by_cases c3 : (0 : Int) > b
      · rw [if_pos c3]
        simp only [List.append_nil, List.mem_singleton, exists_eq_left]
        rw [qo.1, qo.2]
        omega
      · rw [if_neg c3, if_neg (by omega)]
        have := ql 0 b (by omega)
        simp only [List.cons_append, List.nil_append, List.mem_cons, List.not_mem_nil, or_false, exists_eq_or_imp, exists_eq_left]
        rw [qo.1, qo.2, this.1, this.2]
        omega
    · rw [if_neg c2, show (if (0 : Int) > a then (0 : Int) else a) = a from if_neg (by omega), if_neg (by omega)]
      by_cases c4 : a = 0 ∧ b = 65535
      · rw [if_pos c4]
        have e1 := ql 0 0 (by omega)
        have e2 := ql 1 65535 (by omega)
        simp only [List.nil_append, List.mem_cons, List.not_mem_nil, or_false, exists_eq_or_imp, exists_eq_left]
        rw [e1.1, e1.2, e2.1, e2.2]
        omega
      · rw [if_neg c4]
        have e1 := ql a b (by omega)
        simp only [List.nil_append, List.mem_singleton, exists_eq_left]
        rw [e1.1, e1.2]
theorem upF_in {a x : Int} : ∀ {n : Nat}, a ≤ x → x < a + n → x ∈ upF a n
  | 0, h1, h2 => by omega
  | n + 1, h1, h2 => by
    unfold upF
    rw [List.mem_append]
    by_cases h : x < a + n
    · exact .inl (upF_in h1 h)
    · right
      rw [List.mem_singleton]
      omega
def wrt (lo hi : Int) : Prop := (lo = 0 ∧ hi = 255) ∨ hi - max 1 lo < 8
theorem protos_1 {lo hi pr : Int} (h0 : 0 ≤ lo) (hp : 0 ≤ pr ∧ pr ≤ 255) (h : ∃ x ∈ protosF lo hi, x = 0 ∨ x = pr) : lo ≤ pr ∧ pr ≤ hi := by
  obtain ⟨x, hx, h⟩ := h
  unfold protosF at hx
  split at hx
  · rename_i hq; omega
  · split at hx
    · cases hx
    · have := upF_mem hx
      omega
theorem protos_2 {lo hi pr : Int} (h0 : 0 ≤ lo) (hw : wrt lo hi) (hp : lo ≤ pr ∧ pr ≤ hi) (hn : pr ≠ 0) : ∃ x ∈ protosF lo hi, x = 0 ∨ x = pr := by
  unfold protosF
  unfold wrt at hw
  split
  · exact ⟨0, by simp, .inl rfl⟩
  · rename_i hq
    rw [if_neg (by omega)]
    exact ⟨pr, upF_in (by omega) (by omega), .inr rfl⟩
theorem side_has {f plo phi : Int} {lo hi : AdrT} {p : PrtT} (hs : SpanP f (toAdr lo) (toAdr hi)) (h0 : 0 ≤ plo) (h1 : phi ≤ 255) (hp : PrtG p) {u : AdrT} (hu : (toAdr u).ok) (pr port : Int) :
    inL (sideL lo hi (protosF plo phi) (portsF p)) u pr port = true ↔ ((toAdr u).fam = (toAdr lo).fam ∧ key (toAdr lo) ≤ key (toAdr u) ∧ key (toAdr u) ≤ key (toAdr hi)) ∧ (∃ x ∈ protosF plo phi, x = 0 ∨ x = pr) ∧ (p.1 ≤ port ∧ port ≤ p.2.1) := by
  have hok := sideL_ok hs h0 h1 hp
  rw [inL_iff]
  constructor
  · rintro ⟨s, hs2, h⟩
    have hso := hok.all s hs2
    unfold sideL at hs2
    obtain ⟨x, hx, hs2⟩ := List.mem_flatMap.1 hs2
    obtain ⟨q, hq, rfl⟩ := List.mem_map.1 hs2
    obtain ⟨a1, a2, a3, a4, a5, a6⟩ := (has_iff hso hu pr port).1 h
    have hx2 := protosF_in h0 h1 hx
    exact ⟨⟨a1, a2, a3⟩, ⟨x, hx, a4⟩, (portsF_has hp hx2.1 hx2.2 hs).1 ⟨q, hq, a5, a6⟩⟩
  · rintro ⟨⟨a1, a2, a3⟩, ⟨x, hx, a4⟩, a5⟩
    have hx2 := protosF_in h0 h1 hx
    obtain ⟨q, hq, a6, a7⟩ := (portsF_has hp hx2.1 hx2.2 hs).2 a5
    have hm : ((x, q.1, q.2.1, lo, hi, ()) : SelT) ∈ sideL lo hi (protosF plo phi) (portsF p) := List.mem_flatMap.2 ⟨x, hx, List.mem_map.2 ⟨q, hq, rfl⟩⟩
    exact ⟨_, hm, (has_iff (hok.all _ hm) hu pr port).2 ⟨a1, a2, a3, a4, a6, a7⟩⟩
structure PktG (p : PktT) : Prop where
  src : (toAdr p.1).ok
  dst : (toAdr p.2.1).ok
  p0 : 0 ≤ p.2.2.1
  p1 : p.2.2.1 ≤ 255
/-- A box has a packet (to the outside). -/
def hasB (b : BoxT) (p : PktT) : Bool := btw (toAdr p.1) (toAdr b.1) (toAdr b.2.1) && (btw (toAdr p.2.1) (toAdr b.2.2.1) (toAdr b.2.2.2.1) && decide (b.2.2.2.2.1 ≤ p.2.2.1 ∧ p.2.2.1 ≤ b.2.2.2.2.2.1 ∧ b.2.2.2.2.2.2.1.1 ≤ p.2.2.2.1 ∧ p.2.2.2.1 ≤ b.2.2.2.2.2.2.1.2.1 ∧ b.2.2.2.2.2.2.2.1.1 ≤ p.2.2.2.2.1 ∧ p.2.2.2.2.1 ≤ b.2.2.2.2.2.2.2.1.2.1))
theorem btw_iff {a lo hi : Adr} (ha : a.ok) (hl : lo.ok) (hh : hi.ok) : btw a lo hi = true ↔ a.fam = lo.fam ∧ key lo ≤ key a ∧ key a ≤ key hi := by
  unfold btw
  rw [less_key ha hl, less_key hh ha]
  simp only [Bool.and_eq_true, decide_eq_true_eq, Bool.not_eq_true', decide_eq_false_iff_not, Int.not_lt]
theorem hasB_iff {b : BoxT} (hb : BoxG b) {p : PktT} (hp : PktG p) : hasB b p = true ↔
    ((toAdr p.1).fam = (toAdr b.1).fam ∧ key (toAdr b.1) ≤ key (toAdr p.1) ∧ key (toAdr p.1) ≤ key (toAdr b.2.1)) ∧ ((toAdr p.2.1).fam = (toAdr b.2.2.1).fam ∧ key (toAdr b.2.2.1) ≤ key (toAdr p.2.1) ∧ key (toAdr p.2.1) ≤ key (toAdr b.2.2.2.1)) ∧
    (b.2.2.2.2.1 ≤ p.2.2.1 ∧ p.2.2.1 ≤ b.2.2.2.2.2.1 ∧ b.2.2.2.2.2.2.1.1 ≤ p.2.2.2.1 ∧ p.2.2.2.1 ≤ b.2.2.2.2.2.2.1.2.1 ∧ b.2.2.2.2.2.2.2.1.1 ≤ p.2.2.2.2.1 ∧ p.2.2.2.2.1 ≤ b.2.2.2.2.2.2.2.1.2.1) := by
  obtain ⟨f, hf, s1, s2⟩ := hb.f
  unfold hasB
  rw [Bool.and_eq_true, Bool.and_eq_true, btw_iff hp.src s1.lo.ok s1.hi.ok, btw_iff hp.dst s2.lo.ok s2.hi.ok, decide_eq_true_eq]
theorem narrow_e {l r x y : List SelT} {b : BoxT} {e : Int} (h : (x, y, e) = narrowF l r b) (he : e = 0) : x = meetsF l (sideF b true) ∧ y = meetsF r (sideF b false) := by
  unfold narrowF at h
  split at h
  · simp only [Prod.mk.injEq] at h; omega
  · split at h
    · simp only [Prod.mk.injEq] at h; omega
    · simp only [Prod.mk.injEq] at h; exact ⟨h.1, h.2.1⟩
theorem cut_1 {l r x y : List SelT} {b : BoxT} {p : PktT} {e : Int} (hl : OkL l) (hr : OkL r) (hb : BoxG b) (hp : PktG p) (h : (x, y, e) = narrowF l r b) (he : e = 0) (hin : withinF x y p true = true) : withinF l r p true = true ∧ hasB b p = true := by
  obtain ⟨rfl, rfl⟩ := narrow_e h he
  obtain ⟨f, hf, s1, s2⟩ := hb.f
  unfold withinF at hin ⊢
  simp only at hin ⊢
  rw [inL_meets hl (sideF_ok hb true) hp.src, inL_meets hr (sideF_ok hb false) hp.dst] at hin
  simp only [Bool.and_eq_true] at hin ⊢
  obtain ⟨⟨a1, a2⟩, ⟨a3, a4⟩⟩ := hin
  have b1 := (side_has s1 hb.lo hb.hi' hb.lp hp.src _ _).1 a2
  have b2 := (side_has s2 hb.lo hb.hi' hb.rp hp.dst _ _).1 a4
  have b3 := protos_1 hb.lo ⟨hp.p0, hp.p1⟩ b1.2.1
  exact ⟨⟨a1, a3⟩, (hasB_iff hb hp).2 ⟨b1.1, b2.1, b3.1, b3.2, b1.2.2.1, b1.2.2.2, b2.2.2.1, b2.2.2.2⟩⟩
theorem cut_2 {l r x y : List SelT} {b : BoxT} {p : PktT} {e : Int} (hl : OkL l) (hr : OkL r) (hb : BoxG b) (hp : PktG p) (h : (x, y, e) = narrowF l r b) (he : ¬ e = 10) (hw : withinF l r p true = true) (hB : hasB b p = true) (hwr : wrt b.2.2.2.2.1 b.2.2.2.2.2.1) (hn : ¬ p.2.2.1 = 0) : e = 0 ∧ withinF x y p true = true := by
  obtain ⟨f, hf, s1, s2⟩ := hb.f
  obtain ⟨c1, c2, c3, c4, c5, c6, c7, c8⟩ := (hasB_iff hb hp).1 hB
  have hpr := protos_2 hb.lo hwr ⟨c3, c4⟩ hn
  have a2 := (side_has s1 hb.lo hb.hi' hb.lp hp.src p.2.2.1 p.2.2.2.1).2 ⟨c1, hpr, c5, c6⟩
  have a4 := (side_has s2 hb.lo hb.hi' hb.rp hp.dst p.2.2.1 p.2.2.2.2.1).2 ⟨c2, hpr, c7, c8⟩
  unfold withinF at hw
  simp only [Bool.and_eq_true] at hw
  have g1 : inL (meetsF l (sideF b true)) p.1 p.2.2.1 p.2.2.2.1 = true := by rw [inL_meets hl (sideF_ok hb true) hp.src, hw.1]; exact a2
  have g2 : inL (meetsF r (sideF b false)) p.2.1 p.2.2.1 p.2.2.2.2.1 = true := by rw [inL_meets hr (sideF_ok hb false) hp.dst, hw.2]; exact a4
  have n1 : (meetsF l (sideF b true)).length ≠ 0 := by
    obtain ⟨s, hs, _⟩ := inL_iff.1 g1
    intro h0
    rw [List.length_eq_zero_iff.1 h0] at hs
    cases hs
  have n2 : (meetsF r (sideF b false)).length ≠ 0 := by
    obtain ⟨s, hs, _⟩ := inL_iff.1 g2
    intro h0
    rw [List.length_eq_zero_iff.1 h0] at hs
    cases hs
  unfold narrowF at h
  rw [if_neg (by omega)] at h
  split at h
  · simp only [Prod.mk.injEq] at h; exact absurd h.2.2 he
  · simp only [Prod.mk.injEq] at h
    obtain ⟨rfl, rfl, rfl⟩ := h
    refine ⟨rfl, ?_⟩
    unfold withinF
    simp only [Bool.and_eq_true]
    exact ⟨g1, g2⟩
theorem meets_ok {l S : List SelT} (hl : OkL l) (hS : OkL S) : OkL (meetsF l S) := by
  refine ⟨fun c hc => ?_⟩
  unfold meetsF at hc
  obtain ⟨s, hs, hc⟩ := List.mem_flatMap.1 hc
  obtain ⟨t, ht, hc⟩ := List.mem_filterMap.1 hc
  have hm := meetT_some.1 hc
  by_cases hy : may (toSel s) (toSel t)
  · obtain ⟨c', e, oc, _⟩ := meet_yes (hl.all s hs) (hS.all t ht) hy
    rw [e] at hm
    have hc' : c' = toSel c := congrArg Prod.fst hm
    rw [← hc']
    exact oc
  · rw [meet_no (hl.all s hs) (hS.all t ht) hy] at hm
    cases congrArg Prod.snd hm
theorem narrow_ok {l r x y : List SelT} {b : BoxT} {e : Int} (hl : OkL l) (hr : OkL r) (hb : BoxG b) (h : (x, y, e) = narrowF l r b) : OkL x ∧ OkL y ∧ x.length ≤ 16 ∧ y.length ≤ 16 := by
  unfold narrowF at h
  split at h
  · simp only [Prod.mk.injEq] at h; obtain ⟨rfl, rfl, _⟩ := h; exact ⟨⟨fun s hs => by cases hs⟩, ⟨fun s hs => by cases hs⟩, by simp, by simp⟩
  · split at h
    · simp only [Prod.mk.injEq] at h; obtain ⟨rfl, rfl, _⟩ := h; exact ⟨⟨fun s hs => by cases hs⟩, ⟨fun s hs => by cases hs⟩, by simp, by simp⟩
    · simp only [Prod.mk.injEq] at h
      obtain ⟨rfl, rfl, _⟩ := h
      exact ⟨meets_ok hl (sideF_ok hb true), meets_ok hr (sideF_ok hb false), by omega, by omega⟩
theorem cut_3 {l r x y x2 y2 : List SelT} {b : BoxT} {p : PktT} {e f : Int} (hl : OkL l) (hr : OkL r) (hb : BoxG b) (hp : PktG p) (h : (x, y, e) = narrowF l r b) (he : e = 0) (h2 : (x2, y2, f) = narrowF x y b) (hf : f = 0) : withinF x y p true = withinF x2 y2 p true := by
  obtain ⟨ox, oy, _, _⟩ := narrow_ok hl hr hb h
  obtain ⟨rfl, rfl⟩ := narrow_e h2 hf
  obtain ⟨rfl, rfl⟩ := narrow_e h he
  unfold withinF
  simp only
  rw [inL_meets ox (sideF_ok hb true) hp.src, inL_meets oy (sideF_ok hb false) hp.dst, inL_meets hl (sideF_ok hb true) hp.src, inL_meets hr (sideF_ok hb false) hp.dst]
  simp only [Bool.and_assoc, Bool.and_self]
end Go.Proofs.Ytiinlanpinanhaa.V
