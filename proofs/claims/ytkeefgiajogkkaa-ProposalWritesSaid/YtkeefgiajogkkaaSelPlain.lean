/- Plain facts on addresses and selectors: no program in sight. -/
namespace Go.Proofs.Ytkeefgiajogkkaa
structure Adr where
 fam : Int
 hi : Int
 lo : Int
structure Sel where
 pr : Int
 pl : Int
 ph : Int
 lo : Adr
 hi : Adr
def Adr.zero : Adr := ⟨0, 0, 0⟩
def Sel.zero : Sel := ⟨0, 0, 0, Adr.zero, Adr.zero⟩
structure Adr.ok (a : Adr) : Prop where
 f0 : -9223372036854775808 ≤ a.fam
 f1 : a.fam ≤ 9223372036854775807
 h0 : 0 ≤ a.hi
 h1 : a.hi ≤ 18446744073709551615
 l0 : 0 ≤ a.lo
 l1 : a.lo ≤ 18446744073709551615
theorem Adr.ext' {a b : Adr} (h1 : a.fam = b.fam) (h2 : a.hi = b.hi) (h3 : a.lo = b.lo) : a = b := by
 cases a; cases b; simp_all
theorem Sel.ext' {a b : Sel} (h1 : a.pr = b.pr) (h2 : a.pl = b.pl) (h3 : a.ph = b.ph) (h4 : a.lo = b.lo) (h5 : a.hi = b.hi) : a = b := by
 cases a; cases b; simp_all
def key (a : Adr) : Int := a.fam * 340282366920938463463374607431768211456 + a.hi * 18446744073709551616 + a.lo
def less (a b : Adr) : Bool := if a.fam ≠ b.fam then decide (a.fam < b.fam) else if a.hi ≠ b.hi then decide (a.hi < b.hi) else decide (a.lo < b.lo)
theorem less_key {a b : Adr} (ha : a.ok) (hb : b.ok) : less a b = decide (key a < key b) := by
 obtain ⟨_, _, a1, a2, a3, a4⟩ := ha
 obtain ⟨_, _, b1, b2, b3, b4⟩ := hb
 unfold less key
 split
 ·rw [Bool.eq_iff_iff, decide_eq_true_iff, decide_eq_true_iff]; omega
 ·split
  ·rw [Bool.eq_iff_iff, decide_eq_true_iff, decide_eq_true_iff]; omega
  ·rw [Bool.eq_iff_iff, decide_eq_true_iff, decide_eq_true_iff]; omega
theorem key_inj {a b : Adr} (ha : a.ok) (hb : b.ok) (h : key a = key b) : a = b := by
 obtain ⟨_, _, a1, a2, a3, a4⟩ := ha
 obtain ⟨_, _, b1, b2, b3, b4⟩ := hb
 unfold key at h
 exact Adr.ext' (by omega) (by omega) (by omega)
def opq (s : Sel) : Bool := s.pl == 65535 && s.ph == 0
def alls (s : Sel) : Bool := s.pl == 0 && s.ph == 65535
def amax (a b : Adr) : Adr := if less a b then b else a
def amin (a b : Adr) : Adr := if less b a then b else a
def meet (a b : Sel) : Sel × Bool :=
 if a.lo.fam ≠ b.lo.fam then (Sel.zero, false)
 else if less a.hi b.lo then (Sel.zero, false)
 else if less b.hi a.lo then (Sel.zero, false)
 else if a.pr ≠ b.pr ∧ a.pr ≠ 0 ∧ b.pr ≠ 0 then (Sel.zero, false)
 else if opq a || opq b then
  (if !(opq a || alls a) || !(opq b || alls b) then (Sel.zero, false)
   else (⟨max a.pr b.pr, 65535, 0, amax a.lo b.lo, amin a.hi b.hi⟩, true))
 else if max a.pl b.pl > min a.ph b.ph then (Sel.zero, false)
 else (⟨max a.pr b.pr, max a.pl b.pl, min a.ph b.ph, amax a.lo b.lo, amin a.hi b.hi⟩, true)
structure Sel.ok (s : Sel) : Prop where
 lo : s.lo.ok
 hi : s.hi.ok
 fam : s.lo.fam = s.hi.fam
 le : key s.lo ≤ key s.hi
 p0 : 0 ≤ s.pr
 p1 : s.pr ≤ 255
 ports : (s.pl = 65535 ∧ s.ph = 0) ∨ (0 ≤ s.pl ∧ s.pl ≤ s.ph ∧ s.ph ≤ 65535)
def qlo (s : Sel) : Int := if opq s then -1 else if alls s then -1 else s.pl
def qhi (s : Sel) : Int := if opq s then -1 else s.ph
theorem ports_of (s : Sel) (h : s.ok) : (s.pl = 65535 ∧ s.ph = 0 ∧ opq s = true ∧ alls s = false ∧ qlo s = -1 ∧ qhi s = -1) ∨
    (s.pl = 0 ∧ s.ph = 65535 ∧ opq s = false ∧ alls s = true ∧ qlo s = -1 ∧ qhi s = 65535) ∨
    (0 ≤ s.pl ∧ s.pl ≤ s.ph ∧ s.ph ≤ 65535 ∧ ¬ (s.pl = 0 ∧ s.ph = 65535) ∧ opq s = false ∧ alls s = false ∧ qlo s = s.pl ∧ qhi s = s.ph) := by
 rcases h.ports with ⟨h1, h2⟩ | ⟨h1, h2, h3⟩
 ·left; simp [opq, alls, qlo, qhi, h1, h2]
 ·right
  have ho : opq s = false := by simp [opq]; omega
  by_cases ha : s.pl = 0 ∧ s.ph = 65535
  ·left; obtain ⟨e1, e2⟩ := ha; simp [opq, alls, qlo, qhi, e1, e2]
  ·right
   have hal : alls s = false := by simp [alls]; omega
   exact ⟨h1, h2, h3, ha, ho, hal, by simp [qlo, ho, hal], by simp [qhi, ho]⟩
theorem amax_ok {a b : Adr} (ha : a.ok) (hb : b.ok) : (amax a b).ok := by unfold amax; split <;> assumption
theorem amin_ok {a b : Adr} (ha : a.ok) (hb : b.ok) : (amin a b).ok := by unfold amin; split <;> assumption
theorem key_amax {a b : Adr} (ha : a.ok) (hb : b.ok) : key (amax a b) = max (key a) (key b) := by
 unfold amax; rw [less_key ha hb]
 by_cases h : key a < key b
 ·rw [if_pos (by simpa using h)]; omega
 ·rw [if_neg (by simpa using h)]; omega
theorem key_amin {a b : Adr} (ha : a.ok) (hb : b.ok) : key (amin a b) = min (key a) (key b) := by
 unfold amin; rw [less_key hb ha]
 by_cases h : key b < key a
 ·rw [if_pos (by simpa using h)]; omega
 ·rw [if_neg (by simpa using h)]; omega
theorem fam_amax {a b : Adr} (h : a.fam = b.fam) : (amax a b).fam = a.fam := by unfold amax; split <;> simp [h]
theorem fam_amin {a b : Adr} (h : a.fam = b.fam) : (amin a b).fam = a.fam := by unfold amin; split <;> simp [h]
structure Mt (a b c : Sel) : Prop where
 fam : a.lo.fam = b.lo.fam
 pr : a.pr = b.pr ∨ a.pr = 0 ∨ b.pr = 0
 cpr : c.pr = max a.pr b.pr
 klo : key c.lo = max (key a.lo) (key b.lo)
 khi : key c.hi = min (key a.hi) (key b.hi)
 k : max (key a.lo) (key b.lo) ≤ min (key a.hi) (key b.hi)
 q : max (qlo a) (qlo b) ≤ min (qhi a) (qhi b)
 qlo : qlo c = max (qlo a) (qlo b)
 qhi : qhi c = min (qhi a) (qhi b)
def may (a b : Sel) : Prop := a.lo.fam = b.lo.fam ∧ (a.pr = b.pr ∨ a.pr = 0 ∨ b.pr = 0) ∧ max (key a.lo) (key b.lo) ≤ min (key a.hi) (key b.hi) ∧ max (qlo a) (qlo b) ≤ min (qhi a) (qhi b)
theorem sel_inj {a b : Sel} (ha : a.ok) (hb : b.ok) (h0 : a.pr = b.pr) (h1 : key a.lo = key b.lo) (h2 : key a.hi = key b.hi) (h3 : qlo a = qlo b) (h4 : qhi a = qhi b) : a = b := by
 have hpl : a.pl = b.pl ∧ a.ph = b.ph := by
  rcases ports_of a ha with h | h | h <;> rcases ports_of b hb with h' | h' | h' <;> omega
 exact Sel.ext' h0 hpl.1 hpl.2 (key_inj ha.lo hb.lo h1) (key_inj ha.hi hb.hi h2)
theorem meet_yes {a b : Sel} (ha : a.ok) (hb : b.ok) (h : may a b) : ∃ c, meet a b = (c, true) ∧ c.ok ∧ Mt a b c := by
 obtain ⟨h1, h2, h3, h4⟩ := h
 have e1 : less a.hi b.lo = false := by rw [less_key ha.hi hb.lo]; simp; omega
 have e2 : less b.hi a.lo = false := by rw [less_key hb.hi ha.lo]; simp; omega
 have e3 : ¬ (a.pr ≠ b.pr ∧ a.pr ≠ 0 ∧ b.pr ≠ 0) := by omega
 have hp0 := ha.p0; have hp1 := hb.p0; have hp2 := ha.p1; have hp3 := hb.p1
 have okl := amax_ok ha.lo hb.lo
 have okh := amin_ok ha.hi hb.hi
 have kl := key_amax ha.lo hb.lo
 have kh := key_amin ha.hi hb.hi
 have fl := fam_amax h1
 have fh := fam_amin (show a.hi.fam = b.hi.fam by rw [← ha.fam, ← hb.fam]; exact h1)
 have ff : (amax a.lo b.lo).fam = (amin a.hi b.hi).fam := by rw [fl, fh, ha.fam]
 unfold meet
 rw [if_neg (by simpa using h1), if_neg (by simp [e1]), if_neg (by simp [e2]), if_neg e3]
 have mk : ∀ c : Sel, c.pr = max a.pr b.pr → c.lo = amax a.lo b.lo → c.hi = amin a.hi b.hi → ((c.pl = 65535 ∧ c.ph = 0) ∨ (0 ≤ c.pl ∧ c.pl ≤ c.ph ∧ c.ph ≤ 65535)) →
     qlo c = max (qlo a) (qlo b) → qhi c = min (qhi a) (qhi b) → c.ok ∧ Mt a b c := by
  intro c g1 g2 g3 g4 g5 g6
  exact ⟨⟨by rw [g2]; exact okl, by rw [g3]; exact okh, by rw [g2, g3]; exact ff, by rw [g2, g3]; omega, by rw [g1]; omega, by rw [g1]; omega, g4⟩, ⟨h1, h2, g1, by rw [g2]; exact kl, by rw [g3]; exact kh, h3, h4, g5, g6⟩⟩
 rcases ports_of a ha with pa | pa | pa <;> rcases ports_of b hb with pb | pb | pb
 ·rw [if_pos (by simp [pa, pb]), if_neg (by simp [pa, pb])]
  exact ⟨_, rfl, mk _ rfl rfl rfl (.inl ⟨rfl, rfl⟩) (by show (-1 : Int) = _; omega) (by show (-1 : Int) = _; omega)⟩
 ·rw [if_pos (by simp [pa, pb]), if_neg (by simp [pa, pb])]
  exact ⟨_, rfl, mk _ rfl rfl rfl (.inl ⟨rfl, rfl⟩) (by show (-1 : Int) = _; omega) (by show (-1 : Int) = _; omega)⟩
 ·omega
 ·rw [if_pos (by simp [pa, pb]), if_neg (by simp [pa, pb])]
  exact ⟨_, rfl, mk _ rfl rfl rfl (.inl ⟨rfl, rfl⟩) (by show (-1 : Int) = _; omega) (by show (-1 : Int) = _; omega)⟩
 ·rw [if_neg (by simp [pa, pb]), if_neg (by omega)]
  refine ⟨_, rfl, mk _ rfl rfl rfl (.inr ?_) ?_ ?_⟩
  ·simp only; omega
  ·simp [pa, pb, qlo, opq, alls]
  ·simp [pa, pb, qhi, opq]
 ·rw [if_neg (by simp [pa, pb]), if_neg (by omega)]
  have f1 : max a.pl b.pl = b.pl := by omega
  have f2 : min a.ph b.ph = b.ph := by omega
  rw [f1, f2]
  refine ⟨_, rfl, mk _ rfl rfl rfl (.inr ?_) ?_ ?_⟩
  ·simp only; omega
  ·have : qlo ⟨max a.pr b.pr, b.pl, b.ph, amax a.lo b.lo, amin a.hi b.hi⟩ = qlo b := rfl
   rw [this]; omega
  ·have : qhi ⟨max a.pr b.pr, b.pl, b.ph, amax a.lo b.lo, amin a.hi b.hi⟩ = qhi b := rfl
   rw [this]; omega
 ·omega
 ·rw [if_neg (by simp [pa, pb]), if_neg (by omega)]
  have f1 : max a.pl b.pl = a.pl := by omega
  have f2 : min a.ph b.ph = a.ph := by omega
  rw [f1, f2]
  refine ⟨_, rfl, mk _ rfl rfl rfl (.inr ?_) ?_ ?_⟩
  ·simp only; omega
  ·have : qlo ⟨max a.pr b.pr, a.pl, a.ph, amax a.lo b.lo, amin a.hi b.hi⟩ = qlo a := rfl
   rw [this]; omega
  ·have : qhi ⟨max a.pr b.pr, a.pl, a.ph, amax a.lo b.lo, amin a.hi b.hi⟩ = qhi a := rfl
   rw [this]; omega
 ·rw [if_neg (by simp [pa, pb]), if_neg (by omega)]
  refine ⟨_, rfl, mk _ rfl rfl rfl (.inr ?_) ?_ ?_⟩
  ·simp only; omega
  ·have : opq ⟨max a.pr b.pr, max a.pl b.pl, min a.ph b.ph, amax a.lo b.lo, amin a.hi b.hi⟩ = false := by simp [opq]; omega
   have h7 : alls ⟨max a.pr b.pr, max a.pl b.pl, min a.ph b.ph, amax a.lo b.lo, amin a.hi b.hi⟩ = false := by simp [alls]; omega
   simp only [qlo, this, h7]; simp [pa, pb]
  ·have : opq ⟨max a.pr b.pr, max a.pl b.pl, min a.ph b.ph, amax a.lo b.lo, amin a.hi b.hi⟩ = false := by simp [opq]; omega
   simp only [qhi, this]; simp [pa, pb]
theorem meet_no {a b : Sel} (ha : a.ok) (hb : b.ok) (h : ¬ may a b) : meet a b = (Sel.zero, false) := by
 unfold meet
 by_cases h1 : a.lo.fam ≠ b.lo.fam
 ·rw [if_pos h1]
 rw [if_neg h1]
 by_cases e1 : less a.hi b.lo = true
 ·rw [if_pos e1]
 rw [if_neg e1]
 by_cases e2 : less b.hi a.lo = true
 ·rw [if_pos e2]
 rw [if_neg e2]
 by_cases e3 : a.pr ≠ b.pr ∧ a.pr ≠ 0 ∧ b.pr ≠ 0
 ·rw [if_pos e3]
 rw [if_neg e3]
 rw [less_key ha.hi hb.lo] at e1
 rw [less_key hb.hi ha.lo] at e2
 simp only [decide_eq_true_eq] at e1 e2
 have hla := ha.le
 have hlb := hb.le
 have hq : ¬ max (qlo a) (qlo b) ≤ min (qhi a) (qhi b) := fun hq => h ⟨by omega, by omega, by omega, hq⟩
 rcases ports_of a ha with pa | pa | pa <;> rcases ports_of b hb with pb | pb | pb
 ·omega
 ·omega
 ·rw [if_pos (by simp [pa, pb]), if_pos (by simp [pa, pb])]
 ·omega
 ·omega
 ·omega
 ·rw [if_pos (by simp [pa, pb]), if_pos (by simp [pa, pb])]
 ·omega
 ·rw [if_neg (by simp [pa, pb]), if_pos (by omega)]
theorem meet_comm {a b : Sel} (ha : a.ok) (hb : b.ok) : meet a b = meet b a := by
 by_cases h : may a b
 ·have h' : may b a := ⟨h.1.symm, by have := h.2.1; omega, by have := h.2.2.1; omega, by have := h.2.2.2; omega⟩
  obtain ⟨c, e, oc, m⟩ := meet_yes ha hb h
  obtain ⟨d, e', od, m'⟩ := meet_yes hb ha h'
  rw [e, e', sel_inj oc od (by rw [m.cpr, m'.cpr]; omega) (by rw [m.klo, m'.klo]; omega) (by rw [m.khi, m'.khi]; omega) (by rw [m.qlo, m'.qlo]; omega) (by rw [m.qhi, m'.qhi]; omega)]
 ·have h' : ¬ may b a := fun h' => h ⟨h'.1.symm, by have := h'.2.1; omega, by have := h'.2.2.1; omega, by have := h'.2.2.2; omega⟩
  rw [meet_no ha hb h, meet_no hb ha h']
theorem qle (a : Sel) (ha : a.ok) : qlo a ≤ qhi a := by rcases ports_of a ha with h | h | h <;> omega
theorem meet_self {a : Sel} (ha : a.ok) : meet a a = (a, true) := by
 have hl := ha.le
 have hq := qle a ha
 obtain ⟨c, e, oc, m⟩ := meet_yes ha ha ⟨rfl, .inl rfl, by omega, by omega⟩
 rw [e, sel_inj oc ha (by rw [m.cpr]; omega) (by rw [m.klo]; omega) (by rw [m.khi]; omega) (by rw [m.qlo]; omega) (by rw [m.qhi]; omega)]
theorem Mt.fam' {a b c : Sel} (_ : a.ok) (_ : b.ok) (oc : c.ok) (m : Mt a b c) (ha : a.ok) (hb : b.ok) : c.lo.fam = a.lo.fam := by
 have := m.klo; have h1 := m.fam
 have c0 := oc.lo.h0; have c1 := oc.lo.h1; have c2 := oc.lo.l0; have c3 := oc.lo.l1
 have a0 := ha.lo.h0; have a1 := ha.lo.h1; have a2 := ha.lo.l0; have a3 := ha.lo.l1
 have b0 := hb.lo.h0; have b1 := hb.lo.h1; have b2 := hb.lo.l0; have b3 := hb.lo.l1
 unfold key at this
 omega
theorem max3 (x1 x2 y1 y2 z1 z2 : Int) : max (max x1 y1) z1 ≤ min (min x2 y2) z2 ↔ max x1 (max y1 z1) ≤ min x2 (min y2 z2) := by omega
theorem max3a (x1 x2 y1 y2 z1 z2 : Int) (h : max (max x1 y1) z1 ≤ min (min x2 y2) z2) : max x1 y1 ≤ min x2 y2 ∧ max y1 z1 ≤ min y2 z2 := by omega
theorem pr3 (a b d : Int) (ha : 0 ≤ a) (hb : 0 ≤ b) (hd : 0 ≤ d) :
    ((a = b ∨ a = 0 ∨ b = 0) ∧ (max a b = d ∨ max a b = 0 ∨ d = 0)) ↔ ((b = d ∨ b = 0 ∨ d = 0) ∧ (a = max b d ∨ a = 0 ∨ max b d = 0)) := by omega
def may3 (a b d : Sel) : Prop := a.lo.fam = b.lo.fam ∧ b.lo.fam = d.lo.fam ∧ ((a.pr = b.pr ∨ a.pr = 0 ∨ b.pr = 0) ∧ (max a.pr b.pr = d.pr ∨ max a.pr b.pr = 0 ∨ d.pr = 0)) ∧
 max (max (key a.lo) (key b.lo)) (key d.lo) ≤ min (min (key a.hi) (key b.hi)) (key d.hi) ∧ max (max (qlo a) (qlo b)) (qlo d) ≤ min (min (qhi a) (qhi b)) (qhi d)
structure Mt3 (a b d u : Sel) : Prop where
 ok : u.ok
 pr : u.pr = max (max a.pr b.pr) d.pr
 klo : key u.lo = max (max (key a.lo) (key b.lo)) (key d.lo)
 khi : key u.hi = min (min (key a.hi) (key b.hi)) (key d.hi)
 qlo : qlo u = max (max (qlo a) (qlo b)) (qlo d)
 qhi : qhi u = min (min (qhi a) (qhi b)) (qhi d)
theorem Mt3.eq {a b d u u' : Sel} (h : Mt3 a b d u) (h' : Mt3 a b d u') : u = u' :=
 sel_inj h.ok h'.ok (by rw [h.pr, h'.pr]) (by rw [h.klo, h'.klo]) (by rw [h.khi, h'.khi]) (by rw [h.qlo, h'.qlo]) (by rw [h.qhi, h'.qhi])
def left3 (a b d : Sel) : Sel × Bool := if (meet a b).2 then meet (meet a b).1 d else (Sel.zero, false)
def right3 (a b d : Sel) : Sel × Bool := if (meet b d).2 then meet a (meet b d).1 else (Sel.zero, false)
theorem left_yes {a b d : Sel} (ha : a.ok) (hb : b.ok) (hd : d.ok) (h : may3 a b d) : ∃ u, left3 a b d = (u, true) ∧ Mt3 a b d u := by
 obtain ⟨h1, h2, ⟨h3, h3'⟩, h4, h5⟩ := h
 obtain ⟨x, e, ox, m⟩ := meet_yes ha hb ⟨h1, h3, (max3a _ _ _ _ _ _ h4).1, (max3a _ _ _ _ _ _ h5).1⟩
 obtain ⟨u, e2, ou, m2⟩ := meet_yes ox hd ⟨by rw [m.fam' ha hb ox ha hb, h1, h2], by rw [m.cpr]; exact h3', by rw [m.klo, m.khi]; exact h4, by rw [m.qlo, m.qhi]; exact h5⟩
 refine ⟨u, by rw [left3, e]; exact e2, ou, by rw [m2.cpr, m.cpr], by rw [m2.klo, m.klo], by rw [m2.khi, m.khi], by rw [m2.qlo, m.qlo], by rw [m2.qhi, m.qhi]⟩
theorem left_no {a b d : Sel} (ha : a.ok) (hb : b.ok) (hd : d.ok) (h : ¬ may3 a b d) : left3 a b d = (Sel.zero, false) := by
 by_cases h1 : may a b
 ·obtain ⟨x, e, ox, m⟩ := meet_yes ha hb h1
  rw [left3, e]
  refine meet_no ox hd fun h2 => h ?_
  obtain ⟨g1, g2, g3, g4⟩ := h2
  refine ⟨h1.1, by rw [← h1.1, ← m.fam' ha hb ox ha hb]; exact g1, ⟨h1.2.1, by rw [← m.cpr]; exact g2⟩, by rw [← m.klo, ← m.khi]; exact g3, by rw [← m.qlo, ← m.qhi]; exact g4⟩
 ·rw [left3, meet_no ha hb h1]; rfl
theorem max_a (a b c : Int) : max a (max b c) = max (max a b) c := by omega
theorem min_a (a b c : Int) : min a (min b c) = min (min a b) c := by omega
theorem right_yes {a b d : Sel} (ha : a.ok) (hb : b.ok) (hd : d.ok) (h : may3 a b d) : ∃ u, right3 a b d = (u, true) ∧ Mt3 a b d u := by
 obtain ⟨h1, h2, h3, h4, h5⟩ := h
 obtain ⟨h3, h3'⟩ := (pr3 _ _ _ ha.p0 hb.p0 hd.p0).1 h3
 obtain ⟨x, e, ox, m⟩ := meet_yes hb hd ⟨h2, h3, (max3a _ _ _ _ _ _ h4).2, (max3a _ _ _ _ _ _ h5).2⟩
 obtain ⟨u, e2, ou, m2⟩ := meet_yes ha ox ⟨by rw [m.fam' hb hd ox hb hd, h1], by rw [m.cpr]; exact h3', by rw [m.klo, m.khi, max_a, min_a]; exact h4, by rw [m.qlo, m.qhi, max_a, min_a]; exact h5⟩
 refine ⟨u, by rw [right3, e]; exact e2, ou, by rw [m2.cpr, m.cpr, max_a], by rw [m2.klo, m.klo, max_a], by rw [m2.khi, m.khi, min_a], by rw [m2.qlo, m.qlo, max_a], by rw [m2.qhi, m.qhi, min_a]⟩
theorem right_no {a b d : Sel} (ha : a.ok) (hb : b.ok) (hd : d.ok) (h : ¬ may3 a b d) : right3 a b d = (Sel.zero, false) := by
 by_cases h1 : may b d
 ·obtain ⟨x, e, ox, m⟩ := meet_yes hb hd h1
  rw [right3, e]
  refine meet_no ha ox fun h2 => h ?_
  obtain ⟨g1, g2, g3, g4⟩ := h2
  rw [m.fam' hb hd ox hb hd] at g1
  rw [m.cpr] at g2
  rw [m.klo, m.khi, max_a, min_a] at g3
  rw [m.qlo, m.qhi, max_a, min_a] at g4
  exact ⟨g1, h1.1, (pr3 _ _ _ ha.p0 hb.p0 hd.p0).2 ⟨h1.2.1, g2⟩, g3, g4⟩
 ·rw [right3, meet_no hb hd h1]; rfl
theorem meet_assoc {a b d : Sel} (ha : a.ok) (hb : b.ok) (hd : d.ok) : left3 a b d = right3 a b d := by
 by_cases h : may3 a b d
 ·obtain ⟨u, e, m⟩ := left_yes ha hb hd h
  obtain ⟨u', e', m'⟩ := right_yes ha hb hd h
  rw [e, e', m.eq m']
 ·rw [left_no ha hb hd h, right_no ha hb hd h]
def has (s : Sel) (a : Adr) (pr port : Int) : Bool :=
 if a.fam ≠ s.lo.fam then false else if less a s.lo then false else if less s.hi a then false else if s.pr ≠ 0 ∧ s.pr ≠ pr then false
 else if port = -1 then opq s || alls s else decide (s.pl ≤ port ∧ port ≤ s.ph)
theorem has_iff {s : Sel} {a : Adr} (hs : s.ok) (ha : a.ok) (pr port : Int) :
    has s a pr port = true ↔ a.fam = s.lo.fam ∧ key s.lo ≤ key a ∧ key a ≤ key s.hi ∧ (s.pr = 0 ∨ s.pr = pr) ∧ qlo s ≤ port ∧ port ≤ qhi s := by
 unfold has
 rw [less_key ha hs.lo, less_key hs.hi ha]
 by_cases h1 : a.fam ≠ s.lo.fam
 ·rw [if_pos h1]; simp [h1]
 rw [if_neg h1]
 by_cases h2 : key a < key s.lo
 ·rw [if_pos (by simpa using h2)]; simp; omega
 rw [if_neg (by simpa using h2)]
 by_cases h3 : key s.hi < key a
 ·rw [if_pos (by simpa using h3)]; simp; omega
 rw [if_neg (by simpa using h3)]
 by_cases h4 : s.pr ≠ 0 ∧ s.pr ≠ pr
 ·rw [if_pos h4]; simp; omega
 rw [if_neg h4]
 have g1 : a.fam = s.lo.fam := by omega
 have g2 : key s.lo ≤ key a ∧ key a ≤ key s.hi := by omega
 have g3 : s.pr = 0 ∨ s.pr = pr := by omega
 simp only [g1, g2, g3, true_and]
 clear g1 g2 g3 h1 h2 h3 h4
 by_cases h5 : port = -1
 ·rw [if_pos h5]
  rcases ports_of s hs with q | q | q <;> simp [q, h5] <;> omega
 ·rw [if_neg h5, decide_eq_true_eq]
  rcases ports_of s hs with q | q | q <;> omega
def valid (a : Adr) : Bool := decide (a.fam = 6) || (decide (a.fam = 4) && decide (a.hi = 0) && decide (a.lo < 4294967296))
def chkSel (s : Sel) : Int :=
 if !valid s.lo || !valid s.hi || decide (s.lo.fam ≠ s.hi.fam) then 15
 else if less s.hi s.lo || decide (s.pr < 0) || decide (255 < s.pr) || (!opq s && (decide (s.pl < 0) || decide (65535 < s.ph) || decide (s.ph < s.pl))) then 5
 else 0
structure Sel.good (s : Sel) : Prop where
 toOk : s.ok
 vlo : valid s.lo = true
 vhi : valid s.hi = true
theorem Sel.good.lo {s : Sel} (h : s.good) : s.lo.ok := h.toOk.lo
theorem Sel.good.hi {s : Sel} (h : s.good) : s.hi.ok := h.toOk.hi
theorem Sel.good.fam {s : Sel} (h : s.good) : s.lo.fam = s.hi.fam := h.toOk.fam
theorem Sel.good.le {s : Sel} (h : s.good) : key s.lo ≤ key s.hi := h.toOk.le
theorem Sel.good.p0 {s : Sel} (h : s.good) : 0 ≤ s.pr := h.toOk.p0
theorem Sel.good.p1 {s : Sel} (h : s.good) : s.pr ≤ 255 := h.toOk.p1
theorem amax_valid {a b : Adr} (ha : valid a = true) (hb : valid b = true) : valid (amax a b) = true := by unfold amax; split <;> assumption
theorem amin_valid {a b : Adr} (ha : valid a = true) (hb : valid b = true) : valid (amin a b) = true := by unfold amin; split <;> assumption
theorem chk_good {s : Sel} (h : s.good) : chkSel s = 0 := by
 have h0 := h.vlo; have h1 := h.vhi; have h2 := h.fam; have h3 := h.le; have h4 := h.p0; have h5 := h.p1
 have hl : less s.hi s.lo = false := by rw [less_key h.hi h.lo]; simp; omega
 unfold chkSel
 rw [if_neg (by simp [h0, h1, h2])]
 rw [if_neg]
 rw [hl]
 rcases ports_of s h.toOk with q | q | q
 ·simp [q]; omega
 ·simp [q]; omega
 ·simp [q]; omega
theorem meet_lo_hi {a b c : Sel} (h : meet a b = (c, true)) : c.lo = amax a.lo b.lo ∧ c.hi = amin a.hi b.hi := by
 unfold meet at h
 repeat' split at h
 all_goals simp at h
 all_goals subst h; exact ⟨rfl, rfl⟩
theorem meet_good {a b c : Sel} (ha : a.good) (hb : b.good) (h : meet a b = (c, true)) : c.good ∧ Mt a b c := by
 by_cases hm : may a b
 ·obtain ⟨c', e, oc, m⟩ := meet_yes ha.toOk hb.toOk hm
  rw [e] at h
  simp only [Prod.mk.injEq, and_true] at h
  subst h
  obtain ⟨e1, e2⟩ := meet_lo_hi e
  exact ⟨⟨oc, by rw [e1]; exact amax_valid ha.vlo hb.vlo, by rw [e2]; exact amin_valid ha.vhi hb.vhi⟩, m⟩
 ·rw [meet_no ha.toOk hb.toOk hm] at h
  simp at h
theorem meet_in_left {a b c : Sel} (ha : a.good) (hb : b.good) (h : meet a b = (c, true)) : meet c a = (c, true) := by
 obtain ⟨gc, m⟩ := meet_good ha hb h
 have hp0 := ha.p0; have hp1 := hb.p0
 have h1 := m.pr; have h2 := m.cpr; have h3 := m.klo; have h4 := m.khi; have h5 := m.k; have h6 := m.q; have h7 := m.qlo; have h8 := m.qhi
 have hf := m.fam' ha.toOk hb.toOk gc.toOk ha.toOk hb.toOk
 have hl := gc.le
 obtain ⟨d, e, od, n⟩ := meet_yes gc.toOk ha.toOk ⟨hf, by omega, by omega, by omega⟩
 rw [e, sel_inj od gc.toOk (by rw [n.cpr]; omega) (by rw [n.klo]; omega) (by rw [n.khi]; omega) (by rw [n.qlo]; omega) (by rw [n.qhi]; omega)]
theorem meet_in_right {a b c : Sel} (ha : a.good) (hb : b.good) (h : meet a b = (c, true)) : meet c b = (c, true) :=
 meet_in_left hb ha (by rw [meet_comm hb.toOk ha.toOk]; exact h)
theorem has_meet {a b : Sel} (ha : a.good) (hb : b.good) {u : Adr} (hu : u.ok) (pr port : Int) :
    (has a u pr port && has b u pr port) = ((meet a b).2 && has (meet a b).1 u pr port) := by
 rw [Bool.eq_iff_iff, Bool.and_eq_true, Bool.and_eq_true, has_iff ha.toOk hu, has_iff hb.toOk hu]
 by_cases hm : may a b
 ·obtain ⟨c, e, oc, m⟩ := meet_yes ha.toOk hb.toOk hm
  have hp0 := ha.p0; have hp1 := hb.p0
  have h1 := m.pr; have h2 := m.cpr; have h3 := m.klo; have h4 := m.khi; have h7 := m.qlo; have h8 := m.qhi; have h9 := m.fam
  have hf := m.fam' ha.toOk hb.toOk oc ha.toOk hb.toOk
  rw [e, has_iff oc hu, h3, h4, h7, h8, hf]
  clear h3 h4 h7 h8 m e oc hm hf
  constructor
  ·rintro ⟨⟨a1, a2, a3, a4, a5, a6⟩, ⟨b1, b2, b3, b4, b5, b6⟩⟩
   exact ⟨rfl, a1, by omega, by omega, by omega, by omega, by omega⟩
  ·rintro ⟨_, a1, a2, a3, a4, a5, a6⟩
   exact ⟨⟨a1, by omega, by omega, by omega, by omega, by omega⟩, ⟨by omega, by omega, by omega, by omega, by omega, by omega⟩⟩
 ·rw [meet_no ha.toOk hb.toOk hm]
  constructor
  ·rintro ⟨⟨a1, a2, a3, a4, a5, a6⟩, ⟨b1, b2, b3, b4, b5, b6⟩⟩
   exact (hm ⟨by omega, by omega, by omega, by omega⟩).elim
  ·rintro ⟨h, _⟩
   cases h
def inside (a b : Sel) : Prop := meet a b = (a, true)
theorem has_inside {a b : Sel} (ha : a.good) (hb : b.good) (h : inside a b) {u : Adr} (hu : u.ok) (pr port : Int) (hp : has a u pr port = true) : has b u pr port = true := by
 have := has_meet ha hb hu pr port
 rw [h, hp] at this
 simp only [Bool.true_and] at this
 exact this
end Go.Proofs.Ytkeefgiajogkkaa
