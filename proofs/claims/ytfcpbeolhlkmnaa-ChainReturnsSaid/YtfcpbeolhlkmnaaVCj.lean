/- Chains that were written are read again (plain law). -/
import Derived.Test.YtfcpbeolhlkmnaaVCi
import Derived.Test.YtfcpbeolhlkmnaaVRb
set_option linter.unusedVariables false
set_option linter.unusedSimpArgs false
namespace Go.Proofs.Ytfcpbeolhlkmnaa.V
open Go.RowKit
set_option maxHeartbeats 8000000
set_option maxRecDepth 100000
def okL : List RawT → Int → Prop
  | [], ins => ins = 0
  | r :: l, ins => (1 ≤ r.1 ∧ r.1 ≤ 255 ∧ r.2.2.1.length ≤ 65531) ∧ ((lastF r.1 = true ∧ l = []) ∨ (lastF r.1 = false ∧ okL l ins))
theorem okL_chk : ∀ {l : List RawT} {ins : Int}, okL l ins → chkL l = 0
  | [], _, _ => rfl
  | r :: l, ins, h => by
    obtain ⟨⟨h1, h2, h3⟩, h4⟩ := h
    unfold chkL
    rw [if_neg (by omega), if_neg (by omega)]
    rcases h4 with ⟨h5, h6⟩ | ⟨h5, h6⟩
    · rw [if_neg (fun h => h.2 h6), h6]; rfl
    · rw [if_neg (fun h => by rw [h5] at h; cases h.1)]
      exact okL_chk h6
theorem okL_end : ∀ {l : List RawT} {ins : Int}, okL l ins → ins ≠ 0 → l.length ≠ 0 ∧ lastF (l.getD (l.length - 1) raw0).1 = true
  | [], _, h, h1 => absurd h h1
  | r :: l, ins, h, h1 => by
    refine ⟨by simp, ?_⟩
    rcases h.2 with ⟨h5, h6⟩ | ⟨h5, h6⟩
    · rw [h6]; exact h5
    · obtain ⟨g1, g2⟩ := okL_end h6 h1
      rw [List.length_cons, Nat.add_sub_cancel]
      have e : l.length = (l.length - 1) + 1 := by omega
      rw [e, List.getD_cons_succ]
      exact g2
theorem okL_check {l : List RawT} {ins : Int} (h : okL l ins) (h0 : 0 ≤ ins) (h1 : ins ≤ 255) (hl : l.length ≤ 40) : checkF l ins = 0 := by
  unfold checkF
  rw [if_neg (by omega), if_neg (by rw [okL_chk h]; simp), if_neg (by omega), if_neg]
  rintro ⟨h2, h3⟩
  obtain ⟨g1, g2⟩ := okL_end h h2
  rcases h3 with h3 | h3
  · exact g1 h3
  · rw [g2] at h3; cases h3
theorem okL_app : ∀ {m t : List RawT} {ins : Int}, (∀ r ∈ m, MidG r) → okL t ins → okL (m ++ t) ins
  | [], t, ins, _, h => h
  | r :: m, t, ins, hm, h => by
    have hr := hm r List.mem_cons_self
    exact ⟨⟨hr.k0, hr.k1, Nat.le_trans hr.b (by omega)⟩, .inr ⟨hr.ll, okL_app (fun s hs => hm s (List.mem_cons_of_mem _ hs)) h⟩⟩
theorem DrG.ok {l : List RawT} {last : Int} (h : DrG l last) : okL l last ∧ 0 ≤ last ∧ last ≤ 255 ∧ l.length ≤ 5 := by
  obtain ⟨m, t, rfl, h1, h2, h3⟩ := h.parts
  refine ⟨okL_app h1 ?_, ?_, ?_, h.len⟩
  · rcases h3 with ⟨rfl, rfl⟩ | ⟨r, rfl, h4, h5, h6, h7⟩
    · rfl
    · refine ⟨⟨by omega, by omega, by omega⟩, .inl ⟨?_, rfl⟩⟩
      rcases h4 with h4 | h4 <;> (rw [h4]; rfl)
  · rcases h3 with ⟨rfl, rfl⟩ | ⟨r, rfl, h4, h5, h6, h7⟩ <;> omega
  · rcases h3 with ⟨rfl, rfl⟩ | ⟨r, rfl, h4, h5, h6, h7⟩ <;> omega
theorem okL_build {l : List RawT} {ins : Int} (h : okL l ins) (h0 : 0 ≤ ins) (h1 : ins ≤ 255) (hl : l.length ≤ 40) : chainF l ins = (headF l, outB l ins, 0) := by
  unfold chainF
  rw [if_neg (by rw [okL_check h h0 h1 hl]; simp)]
/-! One payload. -/
def oneM (r : RawT) (nx : Int) (m : UInt8) : List UInt8 := toB (IntKind.u8.wrap nx) :: m :: (putF (IntKind.u64.wrap ((r.2.2.1.length : Int) + 4)) 2 ++ r.2.2.1)
theorem oneB_M (r : RawT) (nx : Int) : oneB r nx = oneM r nx (if r.2.1 then 128 else 0) := rfl
theorem crit_m (b : Bool) : critF (if b then 128 else 0) = b := by cases b <;> decide
theorem stp_gen (k nx : Int) (m : UInt8) (L : Nat) (Y : List UInt8) (h0 : 0 ≤ nx) (h1 : nx ≤ 255) (hL : L ≤ 65531) :
    stpF k (toB (IntKind.u8.wrap nx) :: m :: (putF (IntKind.u64.wrap ((L : Int) + 4)) 2 ++ Y)) = if Y.length < L then (raw0, 0, [], 2, ()) else ((k, critF m, Y.take L, ()), nx, Y.drop L, 0, ()) := by
  have e0 : putF (IntKind.u64.wrap ((L : Int) + 4)) 2 = putB ((L + 4 : Nat) : Int) 2 := by
    rw [show ((L : Int) + 4) = ((L + 4 : Nat) : Int) by omega, wrap_nat _ (by omega)]
    exact putF_nat (L + 4) 2 (by omega)
  rw [e0]
  have hn := numF_at [toB (IntKind.u8.wrap nx), m] Y (L + 4) 2 2 rfl (by omega) (by omega)
  generalize hX : toB (IntKind.u8.wrap nx) :: m :: (putB ((L + 4 : Nat) : Int) 2 ++ Y) = X
  have hX2 : [toB (IntKind.u8.wrap nx), m] ++ (putB ((L + 4 : Nat) : Int) 2 ++ Y) = X := hX
  rw [hX2] at hn
  have hlen : X.length = 4 + Y.length := by rw [← hX]; simp only [List.length_cons, List.length_append, putB_length]; omega
  have hd : X.drop 4 = Y := by
    rw [← hX2, ← List.append_assoc]
    exact List.drop_left' (by simp [putB_length])
  have g0 : X.getD 0 0 = toB (IntKind.u8.wrap nx) := by rw [← hX]; rfl
  have g1 : X.getD 1 0 = m := by rw [← hX]; rfl
  unfold stpF lenW
  have hn' : (numF X 2 2).1 = ((L + 4 : Nat) : Int) := by
    have := congrArg Prod.fst hn
    exact this
  rw [hn', if_neg (by omega)]
  by_cases hy : Y.length < L
  · rw [if_pos (by omega), if_pos hy]
  · rw [if_neg (by omega), if_neg hy, g0, g1, List.drop_take, show ((L + 4 : Nat) : Int).toNat - 4 = L by omega, hd, show ((L + 4 : Nat) : Int).toNat = 4 + L by omega, ← List.drop_drop, hd]
    have hw : IntKind.u8.wrap nx = nx := by rw [IntKind.wrap_u8]; omega
    have ht : ((toB (IntKind.u8.wrap nx)).toNat : Int) = nx := by
      have := toB_toNat (n := IntKind.u8.wrap nx) (by rw [hw]; omega) (by rw [hw]; omega)
      rw [hw] at this ⊢
      omega
    rw [ht]
theorem stp_one {r : RawT} {nx : Int} {m : UInt8} {rest : List UInt8} (h0 : 0 ≤ nx) (h1 : nx ≤ 255) (hb : r.2.2.1.length ≤ 65531) (hm : critF m = r.2.1) :
    (r, nx, rest, (0 : Int), ()) = stpF r.1 (oneM r nx m ++ rest) := by
  have := stp_gen r.1 nx m r.2.2.1.length (r.2.2.1 ++ rest) h0 h1 hb
  rw [if_neg (by simp)] at this
  unfold oneM
  rw [List.cons_append, List.cons_append, List.append_assoc, this, List.take_left' rfl, List.drop_left' rfl, hm]
theorem hdK_r {l : List RawT} {ins : Int} (h : okL l ins) (h0 : 0 ≤ ins) (h1 : ins ≤ 255) : 0 ≤ hdK l ins ∧ hdK l ins ≤ 255 := by
  cases l with
  | nil => exact ⟨h0, h1⟩
  | cons r l => obtain ⟨⟨g1, g2, _⟩, _⟩ := h; exact ⟨by show 0 ≤ r.1; omega, g2⟩
theorem hdK_e {l : List RawT} {ins : Int} (h : okL l ins) : hdK l ins = headF l := by
  cases l with
  | nil => exact h
  | cons r l => rfl
theorem par_M : ∀ (l : List RawT) (ins : Int) (n : Nat), okL l ins → 0 ≤ ins → ins ≤ 255 → l.length ≤ n → ∀ (r : RawT) (m : UInt8), (1 ≤ r.1 ∧ r.2.2.1.length ≤ 65531) → critF m = r.2.1 → lastF r.1 = false →
    parL n (headF l) (outB l ins) = (l, ins, 0) → parL (n + 1) r.1 (oneM r (hdK l ins) m ++ outB l ins) = (r :: l, ins, 0) := by
  intro l ins n h h0 h1 hl r m hr hm hla ih
  obtain ⟨k0, k1⟩ := hdK_r h h0 h1
  rw [parL_s (stp_one (rest := outB l ins) k0 k1 hr.2 hm) (by omega), if_neg (fun h => h rfl), if_neg (by simp [hla])]
  show preL [r] (parL n (hdK l ins) (outB l ins)) = _
  rw [hdK_e h, ih]
  rfl
theorem par_L {r : RawT} {ins : Int} {n : Nat} {m : UInt8} {x : List UInt8} (h0 : 0 ≤ ins) (h1 : ins ≤ 255) (hr : 1 ≤ r.1 ∧ r.2.2.1.length ≤ 65531) (hm : critF m = r.2.1) (hla : lastF r.1 = true) :
    parL (n + 1) r.1 (oneM r ins m ++ x) = if x.length = 0 then ([r], ins, 0) else ([], 0, 2) := by
  rw [parL_s (stp_one (rest := x) h0 h1 hr.2 hm) (by omega), if_neg (fun h => h rfl), if_pos hla]
theorem par_out : ∀ (l : List RawT) (ins : Int) (n : Nat), okL l ins → 0 ≤ ins → ins ≤ 255 → l.length ≤ n → parL n (headF l) (outB l ins) = (l, ins, 0)
  | [], ins, n, h, _, _, _ => by
    show parL n 0 [] = _
    rw [parL_k, show ins = 0 from h]; rfl
  | r :: l, ins, 0, _, _, _, hl => by simp at hl
  | r :: l, ins, n + 1, h, h0, h1, hl => by
    obtain ⟨⟨g1, g2, g3⟩, h4⟩ := h
    rcases h4 with ⟨h5, h6⟩ | ⟨h5, h6⟩
    · subst h6
      have := par_L (n := n) (m := if r.2.1 then 128 else 0) (x := []) h0 h1 ⟨g1, g3⟩ (crit_m _) h5
      exact this
    · have hl2 : l.length ≤ n := by simpa using hl
      exact par_M l ins n h6 h0 h1 hl2 r _ ⟨g1, g3⟩ (crit_m _) h5 (par_out l ins n h6 h0 h1 hl2)
theorem par_bit {r : RawT} {l : List RawT} {ins : Int} {n : Nat} {m : UInt8} (h : okL (r :: l) ins) (h0 : 0 ≤ ins) (h1 : ins ≤ 255) (hl : l.length ≤ n) (hm : critF m = r.2.1) :
    parL (n + 1) r.1 (oneM r (hdK l ins) m ++ outB l ins) = (r :: l, ins, 0) := by
  obtain ⟨⟨g1, g2, g3⟩, h4⟩ := h
  rcases h4 with ⟨h5, h6⟩ | ⟨h5, h6⟩
  · subst h6
    exact par_L (n := n) (m := m) (x := []) h0 h1 ⟨g1, g3⟩ hm h5
  · exact par_M l ins n h6 h0 h1 hl r _ ⟨g1, g3⟩ hm h5 (par_out l ins n h6 h0 h1 hl)
theorem par_cut : ∀ (l : List RawT) (ins : Int) (n c : Nat), okL l ins → 0 ≤ ins → ins ≤ 255 → l.length ≤ n → c < (outB l ins).length →
    (parL n (headF l) ((outB l ins).take c)).2.2 = 1 ∨ (parL n (headF l) ((outB l ins).take c)).2.2 = 2
  | [], ins, n, c, _, _, _, _, hc => by simp [outB] at hc
  | r :: l, ins, 0, _, _, _, _, hl, _ => by simp at hl
  | r :: l, ins, n + 1, c, h, h0, h1, hl, hc => by
    obtain ⟨⟨g1, g2, g3⟩, h4⟩ := h
    have hl2 : l.length ≤ n := by simpa using hl
    have hlen : (outB (r :: l) ins).length = 4 + r.2.2.1.length + (outB l ins).length := by rw [outB, List.length_append, oneB_length]
    show (parL (n + 1) r.1 ((oneB r (hdK l ins) ++ outB l ins).take c)).2.2 = 1 ∨ (parL (n + 1) r.1 ((oneB r (hdK l ins) ++ outB l ins).take c)).2.2 = 2
    have hcl : ((oneB r (hdK l ins) ++ outB l ins).take c).length = c := by
      rw [List.length_take]
      have : (oneB r (hdK l ins) ++ outB l ins).length = (outB (r :: l) ins).length := rfl
      omega
    by_cases c4 : c < 4
    · left
      rw [parL_s (stp_1 (k := r.1) (by rw [hcl]; omega)) (by omega)]
      rfl
    obtain ⟨Z, hZ⟩ : ∃ Z, oneB r (hdK l ins) ++ outB l ins = [toB (IntKind.u8.wrap (hdK l ins)), if r.2.1 then 128 else 0] ++ putF (IntKind.u64.wrap ((r.2.2.1.length : Int) + 4)) 2 ++ Z ∧ Z = r.2.2.1 ++ outB l ins := ⟨_, by rw [oneB]; simp only [List.append_assoc, List.cons_append, List.nil_append], rfl⟩
    have hp := putF_len (IntKind.u64.wrap ((r.2.2.1.length : Int) + 4)) 2 (by omega)
    have e : (oneB r (hdK l ins) ++ outB l ins).take c = toB (IntKind.u8.wrap (hdK l ins)) :: (if r.2.1 then 128 else 0) :: (putF (IntKind.u64.wrap ((r.2.2.1.length : Int) + 4)) 2 ++ Z.take (c - 4)) := by
      rw [hZ.1, List.take_append, List.take_of_length_le (by simp only [List.length_append, List.length_cons, List.length_nil]; omega)]
      simp only [List.length_append, List.length_cons, List.length_nil, List.append_assoc, List.cons_append, List.nil_append]
      rw [show (putF (IntKind.u64.wrap ((r.2.2.1.length : Int) + 4)) 2).length + 1 + 1 = 4 by omega]
    have hr : 0 ≤ hdK l ins ∧ hdK l ins ≤ 255 := by
      rcases h4 with ⟨h5, h6⟩ | ⟨h5, h6⟩
      · rw [h6]; exact ⟨h0, h1⟩
      · exact hdK_r h6 h0 h1
    have hs := stp_gen r.1 (hdK l ins) (if r.2.1 then 128 else 0) r.2.2.1.length (Z.take (c - 4)) hr.1 hr.2 g3
    rw [← e] at hs
    have hZl : Z.length = r.2.2.1.length + (outB l ins).length := by rw [hZ.2, List.length_append]
    by_cases cL : c - 4 < r.2.2.1.length
    · right
      rw [if_pos (by rw [List.length_take]; omega)] at hs
      rw [parL_s hs.symm (by omega)]
      rfl
    · rw [if_neg (by rw [List.length_take]; omega)] at hs
      rw [parL_s hs.symm (by omega), if_neg (fun h => h rfl)]
      rcases h4 with ⟨h5, h6⟩ | ⟨h5, h6⟩
      · subst h6
        rw [show (outB [] ins).length = 0 from rfl] at hlen
        omega
      · rw [if_neg (by simp [h5])]
        have hdz : (Z.take (c - 4)).drop r.2.2.1.length = (outB l ins).take (c - 4 - r.2.2.1.length) := by
          rw [List.drop_take, hZ.2, List.drop_left' rfl]
        show (preL _ (parL n (hdK l ins) ((Z.take (c - 4)).drop r.2.2.1.length))).2.2 = 1 ∨ (preL _ (parL n (hdK l ins) ((Z.take (c - 4)).drop r.2.2.1.length))).2.2 = 2
        rw [hdz, hdK_e h6]
        have ih := par_cut l ins n (c - 4 - r.2.2.1.length) h6 h0 h1 hl2 (by omega)
        have hne : (parL n (headF l) ((outB l ins).take (c - 4 - r.2.2.1.length))).2.2 ≠ 0 := by omega
        rw [pre_e hne]
        exact ih
theorem headF_r {l : List RawT} {ins : Int} (h : okL l ins) : 0 ≤ headF l ∧ headF l ≤ 255 := by
  cases l with
  | nil => exact ⟨by decide, by decide⟩
  | cons r l => obtain ⟨⟨g1, g2, _⟩, _⟩ := h; exact ⟨by show 0 ≤ r.1; omega, g2⟩
theorem parF_in {k : Int} (h : 0 ≤ k ∧ k ≤ 255) (b : List UInt8) : parF k b = parL 40 k b := by
  unfold parF; rw [if_neg (by omega)]
theorem dr_build {a e : Int} {b : List UInt8} {l : List RawT} {last : Int} {P Q : Prop} (hd : DrG l last ∧ P) (h : (a, b, e) = chainF l last ∧ Q) : a = headF l ∧ b = outB l last ∧ e = 0 := by
  obtain ⟨d1, d2, d3, d4⟩ := hd.1.ok
  have := h.1
  rw [okL_build d1 d2 d3 (by omega)] at this
  simpa only [Prod.mk.injEq] using this
theorem dr_parse {a e n f : Int} {b : List UInt8} {l p : List RawT} {last : Int} {P Q R : Prop} (hd : DrG l last ∧ P) (h : (a, b, e) = chainF l last ∧ Q) (h2 : (p, n, f) = parF a b ∧ R) : p = l ∧ n = last ∧ f = 0 := by
  obtain ⟨d1, d2, d3, d4⟩ := hd.1.ok
  obtain ⟨rfl, rfl, rfl⟩ := dr_build hd h
  have := h2.1
  rw [parF_in (headF_r d1), par_out l last 40 d1 d2 d3 (by omega)] at this
  simpa only [Prod.mk.injEq] using this
theorem tm_bd {c : Int} {L : Nat} (hc : 0 ≤ c ∧ c ≤ 255) (hL : ¬ (L : Int) = 0) : 0 ≤ (W64 c).tmod (L : Int) ∧ (W64 c).tmod (L : Int) < (L : Int) := by
  rw [w64 (by omega) (by omega)]
  exact ⟨Int.tmod_nonneg _ (by omega), Int.tmod_lt_of_pos _ (by omega)⟩
theorem dr_cut {a e n f c : Int} {b : List UInt8} {l p : List RawT} {last : Int} {P Q R : Prop} (hd : DrG l last ∧ P) (h : (a, b, e) = chainF l last ∧ Q) (hc : 0 ≤ c ∧ c ≤ 255) (hL : ¬ (b.length : Int) = 0)
    (h2 : (p, n, f) = parF a (List.take (((W64 c).tmod (b.length : Int)).toNat - Int.toNat 0) (List.drop (Int.toNat 0) b)) ∧ R) (h1 : ¬ f = 1) : f = 2 := by
  obtain ⟨d1, d2, d3, d4⟩ := hd.1.ok
  have ht := tm_bd hc hL
  obtain ⟨rfl, rfl, rfl⟩ := dr_build hd h
  have h3 := h2.1
  rw [parF_in (headF_r d1), show Int.toNat 0 = 0 from rfl, List.drop_zero, Nat.sub_zero] at h3
  have h4 := par_cut l last 40 ((W64 c).tmod ((outB l last).length : Int)).toNat d1 d2 d3 (by omega) (by omega)
  rw [← h3] at h4
  rcases h4 with h4 | h4
  · exact absurd h4 h1
  · exact h4
theorem cs_ok {v first w : Int} {body : List UInt8} (hv : 0 ≤ v ∧ v < 2) (hw : 0 ≤ w ∧ w < 20) (hb : (body.length : Int) = max 0 w) : okL [(43, false, [], ()), (selI [46, 53] v, false, body, ())] first := by
  have hk := kind2 hv.1 hv.2
  refine ⟨⟨by decide, by decide, by decide⟩, .inr ⟨rfl, ⟨⟨?_, ?_, ?_⟩, .inl ⟨?_, rfl⟩⟩⟩⟩
  · show 1 ≤ selI [46, 53] v; omega
  · show selI [46, 53] v ≤ 255; omega
  · show body.length ≤ 65531; omega
  · show lastF (selI [46, 53] v) = true
    rcases hk with hk | hk <;> (rw [hk]; rfl)
theorem cs_build {v first w k e : Int} {body b : List UInt8} {P0 P1 P2 P3 : Prop} (hf : 0 ≤ first ∧ first ≤ 255) (hw : (0 ≤ w ∧ w < 20) ∧ P0) (hb : (body.length : Int) = max 0 w ∧ P1) (hv : (0 ≤ v ∧ v < 2) ∧ P2)
    (h1 : (k, b, e) = chainF [(43, false, [], PUnit.unit), (selI [46, 53] v, false, body, PUnit.unit)] (W64 first) ∧ P3) : k = 43 ∧ b = outB [(43, false, [], ()), (selI [46, 53] v, false, body, ())] first ∧ e = 0 := by
  have h := h1.1
  rw [w64 (by omega) (by omega)] at h
  rw [show chainF [(43, false, [], PUnit.unit), (selI [46, 53] v, false, body, PUnit.unit)] first = _ from okL_build (cs_ok hv.1 hw.1 hb.1) hf.1 hf.2 (by simp)] at h
  simp only [Prod.mk.injEq] at h
  exact h
theorem cs_parse {v first w k e n f : Int} {body b : List UInt8} {l : List RawT} {P0 P1 P2 P3 P4 : Prop} (hf : 0 ≤ first ∧ first ≤ 255) (hw : (0 ≤ w ∧ w < 20) ∧ P0) (hb : (body.length : Int) = max 0 w ∧ P1) (hv : (0 ≤ v ∧ v < 2) ∧ P2)
    (h1 : (k, b, e) = chainF [(43, false, [], PUnit.unit), (selI [46, 53] v, false, body, PUnit.unit)] (W64 first) ∧ P3) (h2 : (l, n, f) = parF k b ∧ P4) : l = [(43, false, [], ()), (selI [46, 53] v, false, body, ())] ∧ n = W64 first ∧ f = 0 := by
  obtain ⟨rfl, rfl, rfl⟩ := cs_build hf hw hb hv h1
  have h := h2.1
  rw [parF_in (by decide), show parL 40 43 _ = _ from par_out _ first 40 (cs_ok hv.1 hw.1 hb.1) hf.1 hf.2 (by simp)] at h
  rw [w64 (by omega) (by omega)]
  simpa only [Prod.mk.injEq] using h
theorem cs_more {v first w k e n f : Int} {body b : List UInt8} {l : List RawT} {x : UInt8} {P0 P1 P2 P3 P4 : Prop} (hf : 0 ≤ first ∧ first ≤ 255) (hw : (0 ≤ w ∧ w < 20) ∧ P0) (hb : (body.length : Int) = max 0 w ∧ P1) (hv : (0 ≤ v ∧ v < 2) ∧ P2)
    (h1 : (k, b, e) = chainF [(43, false, [], PUnit.unit), (selI [46, 53] v, false, body, PUnit.unit)] (W64 first) ∧ P3) (h2 : (l, n, f) = parF k ([] ++ b ++ [x]) ∧ P4) : f = 2 := by
  obtain ⟨rfl, rfl, rfl⟩ := cs_build hf hw hb hv h1
  have hok := cs_ok (first := first) hv.1 hw.1 hb.1
  obtain ⟨⟨a1, a2, a3⟩, a4⟩ := hok
  rcases a4 with ⟨a4, _⟩ | ⟨_, ⟨⟨b1, b2, b3⟩, b4⟩⟩
  · cases a4
  rcases b4 with ⟨b4, _⟩ | ⟨b4, b5⟩
  · have h := h2.1
    have e1 : [] ++ outB [(43, false, [], ()), (selI [46, 53] v, false, body, ())] first ++ [x] = oneM (43, false, [], ()) (selI [46, 53] v) 0 ++ (oneM (selI [46, 53] v, false, body, ()) first 0 ++ [x]) := by
      simp only [outB, List.nil_append, List.append_assoc, oneB_M, hdK, if_false, Bool.false_eq_true]
    rw [e1, parF_in (by decide), show parL 40 43 _ = _ from parL_s (n := 39) (stp_one (r := (43, false, [], ())) (by omega) b2 (by decide) (by decide)) (by decide), if_neg (fun h => h rfl), if_neg (by decide)] at h
    rw [show parL 39 _ _ = _ from par_L (n := 38) (r := (selI [46, 53] v, false, body, ())) (x := [x]) hf.1 hf.2 ⟨b1, b3⟩ (show critF 0 = false by decide) b4] at h
    have h' := congrArg (fun t => t.2.2) h
    exact h'
  · have hk := kind2 hv.1.1 hv.1.2
    rcases hk with hk | hk <;> (rw [hk] at b4; cases b4)
theorem u8_inC {v : Int} (h : IntKind.u8.has v) : 0 ≤ v ∧ v ≤ 255 := by
  have h : IntKind.u8.min ≤ v ∧ v ≤ IntKind.u8.max := h
  rw [show IntKind.u8.min = 0 by decide, show IntKind.u8.max = 255 by decide] at h
  exact h
end Go.Proofs.Ytfcpbeolhlkmnaa.V
