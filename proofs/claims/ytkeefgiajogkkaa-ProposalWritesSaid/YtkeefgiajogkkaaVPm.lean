/- Proposals that were written are read again; cut short, or with more behind them, they are none (pure). -/
import Derived.Test.YtkeefgiajogkkaaVPs
import Derived.Test.YtkeefgiajogkkaaVPb
import Derived.Test.YtkeefgiajogkkaaVPw
import Derived.Test.YtkeefgiajogkkaaVRb
set_option linter.unusedVariables false
set_option linter.unusedSimpArgs false
namespace Go.Proofs.Ytkeefgiajogkkaa.V
open Go.RowKit
set_option maxHeartbeats 8000000
set_option maxRecDepth 100000
theorem byte_at {d : List UInt8} {k : Nat} {m : Int} (h : d[k]? = some (toB m)) (h0 : 0 ≤ m) (h1 : m < 256) : (numF d k 1).1 = m := by
 have hk : k < d.length := (List.getElem?_eq_some_iff.1 h).1
 rw [num1_at d k hk, List.getD_eq_getElem?_getD, h, Option.getD_some, toB_toNat h0 h1]
theorem wrap8 {m : Int} (h0 : 0 ≤ m) (h1 : m < 256) : IntKind.u8.wrap m = m := by rw [IntKind.wrap_u8]; omega
theorem wrap64 {m : Int} (h0 : 0 ≤ m) (h1 : m < 18446744073709551616) : IntKind.u64.wrap m = m := by rw [IntKind.wrap_u64]; omega
theorem put_2 {v : Int} (h0 : 0 ≤ v) (h1 : v < 65536) : putF (IntKind.u64.wrap v) 2 = putB v.toNat 2 := by
 rw [wrap64 h0 (by omega)]
 have := putF_nat v.toNat 2 (by omega)
 rw [← this]
 congr 1
 omega
theorem two_at {a r : List UInt8} {v : Int} (k : Nat) (hk : a.length = k) (h0 : 0 ≤ v) (h1 : v < 65536) : (numF (a ++ (putF (IntKind.u64.wrap v) 2 ++ r)) k 2).1 = v := by
 rw [put_2 h0 h1]
 have := numF_at a r v.toNat 2 k hk (by omega) (by show v.toNat < 65536; omega)
 have e := congrArg (·.1) this
 simp only [Int.cast_ofNat_Int] at e
 rw [e]
 omega
theorem part_eq (m : Int) (body rest : List UInt8) : partB m body ++ rest = [toB m, toB 0] ++ (putF (IntKind.u64.wrap ((body.length : Int) + 4)) 2 ++ (body ++ rest)) := by
 unfold partB
 simp only [List.append_assoc]
theorem part_n {m : Int} {body rest : List UInt8} (h : body.length + 4 < 65536) : (numF (partB m body ++ rest) 2 2).1 = (body.length : Int) + 4 := by
 rw [part_eq]
 exact two_at 2 rfl (by omega) (by omega)
theorem part_m {m : Int} {body rest : List UInt8} (h0 : 0 ≤ m) (h1 : m < 256) : (numF (partB m body ++ rest) 0 1).1 = m := by
 refine byte_at (k := 0) ?_ h0 h1
 rw [part_eq]
 rfl
theorem part_d4 (m : Int) (body rest : List UInt8) : (partB m body ++ rest).drop 4 = body ++ rest := by
 rw [part_eq, ← List.append_assoc [toB m, toB 0]]
 exact List.drop_left' (by simp [putF_len2])
theorem part_i {m : Int} {body rest : List UInt8} (h : body.length + 4 < 65536) : prI (partB m body ++ rest) = body := by
 have hn := part_n (m := m) (rest := rest) h
 rw [prI_eq (by omega) (by rw [hn, List.length_append, partB_len]; omega), hn, part_d4]
 exact List.take_left' (by omega)
theorem part_r {m : Int} {body rest : List UInt8} (h : body.length + 4 < 65536) : (partB m body ++ rest).drop (numF (partB m body ++ rest) 2 2).1.toNat = rest := by
 rw [part_n h]
 exact List.drop_left' (by rw [partB_len]; omega)
structure TrV (t : TrT) : Prop where
 ok : ¬ badT t
theorem trb_c {t : TrT} (h : ¬ badT t) : ((trB t).length = 4 ∨ ((trB t).length = 8 ∧ (numF (trB t) 4 2).1 = 32782 ∧ ¬ (numF (trB t) 6 2).1 = 0)) ∧ ((numF (trB t) 0 1).1, (numF (trB t) 2 2).1, if (trB t).length = 4 then 0 else (numF (trB t) 6 2).1, ()) = t := by
 obtain ⟨ty, id, key, ⟨⟩⟩ := t
 unfold badT at h
 simp only at h
 have hl := trB_len (ty, id, key, ())
 have e1 : (numF (trB (ty, id, key, ())) 0 1).1 = ty := by
  refine byte_at (k := 0) ?_ (by omega) (by omega)
  unfold trB
  simp only
  rw [wrap8 (by omega) (by omega)]
  rfl
 have e2 : (numF (trB (ty, id, key, ())) 2 2).1 = id := by
  unfold trB
  rw [List.append_assoc]
  exact two_at 2 rfl (by show 0 ≤ id; omega) (by show id < 65536; omega)
 by_cases hk : key = 0
 ·subst hk
  simp only [if_true] at hl
  refine ⟨.inl hl, ?_⟩
  rw [if_pos hl, e1, e2]
 ·simp only [if_neg hk] at hl
  have e3 : (numF (trB (ty, id, key, ())) 4 2).1 = 32782 := by
   unfold trB
   rw [if_neg hk]
   exact two_at (v := 32782) 4 (by simp [putF_len2]) (by omega) (by omega)
  have e4 : (numF (trB (ty, id, key, ())) 6 2).1 = key := by
   unfold trB
   rw [if_neg hk, ← List.append_assoc, ← List.append_nil (putF (IntKind.u64.wrap _) 2)]
   refine two_at 6 (by simp [putF_len2]) (by show 0 ≤ key; omega) (by show key < 65536; omega)
  refine ⟨.inr ⟨hl, e3, by rw [e4]; exact hk⟩, ?_⟩
  rw [if_neg (by rw [hl]; omega), e1, e2, e4]
theorem trB_le (t : TrT) : (trB t).length ≤ 8 ∧ 4 ≤ (trB t).length := by
 rw [trB_len]
 split <;> omega
theorem tr_part {t : TrT} {m : Int} {rest : List UInt8} (h : ¬ badT t) (hm : m = 0 ∨ m = 3) : TrC (partB m (trB t) ++ rest) ∧ trV (partB m (trB t) ++ rest) = t ∧ trR (partB m (trB t) ++ rest) = rest ∧ trM (partB m (trB t) ++ rest) = decide (¬ m = 0) := by
 have hl := trB_le t
 have h1 : (trB t).length + 4 < 65536 := by omega
 obtain ⟨c1, c2⟩ := trb_c h
 have hi := part_i (m := m) (rest := rest) h1
 have hn := part_n (m := m) (rest := rest) h1
 have hM := part_m (m := m) (body := trB t) (rest := rest) (by omega) (by omega)
 have hL : (partB m (trB t) ++ rest).length = (trB t).length + 4 + rest.length := by rw [List.length_append, partB_len]
 refine ⟨⟨by omega, by rw [hM]; exact hm, by omega, by omega, by rw [hi]; exact c1⟩, ?_, ?_, ?_⟩
 ·unfold trV
  rw [hi]
  exact c2
 ·unfold trR
  exact part_r h1
 ·unfold trM
  rw [hM]
theorem trs_back : ∀ {l : List TrT}, (∀ t ∈ l, ¬ badT t) → trsP l.length (trsB l) = some l
 | [], _ => rfl
 | t :: l, h => by
   have ht := tr_part (m := if l.length = 0 then 0 else 3) (rest := trsB l) (h t List.mem_cons_self) (by split <;> omega)
   obtain ⟨h1, h2, h3, h4⟩ := ht
   have h5 : trM (partB (if l.length = 0 then 0 else 3) (trB t) ++ trsB l) = decide (0 < l.length) := by
    rw [h4, decide_eq_decide]
    split <;> omega
   rw [List.length_cons, trsP, trsB, if_pos ⟨h1, h5⟩, h3, trs_back fun x hx => h x (List.mem_cons_of_mem _ hx), Option.map_some, h2]
structure PrOk (p : PrT) : Prop where
 num : 0 ≤ p.1 ∧ p.1 < 256
 pro : 0 ≤ p.2.1 ∧ p.2.1 < 256
 spi : p.2.2.1.length ≤ 8
 cnt : p.2.2.2.1.length ≤ 24
 ok : ∀ t ∈ p.2.2.2.1, ¬ badT t
theorem prB_le {p : PrT} (h : PrOk p) : (prB p).length ≤ 300 ∧ 4 + p.2.2.1.length ≤ (prB p).length := by
 have h1 := trsB_len p.2.2.2.1
 have h2 := h.spi
 have h3 := h.cnt
 unfold prB hdB
 simp only [List.length_append, List.length_cons, List.length_nil]
 omega
theorem prb_n {p : PrT} (h : PrOk p) : (numF (prB p) 0 1).1 = p.1 ∧ (numF (prB p) 1 1).1 = p.2.1 ∧ (numF (prB p) 2 1).1 = (p.2.2.1.length : Int) ∧ (numF (prB p) 3 1).1 = (p.2.2.2.1.length : Int) := by
 have h1 := h.num
 have h2 := h.pro
 have h3 := h.spi
 have h4 := h.cnt
 refine ⟨byte_at (k := 0) ?_ (by omega) (by omega), byte_at (k := 1) ?_ (by omega) (by omega), byte_at (k := 2) ?_ (by omega) (by omega), byte_at (k := 3) ?_ (by omega) (by omega)⟩
 all_goals
  unfold prB hdB
  rw [wrap8 (by omega) (by omega), wrap8 (by omega) (by omega), wrap8 (by omega) (by omega), wrap8 (by omega) (by omega)]
  rfl
theorem pr_part {p : PrT} {m : Int} {rest : List UInt8} (h : PrOk p) (hm : m = 0 ∨ m = 2) : prP (partB m (prB p) ++ rest) = some p ∧ prR (partB m (prB p) ++ rest) = rest ∧ prM (partB m (prB p) ++ rest) = decide (¬ m = 0) := by
 have hl := prB_le h
 have h1 : (prB p).length + 4 < 65536 := by omega
 have hi := part_i (m := m) (rest := rest) h1
 have hn := part_n (m := m) (rest := rest) h1
 have hM := part_m (m := m) (body := prB p) (rest := rest) (by omega) (by omega)
 have hL : (partB m (prB p) ++ rest).length = (prB p).length + 4 + rest.length := by rw [List.length_append, partB_len]
 obtain ⟨n1, n2, n3, n4⟩ := prb_n h
 refine ⟨?_, ?_, ?_⟩
 ·unfold prP
  rw [if_pos ⟨by omega, by rw [hM]; exact hm, by omega, by omega, by rw [hi]; omega, by rw [hi, n3]; omega⟩]
  unfold prT prSpi
  rw [hi, n1, n2, n3, n4, Int.toNat_natCast, Int.toNat_natCast]
  have e1 : (prB p).drop 4 = p.2.2.1 ++ trsB p.2.2.2.1 := by
   unfold prB hdB
   rw [List.append_assoc]
   rfl
  have e2 : (prB p).drop (4 + p.2.2.1.length) = trsB p.2.2.2.1 := by
   rw [← List.drop_drop, e1]
   exact List.drop_left
  rw [e1, e2, trs_back h.ok, cutF_0 (by omega) (by simp only [List.length_append]; omega), Int.toNat_natCast, List.take_left]
  rfl
 ·unfold prR
  exact part_r h1
 ·unfold prM
  rw [hM]
theorem prs_more : ∀ {l : List PrT} {rest : List UInt8}, (∀ p ∈ l, PrOk p) → ¬ l.length = 0 → prsP (prsB l ++ rest) = if rest.length = 0 then some l else none
 | [], _, _, h0 => absurd rfl h0
 | p :: l, rest, h, _ => by
   obtain ⟨h1, h2, h3⟩ := pr_part (m := if l.length = 0 then 0 else 2) (rest := prsB l ++ rest) (h p List.mem_cons_self) (by split <;> omega)
   rw [prsP_eq, prsB, List.append_assoc, h1, h2, h3]
   simp only
   by_cases hl : l.length = 0
   ·have : l = [] := List.eq_nil_of_length_eq_zero hl
    subst this
    simp only [prsB, List.nil_append, List.length_nil, if_true]
    rfl
   ·rw [if_neg hl, prs_more (fun q hq => h q (List.mem_cons_of_mem _ hq)) hl]
    simp only [show decide (¬ (2 : Int) = 0) = true from rfl]
    split <;> rfl
theorem prs_cut : ∀ {l : List PrT} {n : Nat}, (∀ p ∈ l, PrOk p) → n < (prsB l).length → prsP ((prsB l).take n) = none
 | [], n, _, hn => by simp [prsB] at hn
 | p :: l, n, h, hn => by
   have hp := h p List.mem_cons_self
   have hl := prB_le hp
   rw [prsB] at hn ⊢
   obtain ⟨m, hm⟩ : ∃ m : Int, m = if l.length = 0 then 0 else 2 := ⟨_, rfl⟩
   rw [← hm] at hn ⊢
   have hm2 : m = 0 ∨ m = 2 := by rw [hm]; split <;> omega
   rw [List.length_append, partB_len] at hn
   by_cases hc : n < (prB p).length + 4
   ·have e : prP ((partB m (prB p) ++ prsB l).take n) = none := by
      unfold prP
      rw [if_neg]
      rintro ⟨c1, c2, c3, c4, _⟩
      rw [List.length_take, List.length_append, partB_len] at c1 c4
      have c5 : numF ((partB m (prB p) ++ prsB l).take n) 2 2 = numF (partB m (prB p) ++ prsB l) 2 2 := by
       have := numF_sl (partB m (prB p) ++ prsB l) 0 n 2 2 (by rw [List.length_append, partB_len]; omega) (by omega)
       rw [List.drop_zero] at this
       exact this
      rw [c5, part_n (by omega)] at c4
      omega
    rw [prsP_eq, e]
   ·have e : (partB m (prB p) ++ prsB l).take n = partB m (prB p) ++ (prsB l).take (n - ((prB p).length + 4)) := by
      rw [List.take_append, partB_len, List.take_of_length_le (by rw [partB_len]; omega)]
    rw [e]
    obtain ⟨h1, h2, h3⟩ := pr_part (rest := (prsB l).take (n - ((prB p).length + 4))) hp hm2
    rw [prsP_eq, h1, h2, h3]
    simp only
    have hlen : ¬ l.length = 0 := by
     intro h0
     have : l = [] := List.eq_nil_of_length_eq_zero h0
     subst this
     simp only [prsB, List.length_nil] at hn
     omega
    rw [if_neg hlen] at hm
    subst hm
    simp only [show decide (¬ (2 : Int) = 0) = true from rfl]
    rw [prs_cut (fun q hq => h q (List.mem_cons_of_mem _ hq)) (by omega)]
    rfl
theorem trsE_ok : ∀ {l pre : List TrT}, trsE pre l = 0 → ∀ t ∈ l, ¬ badT t
 | [], _, _, t, ht => by cases ht
 | s :: l, pre, h, t, ht => by
   unfold trsE at h
   split at h
   ·cases h
   ·split at h
    ·cases h
    ·rcases List.mem_cons.1 ht with rfl | ht
     ·assumption
     ·exact trsE_ok h t ht
theorem chk_ok {l : List PrT} (h : chkF l = 0) : (∀ p ∈ l, PrOk p) ∧ ¬ l.length = 0 := by
 obtain ⟨h1, h2, h3⟩ := chk_0 h
 refine ⟨fun p hp => ?_, by omega⟩
 obtain ⟨k, hk, rfl⟩ := List.getElem_of_mem hp
 have h4 := h3 k hk
 rw [List.getD_eq_getElem?_getD, List.getElem?_eq_getElem hk] at h4
 simp only [Option.getD_some] at h4
 obtain ⟨a1, a2, a3, a4, a5, a6, a7⟩ := one_0 h4
 have := spi_8 a4
 exact ⟨by omega, by omega, by omega, a6, trsE_ok a7⟩
theorem par_back {l : List PrT} (h : chkF l = 0) : parP (prsB l) = (l, 0) := by
 obtain ⟨h1, h2⟩ := chk_ok h
 have e := prs_more (rest := []) h1 h2
 rw [List.append_nil, if_pos List.length_nil] at e
 unfold parP
 rw [if_neg, e]
 ·simp only; rw [if_pos h]
 ·intro h0
  rw [prsP_nil h0] at e
  cases e
theorem par_more {l : List PrT} (h : chkF l = 0) (x : UInt8) : parP (prsB l ++ [x]) = ([], 4) := by
 obtain ⟨h1, h2⟩ := chk_ok h
 have e := prs_more (rest := [x]) h1 h2
 rw [if_neg (by simp)] at e
 unfold parP
 rw [if_neg (by simp), e]
theorem par_cut {l : List PrT} (h : chkF l = 0) {n : Nat} (hn : n < (prsB l).length) : (parP ((prsB l).take n)).2 = if n = 0 then 1 else 4 := by
 have e := prs_cut (chk_ok h).1 hn
 unfold parP
 rw [List.length_take, Nat.min_eq_left (by omega), e]
 split <;> rfl
theorem trsE_0 : ∀ {l pre : List TrT}, (∀ t ∈ l, ¬ badT t) → l.Nodup → (∀ t ∈ l, t ∉ pre) → trsE pre l = 0
 | [], _, _, _, _ => rfl
 | t :: l, pre, h, hd, hn => by
   unfold trsE
   rw [if_neg (h t List.mem_cons_self), if_neg]
   ·refine trsE_0 (fun x hx => h x (List.mem_cons_of_mem _ hx)) (List.nodup_cons.1 hd).2 fun x hx hp => ?_
    rcases List.mem_append.1 hp with hp | hp
    ·exact hn x (List.mem_cons_of_mem _ hx) hp
    ·rw [List.mem_singleton] at hp
     subst hp
     exact (List.nodup_cons.1 hd).1 hx
   ·intro hh
    rw [hasT_mem] at hh
    exact hn t List.mem_cons_self hh
theorem chkGo_of : ∀ {l : List PrT} {n : Int}, (∀ k, k < l.length → oneF (l.getD k prD0) (n + k) = 0) → chkGo l n = 0
 | [], _, _ => rfl
 | p :: l, n, h => by
   unfold chkGo
   have h0 := h 0 (by simp)
   rw [List.getD_cons_zero, Int.ofNat_zero, Int.add_zero] at h0
   rw [if_pos h0]
   refine chkGo_of fun k hk => ?_
   have := h (k + 1) (by simpa using hk)
   rw [List.getD_cons_succ, show n + ((k + 1 : Nat) : Int) = n + 1 + k by omega] at this
   exact this
end Go.Proofs.Ytkeefgiajogkkaa.V
