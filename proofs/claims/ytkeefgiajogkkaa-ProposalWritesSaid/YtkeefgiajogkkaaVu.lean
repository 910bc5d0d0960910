/- The walker: parts of slices, append. -/
import Derived.Test.YtkeefgiajogkkaaVv
set_option linter.unusedVariables false
set_option linter.unusedSimpArgs false
namespace Go.Proofs.Ytkeefgiajogkkaa.V
open Go.RowKit
mutual
def flat : Shp → Bool
 | .sl _ => false
 | .st fs => flats fs
 | _ => true
def flats : List Shp → Bool
 | [] => true
 | f :: fs => flat f && flats fs
end
mutual
theorem flat_rep {w w' : World} {Z Z' : Nat → Prop} : ∀ (e : Shp) (x : e.D) (vs : List Value), flat e = true → Shp.rep w Z e x vs → Shp.rep w' Z' e x vs
 | .int _, _, _, _, h => h
 | .byte, _, _, _, h => h
 | .bool, _, _, _, h => h
 | .str, _, _, _, h => h
 | .sl e, x, vs, hf, h => by simp [flat] at hf
 | .st fs, x, vs, hf, h => flats_rep fs x vs hf h
theorem flats_rep {w w' : World} {Z Z' : Nat → Prop} : ∀ (fs : List Shp) (x : Shp.Ds fs) (vs : List Value), flats fs = true → Shp.reps w Z fs x vs → Shp.reps w' Z' fs x vs
 | [], _, _, _, h => h
 | f :: fs, x, vs, hf, h => by
   simp only [flats, Bool.and_eq_true] at hf
   obtain ⟨v1, v2, h1, h2, h3⟩ := h
   exact ⟨v1, v2, h1, flat_rep f _ _ hf.1 h2, flats_rep fs _ _ hf.2 h3⟩
end
theorem chunk_append_left {cs ds : List Value} {n sz i : Nat} (h : cs.length = n * sz) (hi : i < n) : chunk (cs ++ ds) i sz = chunk cs i sz := by
 unfold chunk
 have : i * sz + sz ≤ cs.length := by
  rw [h, ← Nat.succ_mul]; exact Nat.mul_le_mul_right _ hi
 rw [List.drop_append_of_le_length (by omega), List.take_append_of_le_length (by rw [List.length_drop]; omega)]
theorem chunk_append_right {cs ds : List Value} {n sz i : Nat} (h : cs.length = n * sz) : chunk (cs ++ ds) (n + i) sz = chunk ds i sz := by
 unfold chunk
 rw [Nat.add_mul, ← h, List.drop_append, List.drop_of_length_le (Nat.le_add_right _ _), List.nil_append, Nat.add_sub_cancel_left]
theorem chunk_part {cs : List Value} {n sz lo m i : Nat} (hi : i < m) : chunk ((cs.drop (lo * sz)).take (m * sz)) i sz = chunk cs (lo + i) sz := by
 unfold chunk
 rw [List.drop_take, List.drop_drop, List.take_take, Nat.add_mul]
 congr 1
 have : (i + 1) * sz ≤ m * sz := Nat.mul_le_mul_right _ hi
 rw [Nat.succ_mul] at this
 omega
section part
variable {E : Env} {ρ : Nm} {w : World} {H : List Ent} {G : List FE} {P : Program} {T : TT}
theorem find_repl {f f0 : FE} : ∀ {l : List FE}, findE l f.id = some f0 → findE (replE l f) f.id = some f
 | [], h => by cases h
 | g :: l, h => by
   simp only [findE] at h
   simp only [replE]
   cases hb : nBeq g.id f.id <;> rw [hb] at h
   ·simp only [findE, hb]; exact find_repl h
   ·simp [findE]
theorem find_repl_ne {f : FE} {n : Nat} (hn : f.id ≠ n) : ∀ {l : List FE}, findE (replE l f) n = findE l n
 | [] => rfl
 | g :: l => by
   simp only [replE]
   cases hb : nBeq g.id f.id
   ·simp only [findE]
    rw [find_repl_ne hn]
   ·have := nBeq_eq hb
    simp only [findE, beq_false' hn, beq_false' (show g.id ≠ n by rw [this]; exact hn)]
theorem freeze_foot {f : FE} {k : Nat} (h : (V.freeze f).foot ρ k) : f.foot ρ k := by
 unfold FE.foot at h ⊢
 cases hc : f.c with
 | dead => simp [V.freeze, hc] at h
 | rows e x =>
   simp only [V.freeze, hc] at h
   rcases h with h | ⟨h, ht⟩
   ·exact .inl h
   ·exact .inr ⟨h.imp (fun h => by cases h) (fun h => h), ht⟩
 | codes T =>
   simp only [V.freeze, hc] at h
   exact h
theorem freeze_foot2 {f : FE} {k : Nat} (ho : f.own = false) (h : f.foot ρ k) : (V.freeze f).foot ρ k := by
 unfold FE.foot at h ⊢
 cases hc : f.c with
 | dead => rw [hc] at h; exact h.elim
 | rows e x =>
   rw [hc] at h
   simp only [V.freeze, hc]
   rcases h with h | ⟨h, ht⟩
   ·exact .inl h
   ·exact .inr ⟨h.imp (fun h => by rw [ho] at h; exact h) (fun h => h), ht⟩
 | codes T =>
   rw [hc] at h
   simp only [V.freeze, hc]
   exact h
structure Fk (ρ : Nm) (f : FE) (ρ' : Nm) (f' : FE) : Prop where
 sub : ∀ k, f'.foot ρ' k → f.foot ρ k
 sup : f'.own = f.own → ∀ k, f.foot ρ k → f'.foot ρ' k
 mono : f'.own = true → f.own = true
theorem Fk.refl (ρ : Nm) (f : FE) : Fk ρ f ρ f := ⟨fun _ h => h, fun _ _ h => h, fun h => h⟩
theorem Fk.names {ρ' : Nm} {f f' : FE} (h : Fk ρ f ρ f') (he : f'.foot ρ' = f'.foot ρ) : Fk ρ f ρ' f' := ⟨fun k hk => h.sub k (by rw [← he]; exact hk), fun ho k hk => by rw [he]; exact h.sup ho k hk, h.mono⟩
theorem Fk.freeze (ρ : Nm) (f : FE) : Fk ρ f ρ (V.freeze f) := ⟨fun _ h => freeze_foot h, fun ho k hk => freeze_foot2 (by rw [← ho]; rfl) hk, fun h => by cases h⟩
theorem Fk.trans {ρ' ρ'' : Nm} {f f' f'' : FE} (h : Fk ρ f ρ' f') (k : Fk ρ' f' ρ'' f'') : Fk ρ f ρ'' f'' := by
 refine ⟨fun i hi => h.sub i (k.sub i hi), fun ho i hi => ?_, fun ho => h.mono (k.mono ho)⟩
 have h1 : f'.own = f.own := by
  cases hf : f.own with
  | true => exact k.mono (ho.trans hf)
  | false =>
    cases hf' : f'.own with
    | true => exact absurd (h.mono hf') (by rw [hf]; simp)
    | false => rfl
 exact k.sup (ho.trans h1.symm) i (h.sup h1 i hi)
theorem Hp.freeze (hh : Hp E ρ H G w) {f : FE} {id : Nat} (hf : findE G id = some f) {e : Shp} {x : Unit → List e.D} (hc : f.c = .rows e x) :
    Hp E ρ H (replE G (V.freeze f)) w ∧ ∀ ρ'', Agr ρ ρ'' H (replE G (V.freeze f)) → Agr ρ ρ'' H G := by
 obtain ⟨hm, hid⟩ := findE_mem hf
 have hfa := hh.facts f hm
 have hrd := FE.reads hfa hc
 have hp := hh.pos f hm e x hc
 have hfo : ∀ k, (V.freeze f).foot ρ k → f.foot ρ k := by
  intro k hk
  unfold FE.foot at hk ⊢
  rw [hc]
  simp only [V.freeze] at hk
  rw [hc] at hk
  rcases hk with hk | ⟨hk, ht⟩
  ·exact .inl hk
  ·exact .inr ⟨hk.imp (fun h => by cases h) (fun h => h), ht⟩
 refine hh.repl (f0 := f) (f := V.freeze f) (by rw [← hid] at hf; exact hf) ?_ (fun e' x' he => by simp only [V.freeze] at he; rw [hc] at he; cases he; exact hp) hfo (fun k hk => ?_) rfl
 ·have hz : ∀ k, ρ.z f.id k → k < w.heap.size := by unfold FE.holds at hfa; rw [hc] at hfa; exact hfa.1
  -- only what is read counts
  obtain ⟨hb, cs, h1, h2, h3⟩ := hrd
  have hcf : (V.freeze f).c = .rows e x := hc
  have hff : ∀ k, f.foot ρ k → ((V.freeze f).foot ρ k ∨ (x ()).length = 0) := by
   intro k hk
   unfold FE.foot at hk ⊢
   rw [hc] at hk
   rw [hcf]
   rcases hk with hk | ⟨hk, ht⟩
   ·exact .inl (.inl hk)
   ·rcases Nat.eq_zero_or_pos (x ()).length with h0 | h0
    ·exact .inr h0
    ·exact .inl (.inr ⟨.inr (by rw [show (V.freeze f).id = f.id from rfl, hb.len]; exact h0), ht⟩)
  have main : Rd w ((V.freeze f).foot ρ) e.size (fun a b => Shp.rep w ((V.freeze f).foot ρ) e a b) (ρ.s f.id) (x ()) := by
   rcases Nat.eq_zero_or_pos (x ()).length with h0 | h0
   ·refine ⟨hb, cs, h1, ?_, fun i hi => by omega⟩
    left
    exact List.eq_nil_of_length_eq_zero (by rw [h1, h0, Nat.zero_mul])
   ·have hff' : ∀ k, f.foot ρ k → (V.freeze f).foot ρ k := fun k hk => (hff k hk).elim (fun h => h) fun h => by omega
    exact ⟨hb, cs, h1, h2.mono hff' (fun _ _ => rfl), fun i hi => Shp.rep_mono hff' (fun _ _ => rfl) e _ _ (h3 i hi)⟩
  unfold FE.holds
  rw [hcf]
  exact ⟨hz, main⟩
 ·unfold FE.excl at hk
  simp only [V.freeze] at hk
  rw [hc] at hk
  cases hk.1
def boundV (ev : Operand → SV) : Option Operand → Option (Option IE)
 | none => some none
 | some x => match ev x with
   | .int _ i => some (some i)
   | _ => none
def lowD : Option IE → Int
 | none => 0
 | some i => i.den
def highD (n : Nat) : Option IE → Int
 | none => n
 | some i => i.den
def partL {α : Type} (x : List α) (lo hi : Option IE) : List α := (x.drop (lowD lo).toNat).take ((highD x.length hi).toNat - (lowD lo).toNat)
def mxOk (h : Int) (n : Nat) : Option IE → Prop
 | none => True
 | some m => h ≤ m.den ∧ m.den ≤ n
def capD (cap : Nat) : Option IE → Nat
 | none => cap
 | some m => m.den.toNat
def BIs (v : Option Value) : Option IE → Prop
 | none => v = none
 | some i => ∃ k, v = some (.int k i.den)
def obPart {α : Type} (x : Unit → List α) (lo hi mx : Option IE) : Unit → Prop := fun u =>
 0 ≤ lowD lo ∧ lowD lo ≤ highD (x u).length hi ∧ highD (x u).length hi ≤ Int.ofNat (x u).length ∧ mxOk (highD (x u).length hi) (x u).length mx
def sliceE (T : TT) (G : List FE) (n : Nat) (ev : Operand → SV) (t : TypeId) (x : Operand) (lo hi mx : Option Operand) : Option ((Unit → Prop) × SV × List FE) :=
 match ev x, boundV ev lo, boundV ev hi, boundV ev mx with
 | .fv id, some lo, some hi, some mx => match findE G id, TT.look T t with
   | some f, some ⟨.slice te, _, _⟩ => match f.c, TT.look T te with
     | .rows e y, some j => match nBeq j.size e.size with
       | true => some (obPart y lo hi mx, .fv n, ⟨n, false, 0, f.al, .rows e (fun u => partL (y u) lo hi)⟩ :: (match f.own with | true => replE G (freeze f) | false => G))
       | false => none
     | _, _ => none
   | _, _ => none
 | _, _, _, _ => none
theorem bound_den {ev : Operand → SV} {x : Option Operand} {i : Option IE} (h : boundV ev x = some i) (A : Act) {ρ : Nm} (hA : ∀ x, A.eval x = (ev x).den ρ) :
    BIs (x.map A.eval) i := by
 unfold boundV at h
 unfold BIs
 split at h
 ·cases h; rfl
 ·split at h
  ·rename_i y k i hy
   cases h
   exact ⟨k, by simp [hA, hy, SV.den]⟩
  ·cases h
theorem run_slice_bounds {te : TypeId} {t : TypeId} (hd : P.underlying t = some (.slice te)) {j : TI} (hj : TIOk P te j) (a : Option Addr) (len cap : Nat) (hlc : len ≤ cap) (lo hi mx : Option IE) (vl vh vm : Option Value)
    (h1 : BIs vl lo) (h2 : BIs vh hi) (h3 : BIs vm mx) (o1 : 0 ≤ lowD lo) (o2 : lowD lo ≤ highD len hi) (o3 : highD len hi ≤ len) (o4 : mxOk (highD len hi) len mx) (hmx : mx.isSome = true → hi.isSome = true) (w : World) :
    (Instr.sliceAt t (.slice a len cap) vl vh vm).run P w = .ok (sliced a (lowD lo).toNat (highD len hi).toNat (capD cap mx) j.size) w := by
 have hel : P.elem t = te := by simp [Program.elem, hd]
 have hd' : P.underlying t = some (.slice (P.elem t)) := by rw [hel]; exact hd
 rw [run_sliceAt_slice w t _ _ _ _ hd']
 have hsz : (Go.sizeOf (P.elem t)).run P w = .ok j.size w := by rw [hel]; exact hj.sizeOf w
 cases lo with
 | none =>
   simp only [BIs] at h1
   subst h1
   simp only [lowD] at o1 o2 ⊢
   cases hi with
   | none =>
     simp only [BIs] at h2
     subst h2
     simp only [highD] at o2 o3 o4 ⊢
     cases mx with
     | none => simp only [BIs] at h3; subst h3; simp [run_slice_all w t a len cap hd', hsz, capD]
     | some m => simp at hmx
   | some h =>
     obtain ⟨kh, rfl⟩ := h2
     simp only [highD] at o2 o3 o4 ⊢
     cases mx with
     | none => simp only [BIs] at h3; subst h3; simp [run_slice_h w t a len cap hd' kh h.den (by omega) (by omega), hsz, capD]
     | some m =>
       obtain ⟨km, rfl⟩ := h3
       simp only [mxOk] at o4
       simp [run_slice_hm w t a len cap hd' kh km h.den m.den (by omega) (by omega) (by omega), hsz, capD]
 | some l =>
   obtain ⟨kl, rfl⟩ := h1
   simp only [lowD] at o1 o2 ⊢
   cases hi with
   | none =>
     simp only [BIs] at h2
     subst h2
     simp only [highD] at o2 o3 o4 ⊢
     cases mx with
     | none => simp only [BIs] at h3; subst h3; simp [run_slice_l w t a len cap hd' kl l.den (by omega) (by omega), hsz, capD]
     | some m => simp at hmx
   | some h =>
     obtain ⟨kh, rfl⟩ := h2
     simp only [highD] at o2 o3 o4 ⊢
     cases mx with
     | none => simp only [BIs] at h3; subst h3; simp [run_slice_lh w t a len cap hd' kl kh l.den h.den (by omega) (by omega) (by omega), hsz, capD]
     | some m =>
       obtain ⟨km, rfl⟩ := h3
       simp only [mxOk] at o4
       simp [run_slice_lhm w t a len cap hd' kl kh km l.den h.den m.den (by omega) (by omega) (by omega) (by omega), hsz, capD]
theorem Rd.part {α : Type} {Z : Nat → Prop} {sz : Nat} {r : α → List Value → Prop} {s : Sl} {xs : List α} (h : Rd w Z sz r s xs) (lo hi mx : Option IE) (o1 : 0 ≤ lowD lo) (o2 : lowD lo ≤ highD xs.length hi) (o3 : highD xs.length hi ≤ xs.length) (o4 : mxOk (highD xs.length hi) xs.length mx) :
    ∃ s' : Sl, s'.val = sliced s.a (lowD lo).toNat (highD xs.length hi).toNat (capD s.cap mx) sz ∧ Rd w Z sz r s' (partL xs lo hi) := by
 obtain ⟨hb, cs, h1, h2, h3⟩ := h
 have hle := hb.le
 have hcl := hb.capLe
 have hli := hb.lim
 generalize hl : lowD lo = l at *
 generalize hh : highD xs.length hi = hv at *
 obtain ⟨L, rfl⟩ := Int.eq_ofNat_of_zero_le o1
 obtain ⟨V, rfl⟩ := Int.eq_ofNat_of_zero_le (show 0 ≤ hv by omega)
 have hVL : L ≤ V := by omega
 have hVx : V ≤ xs.length := by omega
 have hcap : V ≤ capD s.cap mx ∧ capD s.cap mx ≤ s.cap := by
  unfold mxOk at o4
  unfold capD
  cases mx with
  | none => exact ⟨by simp only; omega, Nat.le_refl _⟩
  | some m => simp only at o4 ⊢; omega
 have hpl : partL xs lo hi = (xs.drop L).take (V - L) := by unfold partL; rw [hl, hh]; simp
 have hlen : (partL xs lo hi).length = V - L := by rw [hpl, List.length_take, List.length_drop]; omega
 refine ⟨⟨if capD s.cap mx = L then s.a else s.a.map (·.add (L * sz)), V - L, capD s.cap mx - L⟩, by simp [Sl.val, sliced], ⟨by rw [hlen], by rw [hlen]; simp only; omega, by simp only; omega, by rw [hlen]; omega⟩, (cs.drop (L * sz)).take ((V - L) * sz), ?_, ?_, ?_⟩
 ·rw [hlen, List.length_take, List.length_drop, h1, ← Nat.sub_mul]
  exact Nat.min_eq_left (Nat.mul_le_mul_right _ (by omega))
 ·by_cases h0 : V - L = 0
  ·left
   rw [h0]
   simp
  ·rcases h2 with h2 | ⟨b, off, ha, hz, hc⟩
   ·left
    rw [h2]
    simp
   ·right
    have hne : ¬ capD s.cap mx = L := by omega
    refine ⟨b, off + L * sz, by simp only [if_neg hne, ha, Option.map_some, add_plain], hz, fun j v hv => ?_⟩
    rw [List.getElem?_take] at hv
    split at hv
    ·rw [List.getElem?_drop] at hv
     rw [Nat.add_assoc]
     exact hc _ _ hv
    ·cases hv
 ·intro i hii
  rw [hlen] at hii
  rw [chunk_part (n := 0) hii]
  have : (partL xs lo hi)[i]'(by rw [hlen]; exact hii) = xs[L + i] := by
   simp only [hpl]
   rw [List.getElem_take, List.getElem_drop]
  rw [this]
  exact h3 _ _
theorem sliceE_sound (hT : TT.ok P T) (hh : Hp E ρ H G w) {n : Nat} {ev : Operand → SV} {t : TypeId} {x : Operand} {lo hi mx : Option Operand} {ob : Unit → Prop} {v : SV} {G' : List FE} (h : sliceE T G n ev t x lo hi mx = some (ob, v, G')) (ho : ob ())
    (hmx : mx.isSome = true → hi.isSome = true) (hfr : Fresh E n H G) (o : Oper) (hop : o.op = .slice t x lo hi mx) :
    ∃ ρ', Hp E ρ' H G' w ∧ (∀ id f, findE G id = some f → ∃ f', findE G' id = some f' ∧ f'.c = f.c ∧ Fk ρ f ρ' f') ∧ ∀ ρ'', Agr ρ' ρ'' H G' → Agr ρ ρ'' H G ∧ ∀ A : Act, (∀ x, A.eval x = (ev x).den ρ'') → (execOp A.eval o).run P w = .ok (.value (v.den ρ'')) w := by
 unfold sliceE at h
 split at h
 ·rename_i id l1 h1 m1 hx hlo hhi hmxv
  split at h
  ·rename_i f te sz z hf hl
   split at h
   ·rename_i e y j hc hj
    cases hs : nBeq j.size e.size with
    | false => rw [hs] at h; cases h
    | true =>
      rw [hs] at h
      have hs := nBeq_eq hs
      cases h
      obtain ⟨o1, o2, o3, o4⟩ := ho
      obtain ⟨hm, hid⟩ := findE_mem hf
      have hrd := FE.reads (hh.facts f hm) hc
      obtain ⟨s', hs', hr'⟩ := hrd.part l1 h1 m1 o1 o2 o3 o4
      have hp := hh.pos f hm e y hc
      obtain ⟨d, hd, hsd⟩ := (TT.look_ok hT hl).under
      cases d <;> simp [Sh.of] at hsd
      subst hsd
      have hbd := hrd.bd
      have hle := hbd.le
      -- the run
      have run : ∀ (w : World) (A : Act) (ρ'' : Nm), ρ''.s id = ρ.s id → ρ''.s n = s' → (∀ x, A.eval x = (ev x).den ρ'') → (execOp A.eval o).run P w = .ok (.value ((SV.fv n).den ρ'')) w := by
       intro w A ρ'' e1 e2 hA
       unfold execOp
       rw [hop]
       have b1 := bound_den hlo A hA
       have b2 := bound_den hhi A hA
       have b3 := bound_den hmxv A hA
       have hmm : m1.isSome = true → h1.isSome = true := by
        intro hq
        have hq' : mx.isSome = true := by
         cases mx with
         | none => simp only [boundV] at hmxv; cases hmxv; simp at hq
         | some _ => rfl
        have := hmx hq'
        cases hi with
        | none => simp at this
        | some q =>
          simp only [boundV] at hhi
          split at hhi
          ·cases hhi; rfl
          ·cases hhi
       rw [hid] at hbd hs'
       have hn := hbd.len
       have := run_slice_bounds hd (TT.look_ok hT hj) (ρ.s id).a (y ()).length (ρ.s id).cap (by rw [hid] at hle; exact hle) l1 h1 m1 _ _ _ b1 b2 b3 o1 o2 o3 o4 hmm w
       simp only [hA, hx, SV.den, e1, e2, hs', Sem.run_bind]
       simp only [Sl.val, hn]
       rw [this, hs]
       rfl
      have share : ∀ (G0 : List FE), Hp E ρ H G0 w → (∀ ρ'', Agr ρ ρ'' H G0 → Agr ρ ρ'' H G) → Zok E ρ H G0 w f.al (f.foot ρ) → (∀ g ∈ G0, g.id ≠ n ∧ noN n g.c = true) → (∀ id f, findE G id = some f → ∃ f', findE G0 id = some f' ∧ f'.c = f.c ∧ Fk ρ f ρ f') →
          ∃ ρ', Hp E ρ' H (⟨n, false, 0, f.al, .rows e (fun u => partL (y u) l1 h1)⟩ :: G0) w ∧ (∀ id f', findE G id = some f' → ∃ f'', findE (⟨n, false, 0, f.al, .rows e (fun u => partL (y u) l1 h1)⟩ :: G0) id = some f'' ∧ f''.c = f'.c ∧ Fk ρ f' ρ' f'') ∧ ∀ ρ'', Agr ρ' ρ'' H (⟨n, false, 0, f.al, .rows e (fun u => partL (y u) l1 h1)⟩ :: G0) → Agr ρ ρ'' H G ∧ ∀ A : Act, (∀ x, A.eval x = (ev x).den ρ'') → (execOp A.eval o).run P w = .ok (.value ((SV.fv n).den ρ'')) w := by
       intro G0 hh0 hr0 hz hne hfd
       obtain ⟨k1, k2, _⟩ := hh0.share (f := ⟨n, false, 0, f.al, .rows e (fun u => partL (y u) l1 h1)⟩) (hfr.to hne) rfl rfl hp hz hr'
       refine ⟨_, k1, fun id' f' hf' => ?_, fun ρ'' hr => ?_⟩
       ·obtain ⟨f'', r1, r2, r3⟩ := hfd id' f' hf'
        have hne2 : n ≠ id' := fun e0 => hfr.G f' (findE_mem hf').1 (by rw [(findE_mem hf').2, e0])
        have hfid : f''.id = id' := (findE_mem r1).2
        have hne' : f''.id ≠ n := by rw [hfid]; exact Ne.symm hne2
        exact ⟨f'', by simp only [findE, beq_false' hne2]; exact r1, r2, r3.names (FE.foot_names (by rfl) (by simp [Nm.setS, hne']) (by simp [Nm.setS, hne']))⟩
       obtain ⟨q1, q2⟩ := k2 ρ'' hr
       have q3 := hr0 ρ'' q1
       exact ⟨q3, fun A hA => run w A ρ'' (by rw [← hid]; exact (q3.2 f hm).2) q2 hA⟩
      cases hown : f.own with
      | false =>
        have hz := hh.zok hm hc (hh.sep hm)
        rw [hown] at hz
        exact share G hh (fun _ h => h) hz hfr.g2 fun id' f' hf' => ⟨f', hf', rfl, Fk.refl _ _⟩
      | true =>
        obtain ⟨k1, k2⟩ := hh.freeze hf hc
        refine share _ k1 k2 ?_ ?_ ?_
        ·refine ⟨fun k hk => hh.foot_lt hm hk, fun e' he => hh.apart e' he f hm, fun g hg k hk hk2 => ?_, fun k hk => hh.al f hm k hk⟩
         have hxf : ∀ k, ¬ (V.freeze f).excl ρ k := by
          intro k hk
          unfold FE.excl at hk
          simp only [V.freeze] at hk
          rw [hc] at hk
          cases hk.1
         -- an entry that is left and claims k is not f
         have key : ∀ {l : List FE}, l.Pairwise (Sep ρ) → findE l f.id = some f → g ∈ replE l (V.freeze f) → g = V.freeze f ∨ Sep ρ g f ∨ Sep ρ f g := by
          intro l
          induction l with
          | nil => intro _ h _; cases h
          | cons q l ih =>
            intro hp hq hg
            simp only [findE] at hq
            simp only [replE] at hg
            obtain ⟨p1, p2⟩ := List.pairwise_cons.1 hp
            rw [show (V.freeze f).id = f.id from rfl] at hg
            cases hb : nBeq q.id f.id <;> rw [hb] at hq hg
            ·rcases List.mem_cons.1 hg with rfl | hg
             ·exact .inr (.inl (p1 f (findE_mem hq).1))
             ·exact ih p2 hq hg
            ·cases hq
             rcases List.mem_cons.1 hg with rfl | hg
             ·exact .inl rfl
             ·exact .inr (.inr (p1 g hg))
         rcases key hh.alone (by rw [hid]; exact hf) hg with rfl | hs | hs
         ·exact hxf k hk
         ·exact (hs k).1 hk hk2
         ·exact (hs k).2 hk hk2
        ·intro g hg
         rcases mem_replE hg with rfl | hg
         ·exact hfr.g2 f hm
         ·exact hfr.g2 g hg
        ·intro id' f' hf'
         by_cases hi : id = id'
         ·subst hi
          rw [hf] at hf'
          cases hf'
          have := find_repl (f := V.freeze f) (f0 := f) (l := G) (by rw [show (V.freeze f).id = f.id from rfl, hid]; exact hf)
          rw [show (V.freeze f).id = f.id from rfl, hid] at this
          exact ⟨_, this, rfl, Fk.freeze _ _⟩
         ·exact ⟨f', by rw [find_repl_ne (by rw [show (V.freeze f).id = f.id from rfl, hid]; exact hi)]; exact hf', rfl, Fk.refl _ _⟩
   ·cases h
  ·cases h
 ·cases h
end part
end Go.Proofs.Ytkeefgiajogkkaa.V
