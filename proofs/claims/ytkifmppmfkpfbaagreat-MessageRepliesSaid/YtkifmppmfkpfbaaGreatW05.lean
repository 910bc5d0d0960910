import Derived.Test.YtkifmppmfkpfbaaGreatW04
set_option linter.unusedVariables false
set_option linter.unusedSimpArgs false
namespace Go.Proofs.YtkifmppmfkpfbaaGreat.V
open Go.RowKit
section
mutual
def flat : Shp → Bool
 | .sl _ => false
 | .st fs => flats fs
 | _ => true
def flats : List Shp → Bool
 | [] => true
 | f :: fs => flat f && flats fs
end
mutual
theorem flat_rep {w w' : World} {Z Z' : Nat → Prop} : ∀ (e : Shp) (x : e.D) (vs : List Value), flat e = true → Shp.rep w Z e x vs → Shp.rep w' Z' e x vs
 | .int _, _, _, _, h => h
 | .byte, _, _, _, h => h
 | .bool, _, _, _, h => h
 | .str, _, _, _, h => h
 | .sl e, x, vs, hf, h => by simp [flat] at hf
 | .st fs, x, vs, hf, h => flats_rep fs x vs hf h
theorem flats_rep {w w' : World} {Z Z' : Nat → Prop} : ∀ (fs : List Shp) (x : Shp.Ds fs) (vs : List Value), flats fs = true → Shp.reps w Z fs x vs → Shp.reps w' Z' fs x vs
 | [], _, _, _, h => h
 | f :: fs, x, vs, hf, h => by
   simp only [flats, Bool.and_eq_true] at hf
   obtain ⟨v1, v2, h1, h2, h3⟩ := h
   exact ⟨v1, v2, h1, flat_rep f _ _ hf.1 h2, flats_rep fs _ _ hf.2 h3⟩
end
theorem chunk_append_left {cs ds : List Value} {n sz i : Nat} (h : cs.length = n * sz) (hi : i < n) : chunk (cs ++ ds) i sz = chunk cs i sz := by
 unfold chunk
 have : i * sz + sz ≤ cs.length := by
  rw [h, ← Nat.succ_mul]; exact Nat.mul_le_mul_right _ hi
 rw [List.drop_append_of_le_length (by omega), List.take_append_of_le_length (by rw [List.length_drop]; omega)]
theorem chunk_append_right {cs ds : List Value} {n sz i : Nat} (h : cs.length = n * sz) : chunk (cs ++ ds) (n + i) sz = chunk ds i sz := by
 unfold chunk
 rw [Nat.add_mul, ← h, List.drop_append, List.drop_of_length_le (Nat.le_add_right _ _), List.nil_append, Nat.add_sub_cancel_left]
theorem chunk_part {cs : List Value} {n sz lo m i : Nat} (hi : i < m) : chunk ((cs.drop (lo * sz)).take (m * sz)) i sz = chunk cs (lo + i) sz := by
 unfold chunk
 rw [List.drop_take, List.drop_drop, List.take_take, Nat.add_mul]
 congr 1
 have : (i + 1) * sz ≤ m * sz := Nat.mul_le_mul_right _ hi
 rw [Nat.succ_mul] at this
 omega
section part
variable {E : Env} {ρ : Nm} {w : World} {H : List Ent} {G : List FE} {P : Program} {T : TT}
theorem find_repl {f f0 : FE} : ∀ {l : List FE}, findE l f.id = some f0 → findE (replE l f) f.id = some f
 | [], h => by cases h
 | g :: l, h => by
   simp only [findE] at h
   simp only [replE]
   cases hb : nBeq g.id f.id <;> rw [hb] at h
   ·simp only [findE, hb]; exact find_repl h
   ·simp [findE]
theorem find_repl_ne {f : FE} {n : Nat} (hn : f.id ≠ n) : ∀ {l : List FE}, findE (replE l f) n = findE l n
 | [] => rfl
 | g :: l => by
   simp only [replE]
   cases hb : nBeq g.id f.id
   ·simp only [findE]
    rw [find_repl_ne hn]
   ·have := nBeq_eq hb
    simp only [findE, beq_false' hn, beq_false' (show g.id ≠ n by rw [this]; exact hn)]
theorem freeze_foot {f : FE} {k : Nat} (h : (V.freeze f).foot ρ k) : f.foot ρ k := by
 unfold FE.foot at h ⊢
 cases hc : f.c with
 | dead => simp [V.freeze, hc] at h
 | rows e x =>
   simp only [V.freeze, hc] at h
   rcases h with h | ⟨h, ht⟩
   ·exact .inl h
   ·exact .inr ⟨h.imp (fun h => by cases h) (fun h => h), ht⟩
 | codes T =>
   simp only [V.freeze, hc] at h
   exact h
theorem freeze_foot2 {f : FE} {k : Nat} (ho : f.own = false) (h : f.foot ρ k) : (V.freeze f).foot ρ k := by
 unfold FE.foot at h ⊢
 cases hc : f.c with
 | dead => rw [hc] at h; exact h.elim
 | rows e x =>
   rw [hc] at h
   simp only [V.freeze, hc]
   rcases h with h | ⟨h, ht⟩
   ·exact .inl h
   ·exact .inr ⟨h.imp (fun h => by rw [ho] at h; exact h) (fun h => h), ht⟩
 | codes T =>
   rw [hc] at h
   simp only [V.freeze, hc]
   exact h
structure Fk (ρ : Nm) (f : FE) (ρ' : Nm) (f' : FE) : Prop where
 sub : ∀ k, f'.foot ρ' k → f.foot ρ k
 sup : f'.own = f.own → ∀ k, f.foot ρ k → f'.foot ρ' k
 mono : f'.own = true → f.own = true
theorem Fk.refl (ρ : Nm) (f : FE) : Fk ρ f ρ f := ⟨fun _ h => h, fun _ _ h => h, fun h => h⟩
theorem Fk.names {ρ' : Nm} {f f' : FE} (h : Fk ρ f ρ f') (he : f'.foot ρ' = f'.foot ρ) : Fk ρ f ρ' f' := ⟨fun k hk => h.sub k (by rw [← he]; exact hk), fun ho k hk => by rw [he]; exact h.sup ho k hk, h.mono⟩
theorem Fk.freeze (ρ : Nm) (f : FE) : Fk ρ f ρ (V.freeze f) := ⟨fun _ h => freeze_foot h, fun ho k hk => freeze_foot2 (by rw [← ho]; rfl) hk, fun h => by cases h⟩
theorem Fk.trans {ρ' ρ'' : Nm} {f f' f'' : FE} (h : Fk ρ f ρ' f') (k : Fk ρ' f' ρ'' f'') : Fk ρ f ρ'' f'' := by
 refine ⟨fun i hi => h.sub i (k.sub i hi), fun ho i hi => ?_, fun ho => h.mono (k.mono ho)⟩
 have h1 : f'.own = f.own := by
  cases hf : f.own with
  | true => exact k.mono (ho.trans hf)
  | false =>
    cases hf' : f'.own with
    | true => exact absurd (h.mono hf') (by rw [hf]; simp)
    | false => rfl
 exact k.sup (ho.trans h1.symm) i (h.sup h1 i hi)
theorem Hp.freeze (hh : Hp E ρ H G w) {f : FE} {id : Nat} (hf : findE G id = some f) {e : Shp} {x : Unit → List e.D} (hc : f.c = .rows e x) :
    Hp E ρ H (replE G (V.freeze f)) w ∧ ∀ ρ'', Agr ρ ρ'' H (replE G (V.freeze f)) → Agr ρ ρ'' H G := by
 obtain ⟨hm, hid⟩ := findE_mem hf
 have hfa := hh.facts f hm
 have hrd := FE.reads hfa hc
 have hp := hh.pos f hm e x hc
 have hfo : ∀ k, (V.freeze f).foot ρ k → f.foot ρ k := by
  intro k hk
  unfold FE.foot at hk ⊢
  rw [hc]
  simp only [V.freeze] at hk
  rw [hc] at hk
  rcases hk with hk | ⟨hk, ht⟩
  ·exact .inl hk
  ·exact .inr ⟨hk.imp (fun h => by cases h) (fun h => h), ht⟩
 refine hh.repl (f0 := f) (f := V.freeze f) (by rw [← hid] at hf; exact hf) ?_ (fun e' x' he => by simp only [V.freeze] at he; rw [hc] at he; cases he; exact hp) hfo (fun k hk => ?_) rfl
 ·have hz : ∀ k, ρ.z f.id k → k < w.heap.size := by unfold FE.holds at hfa; rw [hc] at hfa; exact hfa.1
  -- only what is read counts
  obtain ⟨hb, cs, h1, h2, h3⟩ := hrd
  have hcf : (V.freeze f).c = .rows e x := hc
  have hff : ∀ k, f.foot ρ k → ((V.freeze f).foot ρ k ∨ (x ()).length = 0) := by
   intro k hk
   unfold FE.foot at hk ⊢
   rw [hc] at hk
   rw [hcf]
   rcases hk with hk | ⟨hk, ht⟩
   ·exact .inl (.inl hk)
   ·rcases Nat.eq_zero_or_pos (x ()).length with h0 | h0
    ·exact .inr h0
    ·exact .inl (.inr ⟨.inr (by rw [show (V.freeze f).id = f.id from rfl, hb.len]; exact h0), ht⟩)
  have main : Rd w ((V.freeze f).foot ρ) e.size (fun a b => Shp.rep w ((V.freeze f).foot ρ) e a b) (ρ.s f.id) (x ()) := by
   rcases Nat.eq_zero_or_pos (x ()).length with h0 | h0
   ·refine ⟨hb, cs, h1, ?_, fun i hi => by omega⟩
    left
    exact List.eq_nil_of_length_eq_zero (by rw [h1, h0, Nat.zero_mul])
   ·have hff' : ∀ k, f.foot ρ k → (V.freeze f).foot ρ k := fun k hk => (hff k hk).elim (fun h => h) fun h => by omega
    exact ⟨hb, cs, h1, h2.mono hff' (fun _ _ => rfl), fun i hi => Shp.rep_mono hff' (fun _ _ => rfl) e _ _ (h3 i hi)⟩
  unfold FE.holds
  rw [hcf]
  exact ⟨hz, main⟩
 ·unfold FE.excl at hk
  simp only [V.freeze] at hk
  rw [hc] at hk
  cases hk.1
def boundV (ev : Operand → SV) : Option Operand → Option (Option IE)
 | none => some none
 | some x => match ev x with
   | .int _ i => some (some i)
   | _ => none
def lowD : Option IE → Int
 | none => 0
 | some i => i.den
def highD (n : Nat) : Option IE → Int
 | none => n
 | some i => i.den
def partL {α : Type} (x : List α) (lo hi : Option IE) : List α := (x.drop (lowD lo).toNat).take ((highD x.length hi).toNat - (lowD lo).toNat)
def mxOk (h : Int) (n : Nat) : Option IE → Prop
 | none => True
 | some m => h ≤ m.den ∧ m.den ≤ n
def capD (cap : Nat) : Option IE → Nat
 | none => cap
 | some m => m.den.toNat
def BIs (v : Option Value) : Option IE → Prop
 | none => v = none
 | some i => ∃ k, v = some (.int k i.den)
def obPart {α : Type} (x : Unit → List α) (lo hi mx : Option IE) : Unit → Prop := fun u =>
 0 ≤ lowD lo ∧ lowD lo ≤ highD (x u).length hi ∧ highD (x u).length hi ≤ Int.ofNat (x u).length ∧ mxOk (highD (x u).length hi) (x u).length mx
def sliceE (T : TT) (G : List FE) (n : Nat) (ev : Operand → SV) (t : TypeId) (x : Operand) (lo hi mx : Option Operand) : Option ((Unit → Prop) × SV × List FE) :=
 match ev x, boundV ev lo, boundV ev hi, boundV ev mx with
 | .fv id, some lo, some hi, some mx => match findE G id, TT.look T t with
   | some f, some ⟨.slice te, _, _⟩ => match f.c, TT.look T te with
     | .rows e y, some j => match nBeq j.size e.size with
       | true => some (obPart y lo hi mx, .fv n, ⟨n, false, 0, f.al, .rows e (fun u => partL (y u) lo hi)⟩ :: (match f.own with | true => replE G (freeze f) | false => G))
       | false => none
     | _, _ => none
   | _, _ => none
 | _, _, _, _ => none
theorem bound_den {ev : Operand → SV} {x : Option Operand} {i : Option IE} (h : boundV ev x = some i) (A : Act) {ρ : Nm} (hA : ∀ x, A.eval x = (ev x).den ρ) :
    BIs (x.map A.eval) i := by
 unfold boundV at h
 unfold BIs
 split at h
 ·cases h; rfl
 ·split at h
  ·rename_i y k i hy
   cases h
   exact ⟨k, by simp [hA, hy, SV.den]⟩
  ·cases h
theorem run_slice_bounds {te : TypeId} {t : TypeId} (hd : P.underlying t = some (.slice te)) {j : TI} (hj : TIOk P te j) (a : Option Addr) (len cap : Nat) (hlc : len ≤ cap) (lo hi mx : Option IE) (vl vh vm : Option Value)
    (h1 : BIs vl lo) (h2 : BIs vh hi) (h3 : BIs vm mx) (o1 : 0 ≤ lowD lo) (o2 : lowD lo ≤ highD len hi) (o3 : highD len hi ≤ len) (o4 : mxOk (highD len hi) len mx) (hmx : mx.isSome = true → hi.isSome = true) (w : World) :
    (Instr.sliceAt t (.slice a len cap) vl vh vm).run P w = .ok (sliced a (lowD lo).toNat (highD len hi).toNat (capD cap mx) j.size) w := by
 have hel : P.elem t = te := by simp [Program.elem, hd]
 have hd' : P.underlying t = some (.slice (P.elem t)) := by rw [hel]; exact hd
 rw [run_sliceAt_slice w t _ _ _ _ hd']
 have hsz : (Go.sizeOf (P.elem t)).run P w = .ok j.size w := by rw [hel]; exact hj.sizeOf w
 cases lo with
 | none =>
   simp only [BIs] at h1
   subst h1
   simp only [lowD] at o1 o2 ⊢
   cases hi with
   | none =>
     simp only [BIs] at h2
     subst h2
     simp only [highD] at o2 o3 o4 ⊢
     cases mx with
     | none => simp only [BIs] at h3; subst h3; simp [run_slice_all w t a len cap hd', hsz, capD]
     | some m => simp at hmx
   | some h =>
     obtain ⟨kh, rfl⟩ := h2
     simp only [highD] at o2 o3 o4 ⊢
     cases mx with
     | none => simp only [BIs] at h3; subst h3; simp [run_slice_h w t a len cap hd' kh h.den (by omega) (by omega), hsz, capD]
     | some m =>
       obtain ⟨km, rfl⟩ := h3
       simp only [mxOk] at o4
       simp [run_slice_hm w t a len cap hd' kh km h.den m.den (by omega) (by omega) (by omega), hsz, capD]
 | some l =>
   obtain ⟨kl, rfl⟩ := h1
   simp only [lowD] at o1 o2 ⊢
   cases hi with
   | none =>
     simp only [BIs] at h2
     subst h2
     simp only [highD] at o2 o3 o4 ⊢
     cases mx with
     | none => simp only [BIs] at h3; subst h3; simp [run_slice_l w t a len cap hd' kl l.den (by omega) (by omega), hsz, capD]
     | some m => simp at hmx
   | some h =>
     obtain ⟨kh, rfl⟩ := h2
     simp only [highD] at o2 o3 o4 ⊢
     cases mx with
     | none => simp only [BIs] at h3; subst h3; simp [run_slice_lh w t a len cap hd' kl kh l.den h.den (by omega) (by omega) (by omega), hsz, capD]
     | some m =>
       obtain ⟨km, rfl⟩ := h3
       simp only [mxOk] at o4
       simp [run_slice_lhm w t a len cap hd' kl kh km l.den h.den m.den (by omega) (by omega) (by omega) (by omega), hsz, capD]
theorem Rd.part {α : Type} {Z : Nat → Prop} {sz : Nat} {r : α → List Value → Prop} {s : Sl} {xs : List α} (h : Rd w Z sz r s xs) (lo hi mx : Option IE) (o1 : 0 ≤ lowD lo) (o2 : lowD lo ≤ highD xs.length hi) (o3 : highD xs.length hi ≤ xs.length) (o4 : mxOk (highD xs.length hi) xs.length mx) :
    ∃ s' : Sl, s'.val = sliced s.a (lowD lo).toNat (highD xs.length hi).toNat (capD s.cap mx) sz ∧ Rd w Z sz r s' (partL xs lo hi) := by
 obtain ⟨hb, cs, h1, h2, h3⟩ := h
 have hle := hb.le
 have hcl := hb.capLe
 have hli := hb.lim
 generalize hl : lowD lo = l at *
 generalize hh : highD xs.length hi = hv at *
 obtain ⟨L, rfl⟩ := Int.eq_ofNat_of_zero_le o1
 obtain ⟨V, rfl⟩ := Int.eq_ofNat_of_zero_le (show 0 ≤ hv by omega)
 have hVL : L ≤ V := by omega
 have hVx : V ≤ xs.length := by omega
 have hcap : V ≤ capD s.cap mx ∧ capD s.cap mx ≤ s.cap := by
  unfold mxOk at o4
  unfold capD
  cases mx with
  | none => exact ⟨by simp only; omega, Nat.le_refl _⟩
  | some m => simp only at o4 ⊢; omega
 have hpl : partL xs lo hi = (xs.drop L).take (V - L) := by unfold partL; rw [hl, hh]; simp
 have hlen : (partL xs lo hi).length = V - L := by rw [hpl, List.length_take, List.length_drop]; omega
 refine ⟨⟨if capD s.cap mx = L then s.a else s.a.map (·.add (L * sz)), V - L, capD s.cap mx - L⟩, by simp [Sl.val, sliced], ⟨by rw [hlen], by rw [hlen]; simp only; omega, by simp only; omega, by rw [hlen]; omega⟩, (cs.drop (L * sz)).take ((V - L) * sz), ?_, ?_, ?_⟩
 ·rw [hlen, List.length_take, List.length_drop, h1, ← Nat.sub_mul]
  exact Nat.min_eq_left (Nat.mul_le_mul_right _ (by omega))
 ·by_cases h0 : V - L = 0
  ·left
   rw [h0]
   simp
  ·rcases h2 with h2 | ⟨b, off, ha, hz, hc⟩
   ·left
    rw [h2]
    simp
   ·right
    have hne : ¬ capD s.cap mx = L := by omega
    refine ⟨b, off + L * sz, by simp only [if_neg hne, ha, Option.map_some, add_plain], hz, fun j v hv => ?_⟩
    rw [List.getElem?_take] at hv
    split at hv
    ·rw [List.getElem?_drop] at hv
     rw [Nat.add_assoc]
     exact hc _ _ hv
    ·cases hv
 ·intro i hii
  rw [hlen] at hii
  rw [chunk_part (n := 0) hii]
  have : (partL xs lo hi)[i]'(by rw [hlen]; exact hii) = xs[L + i] := by
   simp only [hpl]
   rw [List.getElem_take, List.getElem_drop]
  rw [this]
  exact h3 _ _
theorem sliceE_sound (hT : TT.ok P T) (hh : Hp E ρ H G w) {n : Nat} {ev : Operand → SV} {t : TypeId} {x : Operand} {lo hi mx : Option Operand} {ob : Unit → Prop} {v : SV} {G' : List FE} (h : sliceE T G n ev t x lo hi mx = some (ob, v, G')) (ho : ob ())
    (hmx : mx.isSome = true → hi.isSome = true) (hfr : Fresh E n H G) (o : Oper) (hop : o.op = .slice t x lo hi mx) :
    ∃ ρ', Hp E ρ' H G' w ∧ (∀ id f, findE G id = some f → ∃ f', findE G' id = some f' ∧ f'.c = f.c ∧ Fk ρ f ρ' f') ∧ ∀ ρ'', Agr ρ' ρ'' H G' → Agr ρ ρ'' H G ∧ ∀ A : Act, (∀ x, A.eval x = (ev x).den ρ'') → (execOp A.eval o).run P w = .ok (.value (v.den ρ'')) w := by
 unfold sliceE at h
 split at h
 ·rename_i id l1 h1 m1 hx hlo hhi hmxv
  split at h
  ·rename_i f te sz z hf hl
   split at h
   ·rename_i e y j hc hj
    cases hs : nBeq j.size e.size with
    | false => rw [hs] at h; cases h
    | true =>
      rw [hs] at h
      have hs := nBeq_eq hs
      cases h
      obtain ⟨o1, o2, o3, o4⟩ := ho
      obtain ⟨hm, hid⟩ := findE_mem hf
      have hrd := FE.reads (hh.facts f hm) hc
      obtain ⟨s', hs', hr'⟩ := hrd.part l1 h1 m1 o1 o2 o3 o4
      have hp := hh.pos f hm e y hc
      obtain ⟨d, hd, hsd⟩ := (TT.look_ok hT hl).under
      cases d <;> simp [Sh.of] at hsd
      subst hsd
      have hbd := hrd.bd
      have hle := hbd.le
      -- the run
      have run : ∀ (w : World) (A : Act) (ρ'' : Nm), ρ''.s id = ρ.s id → ρ''.s n = s' → (∀ x, A.eval x = (ev x).den ρ'') → (execOp A.eval o).run P w = .ok (.value ((SV.fv n).den ρ'')) w := by
       intro w A ρ'' e1 e2 hA
       unfold execOp
       rw [hop]
       have b1 := bound_den hlo A hA
       have b2 := bound_den hhi A hA
       have b3 := bound_den hmxv A hA
       have hmm : m1.isSome = true → h1.isSome = true := by
        intro hq
        have hq' : mx.isSome = true := by
         cases mx with
         | none => simp only [boundV] at hmxv; cases hmxv; simp at hq
         | some _ => rfl
        have := hmx hq'
        cases hi with
        | none => simp at this
        | some q =>
          simp only [boundV] at hhi
          split at hhi
          ·cases hhi; rfl
          ·cases hhi
       rw [hid] at hbd hs'
       have hn := hbd.len
       have := run_slice_bounds hd (TT.look_ok hT hj) (ρ.s id).a (y ()).length (ρ.s id).cap (by rw [hid] at hle; exact hle) l1 h1 m1 _ _ _ b1 b2 b3 o1 o2 o3 o4 hmm w
       simp only [hA, hx, SV.den, e1, e2, hs', Sem.run_bind]
       simp only [Sl.val, hn]
       rw [this, hs]
       rfl
      have share : ∀ (G0 : List FE), Hp E ρ H G0 w → (∀ ρ'', Agr ρ ρ'' H G0 → Agr ρ ρ'' H G) → Zok E ρ H G0 w f.al (f.foot ρ) → (∀ g ∈ G0, g.id ≠ n ∧ noN n g.c = true) → (∀ id f, findE G id = some f → ∃ f', findE G0 id = some f' ∧ f'.c = f.c ∧ Fk ρ f ρ f') →
          ∃ ρ', Hp E ρ' H (⟨n, false, 0, f.al, .rows e (fun u => partL (y u) l1 h1)⟩ :: G0) w ∧ (∀ id f', findE G id = some f' → ∃ f'', findE (⟨n, false, 0, f.al, .rows e (fun u => partL (y u) l1 h1)⟩ :: G0) id = some f'' ∧ f''.c = f'.c ∧ Fk ρ f' ρ' f'') ∧ ∀ ρ'', Agr ρ' ρ'' H (⟨n, false, 0, f.al, .rows e (fun u => partL (y u) l1 h1)⟩ :: G0) → Agr ρ ρ'' H G ∧ ∀ A : Act, (∀ x, A.eval x = (ev x).den ρ'') → (execOp A.eval o).run P w = .ok (.value ((SV.fv n).den ρ'')) w := by
       intro G0 hh0 hr0 hz hne hfd
       obtain ⟨k1, k2, _⟩ := hh0.share (f := ⟨n, false, 0, f.al, .rows e (fun u => partL (y u) l1 h1)⟩) (hfr.to hne) rfl rfl hp hz hr'
       refine ⟨_, k1, fun id' f' hf' => ?_, fun ρ'' hr => ?_⟩
       ·obtain ⟨f'', r1, r2, r3⟩ := hfd id' f' hf'
        have hne2 : n ≠ id' := fun e0 => hfr.G f' (findE_mem hf').1 (by rw [(findE_mem hf').2, e0])
        have hfid : f''.id = id' := (findE_mem r1).2
        have hne' : f''.id ≠ n := by rw [hfid]; exact Ne.symm hne2
        exact ⟨f'', by simp only [findE, beq_false' hne2]; exact r1, r2, r3.names (FE.foot_names (by rfl) (by simp [Nm.setS, hne']) (by simp [Nm.setS, hne']))⟩
       obtain ⟨q1, q2⟩ := k2 ρ'' hr
       have q3 := hr0 ρ'' q1
       exact ⟨q3, fun A hA => run w A ρ'' (by rw [← hid]; exact (q3.2 f hm).2) q2 hA⟩
      cases hown : f.own with
      | false =>
        have hz := hh.zok hm hc (hh.sep hm)
        rw [hown] at hz
        exact share G hh (fun _ h => h) hz hfr.g2 fun id' f' hf' => ⟨f', hf', rfl, Fk.refl _ _⟩
      | true =>
        obtain ⟨k1, k2⟩ := hh.freeze hf hc
        refine share _ k1 k2 ?_ ?_ ?_
        ·refine ⟨fun k hk => hh.foot_lt hm hk, fun e' he => hh.apart e' he f hm, fun g hg k hk hk2 => ?_, fun k hk => hh.al f hm k hk⟩
         have hxf : ∀ k, ¬ (V.freeze f).excl ρ k := by
          intro k hk
          unfold FE.excl at hk
          simp only [V.freeze] at hk
          rw [hc] at hk
          cases hk.1
         -- an entry that is left and claims k is not f
         have key : ∀ {l : List FE}, l.Pairwise (Sep ρ) → findE l f.id = some f → g ∈ replE l (V.freeze f) → g = V.freeze f ∨ Sep ρ g f ∨ Sep ρ f g := by
          intro l
          induction l with
          | nil => intro _ h _; cases h
          | cons q l ih =>
            intro hp hq hg
            simp only [findE] at hq
            simp only [replE] at hg
            obtain ⟨p1, p2⟩ := List.pairwise_cons.1 hp
            rw [show (V.freeze f).id = f.id from rfl] at hg
            cases hb : nBeq q.id f.id <;> rw [hb] at hq hg
            ·rcases List.mem_cons.1 hg with rfl | hg
             ·exact .inr (.inl (p1 f (findE_mem hq).1))
             ·exact ih p2 hq hg
            ·cases hq
             rcases List.mem_cons.1 hg with rfl | hg
             ·exact .inl rfl
             ·exact .inr (.inr (p1 g hg))
         rcases key hh.alone (by rw [hid]; exact hf) hg with rfl | hs | hs
         ·exact hxf k hk
         ·exact (hs k).1 hk hk2
         ·exact (hs k).2 hk hk2
        ·intro g hg
         rcases mem_replE hg with rfl | hg
         ·exact hfr.g2 f hm
         ·exact hfr.g2 g hg
        ·intro id' f' hf'
         by_cases hi : id = id'
         ·subst hi
          rw [hf] at hf'
          cases hf'
          have := find_repl (f := V.freeze f) (f0 := f) (l := G) (by rw [show (V.freeze f).id = f.id from rfl, hid]; exact hf)
          rw [show (V.freeze f).id = f.id from rfl, hid] at this
          exact ⟨_, this, rfl, Fk.freeze _ _⟩
         ·exact ⟨f', by rw [find_repl_ne (by rw [show (V.freeze f).id = f.id from rfl, hid]; exact hi)]; exact hf', rfl, Fk.refl _ _⟩
   ·cases h
  ·cases h
 ·cases h
end part
end
section
structure Src (α : Type) where
 x : Unit → List α
 ob : List (Unit → Prop)
 ids : List Nat
def srcE (H : List Ent) (G : List FE) (e : Shp) : SV → Option (Src e.D)
 | .val (.slice none 0 0) => some ⟨fun _ => [], [], []⟩
 | .fv id => match findE G id with
   | some f => match f.c with
     | .rows e' y => match shEq e' e with
       | true => some ⟨fun u => convL e' e (y u), [], [id]⟩
       | false => none
     | _ => none
   | none => none
 | .osl b o m cap => match cellsE H b with
   | some cs => match nBle m cap && nBle cap 1000000 && nBle o (lenL cs) with
     | true => match decN (fun l => dec H G e l) m (dropL o cs) with
       | some d => match d.bs with
         | [] => some ⟨d.x, d.ob, d.ids⟩
         | _ => none
       | none => none
     | false => none
   | none => none
 | _ => none
def frzIds : List FE → List Nat → List FE
 | G, [] => G
 | G, id :: l => match findE G id with
   | some f => match f.c with
     | .rows _ _ => frzIds (replE G (freeze f)) l
     | _ => frzIds G l
   | none => frzIds G l
def alsOf (G : List FE) : List Nat → List Nat
 | [] => []
 | id :: l => match findE G id with
   | some f => catN f.al (alsOf G l)
   | none => alsOf G l
def allSh (G : List FE) : List Nat → Bool
 | [] => true
 | id :: l => (match findE G id with
   | some f => !f.own && (match f.c with | .rows _ _ => true | _ => false)
   | none => false) && allSh G l
def obApp {α : Type} (by_ : Nat) (y z : Unit → List α) : Unit → Prop := fun u => ((y u).length + (z u).length) * by_ ≤ 140737488355328 ∧ (y u).length + (z u).length ≤ 140737488355328
def keptG (e : Shp) (G : List FE) (ids : List Nat) : List FE := match flat e with
 | true => G
 | false => frzIds G ids
def appE (T : TT) (Y : TypeId → Option Nat) (S : TypeId → Option Shp) (H : List Ent) (G : List FE) (n : Nat) (t : TypeId) (s x : SV) : Option (List (Unit → Prop) × List FE) :=
 match TT.look T t with
 | some ⟨.slice te, _, _⟩ => match TT.look T te, Y te with
   | some j, some b => match s with
     | .val (.slice none 0 0) => match S te with
       | some e => match nBeq j.size e.size && nBlt 0 e.size && nBeq (lenL j.zero) j.size with
         | true => match srcE H G e x with
           | some d0 => match srcE H (keptG e G d0.ids) e x with
             | some d => match flat e with
               | true => some (obApp b (fun _ => ([] : List e.D)) d.x :: d.ob, ⟨n, true, te, [], .rows e (fun u => [] ++ d.x u)⟩ :: keptG e G d0.ids)
               | false => match allSh (keptG e G d0.ids) d.ids with
                 | true => some (obApp b (fun _ => ([] : List e.D)) d.x :: d.ob, ⟨n, true, te, alsOf (keptG e G d0.ids) d.ids, .rows e (fun u => [] ++ d.x u)⟩ :: keptG e G d0.ids)
                 | false => none
             | none => none
           | none => none
         | false => none
       | none => none
     | .fv id => match findE G id with
       | some f0 => match f0.c with
         | .rows e y0 => match nBeq j.size e.size && nBlt 0 e.size && nBeq (lenL j.zero) j.size with
           | true => match srcE H G e x with
             | some d0 => match findE (keptG e G d0.ids) id, srcE H (keptG e G d0.ids) e x with
               | some f, some d => match f.own && nBeq f.t te, f.c with
                 | true, .rows e2 y => match shEq e2 e with
                   | true => match flat e with
                     | true => some (obApp b (fun u => convL e2 e (y u)) d.x :: d.ob, ⟨n, true, te, f.al, .rows e (fun u => convL e2 e (y u) ++ d.x u)⟩ :: replE (keptG e G d0.ids) (deadE f))
                     | false => match allSh (keptG e G d0.ids) d.ids with
                       | true => some (obApp b (fun u => convL e2 e (y u)) d.x :: d.ob, ⟨n, true, te, catN f.al (alsOf (keptG e G d0.ids) d.ids), .rows e (fun u => convL e2 e (y u) ++ d.x u)⟩ :: replE (keptG e G d0.ids) (deadE f))
                       | false => none
                   | false => none
                 | _, _ => none
               | _, _ => none
             | none => none
           | false => none
         | _ => none
       | none => none
     | _ => none
   | _, _ => none
 | _ => none
section zap
variable {P : Program} (w : World)
theorem mul_small {m b : Nat} (hb : m * b ≤ 140737488355328) : ¬ (281474976710656 < (m : Int) * (b : Int)) := by
 rw [← Int.natCast_mul]; omega
theorem run_z_room (t ti ty e : TypeId) (i : TypeInfo) (z : Value) (k : IntKind) (ht : P.underlying t = some (.slice e)) (hti : P.underlying ti = some (.int k)) (hi : P.info? e = some i) (hz : i.zero = some z)
    (g sLen sCap m : Nat) (cur : Array Value) (hg : w.heap[g]? = some (.cells cur e (0, 0))) (hm : m ≤ 140737488355328) (hb : m * i.bytes ≤ 140737488355328) (hroom : sLen + m ≤ sCap) (h1 : ∀ u ∈ (Builtin.zeroCells z.cells m).toList, u.oneCell' = true) (hpos : 0 < m * i.size)
    (hfit : sLen * i.size + (Builtin.zeroCells z.cells m).toList.length ≤ cur.size) :
    (Builtin.append_ #[t, ti] ty #[.slice (some ⟨g, 0, none⟩) sLen sCap, .int .i64 m]).run P w = .ok (.slice (some ⟨g, 0, none⟩) (sLen + m) sCap) (w.setRow g (cur.toList.take (sLen * i.size) ++ (Builtin.zeroCells z.cells m).toList ++ cur.toList.drop (sLen * i.size + (Builtin.zeroCells z.cells m).toList.length)).toArray) := by
 have hst := run_storeCells_at P g (sLen * i.size) e (Builtin.zeroCells z.cells m).toList 0 cur w hg (by simpa only [Nat.add_zero] using hfit) h1
 simp only [Nat.add_zero] at hst
 generalize (w.setRow g (cur.toList.take (sLen * i.size) ++ (Builtin.zeroCells z.cells m).toList ++ cur.toList.drop (sLen * i.size + (Builtin.zeroCells z.cells m).toList.length)).toArray) = W at hst ⊢
 have hw : IntKind.i64.wrap (m : Int) = m := by rw [IntKind.wrap_i64]; omega
 have hb' := mul_small hb
 have hne : ¬ (m * i.size = 0) := by omega
 have hn0 : ¬ ((m : Int) < 0) := by omega
 have hA : ∀ w, (asIntOf (.int .i64 (m : Int))).run P w = .ok (.i64, (m : Int)) w := fun w => by simp [asIntOf]
 simp [Builtin.append_, run_underlying ht, run_underlying hti, sizeOf, typeInfo, hi, zeroValue, hz, asInt, hA, hw, hb', hroom, hne, hn0, Addr.add_lit, hst]
theorem run_z_none (t ti ty e : TypeId) (i : TypeInfo) (k : IntKind) (ht : P.underlying t = some (.slice e)) (hti : P.underlying ti = some (.int k)) (hi : P.info? e = some i)
    (a : Option Addr) (sLen sCap : Nat) (hroom : sLen ≤ sCap) :
    (Builtin.append_ #[t, ti] ty #[.slice a sLen sCap, .int .i64 (0 : Nat)]).run P w = .ok (.slice a sLen sCap) w := by
 have hw : IntKind.i64.wrap ((0 : Nat) : Int) = 0 := by rw [IntKind.wrap_i64]; omega
 have hA : ∀ w, (asIntOf (.int .i64 ((0 : Nat) : Int))).run P w = .ok (.i64, ((0 : Nat) : Int)) w := fun w => by simp [asIntOf]
 have hA' : ∀ w, (asIntOf (.int .i64 0)).run P w = .ok (.i64, 0) w := fun w => by simp [asIntOf]
 have hw' : IntKind.i64.wrap 0 = 0 := hw
 cases a <;> simp [Builtin.append_, run_underlying ht, run_underlying hti, sizeOf, typeInfo, hi, asInt, hA', hw', hroom, Addr.add_lit, storeCells]
theorem run_z_grow (t ti ty e : TypeId) (i : TypeInfo) (z : Value) (k : IntKind) (ht : P.underlying t = some (.slice e)) (hti : P.underlying ti = some (.int k)) (hi : P.info? e = some i) (hz : i.zero = some z) (base : Option Addr) (sLen sCap m : Nat) (olds : List Value)
    (hold : (Builtin.firstCells i.size sLen (.slice base sLen sCap)).run P w.drew = .ok olds.toArray w.drew) (hm : m ≤ 140737488355328) (hb : m * i.bytes ≤ 140737488355328) (hpos : 0 < m * i.size)
    (hg : sCap < sLen + m) (h63 : ((sLen + m : Nat) : Int) ≤ 9223372036854775807) (hfit : Builtin.nextslicecap (sLen + m) sCap * i.bytes ≤ 281474976710656) :
    (Builtin.append_ #[t, ti] ty #[.slice base sLen sCap, .int .i64 m]).run P w =
     .ok (.slice (some ⟨w.heap.size, 0, none⟩) (sLen + m) (grownCap w (sLen + m) sCap e))
      (w.drew.alloc (.cells (olds.toArray ++ (Builtin.zeroCells z.cells m).toList.toArray ++ Builtin.zeroCells z.cells (grownCap w (sLen + m) sCap e - (sLen + m))) e)) := by
 have hn : ¬ (sLen + m ≤ sCap) := by omega
 have h63' : ¬ (9223372036854775807 < ((sLen : Int) + (m : Int))) := by omega
 have h48' : ¬ (281474976710656 < Builtin.nextslicecap (sLen + m) sCap * i.bytes) := by omega
 have hw : IntKind.i64.wrap (m : Int) = m := by rw [IntKind.wrap_i64]; omega
 have hb' := mul_small hb
 have hne : ¬ (m * i.size = 0) := by omega
 have hn0 : ¬ ((m : Int) < 0) := by omega
 have hmx : max (m : Int) 0 = m := by omega
 have hA : ∀ w, (asIntOf (.int .i64 (m : Int))).run P w = .ok (.i64, (m : Int)) w := fun w => by simp [asIntOf]
 simp [Builtin.append_, run_underlying ht, run_underlying hti, sizeOf, typeInfo, zeroValue, hi, hz, asInt, hA, hw, hb', hn, hne, hn0, hmx, h63', h48', Question.forced, hold, newRow, grownCap]
theorem run_append_genz (t ti ty e : TypeId) (i : TypeInfo) (z : Value) (k : IntKind) (size bytes : Nat) (ht : P.underlying t = some (.slice e)) (hti : P.underlying ti = some (.int k)) (hi : P.info? e = some i) (hz : i.zero = some z)
    (hsize : i.size = size) (hby : i.bytes = bytes) (hzs : z.cells.size = size) (hsz : 0 < size)
    (v : Value) (n : Nat) (xs : List Value) (hown : w.ownsRow 0 e size v n xs)
    (m : Nat) (h1 : ∀ u ∈ (Builtin.zeroCells z.cells m).toList, u.oneCell' = true)
    (h47 : n + m ≤ 140737488355328) (hbytes : (n + m) * bytes ≤ 140737488355328) :
    ∃ v' w', (Builtin.append_ #[t, ti] ty #[v, .int .i64 m]).run P w = .ok v' w' ∧ w'.ownsRow 0 e size v' (n + m) (xs ++ (Builtin.zeroCells z.cells m).toList) ∧ w.grownBy w' v.ownBlock ∧ ∀ k, v'.ownBlock = some k → v.ownBlock = some k ∨ k = w.heap.size := by
 subst hsize
 subst hby
 have h63 : n + m ≤ maxLen := by simp only [maxLen]; omega
 have hsmall : n + m ≤ 9223372036854775807 := by omega
 have hm47 : m ≤ 140737488355328 := by omega
 have hmb : m * i.bytes ≤ 140737488355328 := Nat.le_trans (Nat.mul_le_mul_right _ (by omega)) hbytes
 have hl : (Builtin.zeroCells z.cells m).toList.length = m * i.size := by rw [Array.length_toList, size_zeroCells, hzs]
 generalize hnews : (Builtin.zeroCells z.cells m).toList = news at hl h1
 have hlen : (xs ++ news).length = (n + m) * i.size := by rw [List.length_append, hown.1, hl, Nat.add_mul]
 by_cases hm : m = 0
 ·subst hm
  have hn : news = [] := List.eq_nil_of_length_eq_zero (by simpa using hl)
  subst hn
  refine ⟨v, w, ?_, by simpa using hown, ⟨rfl, rfl, rfl, Nat.le_refl _, fun _ _ _ => rfl⟩, fun k hk => .inl hk⟩
  rcases hown.2 with ⟨rfl, rfl⟩ | ⟨g, cap, cur, rfl, _, _, hnc, _⟩
  ·exact run_z_none w t ti ty e i k ht hti hi none 0 0 (Nat.le_refl _)
  ·exact run_z_none w t ti ty e i k ht hti hi _ n cap hnc
 have hpos : 0 < m * i.size := Nat.mul_pos (by omega) hsz
 have grown : ∀ (old : Nat), old < n + m → ∀ (row : Option Nat),
     (w.drew.alloc (.cells (xs.toArray ++ news.toArray ++ Builtin.zeroCells z.cells (grownCap w (n + m) old e - (n + m))) e)).ownsRow 0 e i.size
      (.slice (some ⟨w.heap.size, 0, none⟩) (n + m) (grownCap w (n + m) old e)) (n + m) (xs ++ news) ∧
     w.grownBy (w.drew.alloc (.cells (xs.toArray ++ news.toArray ++ Builtin.zeroCells z.cells (grownCap w (n + m) old e - (n + m))) e)) row := by
  intro old ho row
  have hge := grownCap_ge w (n + m) old e
  have hcm : grownCap w (n + m) old e ≤ maxLen := grownCap_le_maxLen w (n + m) old e h63
  refine ⟨⟨hlen, .inr ⟨w.heap.size, _, _, rfl, Nat.zero_le _, heap_alloc_new w.drew _, hge, hcm, ?_, ?_⟩⟩, ⟨rfl, rfl, rfl, by simp, fun k hk _ => heap_alloc_old w.drew _ hk⟩⟩
  ·simp only [Array.size_append, List.size_toArray, size_zeroCells, hzs, hown.1, hl, ← Nat.add_mul]
   congr 1
   omega
  ·simp only [Array.toList_append, List.append_assoc]
   rw [← List.append_assoc, ← hlen]
   exact List.take_left
 rcases hown.2 with ⟨rfl, rfl⟩ | ⟨g, cap, cur, rfl, hbg, hg, hnc, hcm, hcs, htake⟩
 ·have hx : xs = [] := List.eq_nil_of_length_eq_zero (by simpa using hown.1)
  subst hx
  have hr := run_z_grow (P := P) w t ti ty e i z k ht hti hi hz none 0 0 m [] (by simp [Builtin.firstCells]) hm47 hmb hpos (by omega) (by omega) (growslice_fits (by omega) hbytes)
  rw [hnews] at hr
  have hgr := grown 0 (by omega) (Value.ownBlock (.slice none 0 0))
  refine ⟨_, _, hr, hgr.1, hgr.2, fun k hk => ?_⟩
  simp [Value.ownBlock] at hk
  exact .inr hk.symm
 ·by_cases hroom : n + m ≤ cap
  ·have hfit : n * i.size + news.length ≤ cur.size := by rw [hl, hcs, ← Nat.add_mul]; exact Nat.mul_le_mul_right _ hroom
   have hr := run_z_room (P := P) w t ti ty e i z k ht hti hi hz g n cap m cur hg hm47 hmb hroom (by rw [hnews]; exact h1) hpos (by rw [hnews]; exact hfit)
   rw [hnews] at hr
   refine ⟨_, _, hr, ⟨hlen, .inr ⟨g, cap, _, rfl, hbg, setRow_heap w g cur _ e _ hg, hroom, hcm, ?_, ?_⟩⟩, ⟨rfl, rfl, rfl, by simp, fun k _ hk => setRow_other w g k _ (fun e => hk (by simp [Value.ownBlock, e]))⟩, fun k hk => .inl hk⟩
   ·simp only [List.size_toArray, List.length_append, List.length_take, List.length_drop, Array.length_toList]
    omega
   ·rw [htake, ← hlen]
    exact List.take_left
  ·have holds : ∀ j u, xs[j]? = some u → w.cell? ((⟨g, 0, none⟩ : Addr).add j) = some u := hown.cells (g := g) rfl
   have hr := run_z_grow (P := P) w t ti ty e i z k ht hti hi hz (some ⟨g, 0, none⟩) n cap m xs (run_firstCells_some _ _ _ _ _ _ _ hown.1 holds) hm47 hmb hpos (by omega) (by omega) (growslice_fits (by omega) hbytes)
   rw [hnews] at hr
   have hgr := grown cap (by omega) (Value.ownBlock (.slice (some ⟨g, 0, none⟩) n cap))
   refine ⟨_, _, hr, hgr.1, hgr.2, fun k hk => ?_⟩
   simp [Value.ownBlock] at hk
   exact .inr hk.symm
end zap
section app
variable {E : Env} {ρ : Nm} {w : World} {H : List Ent} {G : List FE} {P : Program} {T : TT}
theorem frz_sound : ∀ (ids : List Nat) (G : List FE), Hp E ρ H G w → Hp E ρ H (frzIds G ids) w ∧ ∀ ρ'', Agr ρ ρ'' H (frzIds G ids) → Agr ρ ρ'' H G
 | [], G, hh => ⟨hh, fun _ h => h⟩
 | id :: l, G, hh => by
   unfold frzIds
   split
   ·rename_i f hf
    split
    ·rename_i e x hc
     obtain ⟨k1, k2⟩ := hh.freeze hf hc
     obtain ⟨k3, k4⟩ := frz_sound l _ k1
     exact ⟨k3, fun ρ'' hr => k2 ρ'' (k4 ρ'' hr)⟩
    ·exact frz_sound l G hh
   ·exact frz_sound l G hh
theorem kept_sound (hh : Hp E ρ H G w) (e : Shp) (ids : List Nat) : Hp E ρ H (keptG e G ids) w ∧ ∀ ρ'', Agr ρ ρ'' H (keptG e G ids) → Agr ρ ρ'' H G := by
 unfold keptG
 split
 ·exact ⟨hh, fun _ h => h⟩
 ·exact frz_sound ids G hh
theorem mem_allSh : ∀ {ids : List Nat}, allSh G ids = true → ∀ id ∈ ids, ∃ f, findE G id = some f ∧ f.own = false ∧ ∃ e x, f.c = .rows e x
 | [], _, id, h => by cases h
 | i :: l, h, id, hm => by
   simp only [allSh, Bool.and_eq_true] at h
   rcases List.mem_cons.1 hm with rfl | hm
   ·have h1 := h.1
    split at h1
    ·rename_i f hf
     simp only [Bool.and_eq_true, Bool.not_eq_true'] at h1
     refine ⟨f, hf, h1.1, ?_⟩
     have h2 := h1.2
     split at h2
     ·rename_i e x hc; exact ⟨e, x, hc⟩
     ·cases h2
    ·cases h1
   ·exact mem_allSh h.2 id hm
theorem mem_alsOf : ∀ {ids : List Nat} {id : Nat} {f : FE} {j : Nat}, id ∈ ids → findE G id = some f → j ∈ f.al → j ∈ alsOf G ids
 | i :: l, id, f, j, hm, hf, hj => by
   unfold alsOf
   rcases List.mem_cons.1 hm with rfl | hm
   ·rw [hf]
    simp only [catN_eq]
    exact List.mem_append_left _ hj
   ·split
    ·rw [catN_eq]; exact List.mem_append_right _ (mem_alsOf hm hf hj)
    ·exact mem_alsOf hm hf hj
theorem zok_ids (hh : Hp E ρ H G w) {ids : List Nat} (h : allSh G ids = true) : Zok E ρ H G w (alsOf G ids) (DFoot ρ G ids []) := by
 have one : ∀ k, DFoot ρ G ids [] k → ∃ id ∈ ids, ∃ f, findE G id = some f ∧ f ∈ G ∧ f.own = false ∧ (∃ e x, f.c = .rows e x) ∧ f.foot ρ k := by
  rintro k (⟨id, hid, f, hf, hk⟩ | ⟨b, hb, _⟩)
  ·obtain ⟨f', hf', h1, h2⟩ := mem_allSh h id hid
   rw [hf] at hf'
   cases hf'
   exact ⟨id, hid, f, hf, (findE_mem hf).1, h1, h2, hk⟩
  ·cases hb
 refine ⟨fun k hk => ?_, fun e he hk => ?_, fun g hg k hx hk => ?_, fun k hk => ?_⟩
 ·obtain ⟨id, hid, f, hf, hm, ho, ⟨e, x, hc⟩, hk⟩ := one k hk
  exact hh.foot_lt hm hk
 ·obtain ⟨id, hid, f, hf, hm, ho, _, hk⟩ := one _ hk
  exact hh.apart e he f hm hk
 ·obtain ⟨id, hid, f, hf, hm, ho, ⟨e, x, hc⟩, hk⟩ := one k hk
  have hz := hh.zok hm hc (hh.sep hm)
  rw [ho] at hz
  exact hz.G g hg k hx hk
 ·obtain ⟨id, hid, f, hf, hm, ho, _, hk⟩ := one k hk
  rcases hh.al f hm k hk with h | ⟨j, hj, h⟩
  ·exact .inl h
  ·exact .inr ⟨j, mem_alsOf hid hf hj, h⟩
structure SrcOk (ρ : Nm) (w : World) (G : List FE) (e : Shp) (v : SV) (d : Src e.D) : Prop where
 ex : ∃ s news, v.den ρ = Sl.val s ∧ s.n = (d.x ()).length ∧ news.length = (d.x ()).length * e.size ∧ Reads w (fun _ => True) s.a news ∧
  ∀ i (h : i < (d.x ()).length), Shp.rep w (DFoot ρ G d.ids []) e (d.x ())[i] (chunk news i e.size)
theorem src_sound (hh : Hp E ρ H G w) {e : Shp} {v : SV} {d : Src e.D} (h : srcE H G e v = some d) (ho : ∀ p ∈ d.ob, p ()) : SrcOk ρ w G e v d := by
 unfold srcE at h
 split at h
 ·cases h
  exact ⟨⟨none, 0, 0⟩, [], by simp only [SV.den, Sl.val], rfl, by simp, .inl rfl, fun i hi => by simp at hi⟩
 ·rename_i id
  split at h
  ·rename_i f hf
   split at h
   ·rename_i e' y hc
    cases hq : shEq e' e with
    | false => rw [hq] at h; cases h
    | true =>
      rw [hq] at h
      have := shEq_eq hq
      subst this
      cases h
      obtain ⟨hm, hid⟩ := findE_mem hf
      obtain ⟨hb, cs, h1, h2, h3⟩ := FE.reads (hh.facts f hm) hc
      rw [hid] at hb h2
      have hz : ∀ k, f.foot ρ k → DFoot ρ G [id] [] k := fun k hk => .inl ⟨id, List.mem_cons_self, f, hf, hk⟩
      refine ⟨ρ.s id, cs, by simp only [SV.den], by simp only [convL_self]; exact hb.len, by simp only [convL_self]; exact h1, h2.mono (fun _ _ => trivial) (fun _ _ => rfl), ?_⟩
      simp only [convL_self]
      exact fun i hi => Shp.rep_mono hz (fun _ _ => rfl) e' _ _ (h3 i hi)
   ·cases h
  ·cases h
 ·rename_i b o m cap
  split at h
  ·rename_i cs hcs
   cases hq : nBle m cap && nBle cap 1000000 && nBle o (lenL cs) with
   | false => rw [hq] at h; cases h
   | true =>
     rw [hq] at h
     simp only [] at h
     split at h
     ·rename_i d1 hd1
      split at h
      ·rename_i hbs
       cases h
       obtain ⟨he, hme, hid, hce⟩ := mem_cellsE hcs
       obtain ⟨used, h4, h5, h6, h7⟩ := decN_sound (sz := e.size) (fun Z a vs h => Shp.rep_length e a vs h) (fun l d h ho => dec_sound hh e l d h ho) m _ _ hd1 ho
       have hb := hh.block ρ (Agr.refl _ _ _) he hme
       rw [hid, hce] at hb
       refine ⟨⟨some ⟨ρ.b b, o, none⟩, m, cap⟩, SV.dens ρ used, by simp only [SV.den, Sl.val], h5.symm, by rw [dens_length, h6, h5], ?_, ?_⟩
       ·have := Reads.of_block (w := w) (Z := fun _ => True) hb trivial o used.length
        simp only [List.toList_toArray] at this
        rw [← dens_drop, ← dens_take, ← dropL_eq, h4, List.take_left] at this
        exact this
       ·rw [hbs] at h7
        exact h7 _ fun k hk => hk
      ·cases h
     ·cases h
  ·cases h
 ·cases h
theorem run_append_gen (t ty e : TypeId) (i : TypeInfo) (z : Value) (size bytes : Nat) (ht : P.underlying t = some (.slice e)) (hi : P.info? e = some i) (hz : i.zero = some z)
    (hsize : i.size = size) (hby : i.bytes = bytes) (hzs : z.cells.size = size) (hsz : 0 < size)
    (v : Value) (n : Nat) (xs : List Value) (hown : w.ownsRow 0 e size v n xs)
    (s : Sl) (news : List Value) (hl : news.length = s.n * size) (hnews : Reads w (fun _ => True) s.a news) (h1 : ∀ u ∈ news, u.oneCell' = true)
    (h63 : n + s.n ≤ maxLen) (hbytes : (n + s.n) * bytes ≤ 140737488355328) :
    ∃ v' w', (Builtin.append_ #[t, t] ty #[v, s.val]).run P w = .ok v' w' ∧ w'.ownsRow 0 e size v' (n + s.n) (xs ++ news) ∧ w.grownBy w' v.ownBlock ∧ ∀ k, v'.ownBlock = some k → v.ownBlock = some k ∨ k = w.heap.size := by
 obtain ⟨a, m, c⟩ := s
 simp only [Sl.val] at *
 have nothing : m = 0 → a = none → ∃ v' w', (Builtin.append_ #[t, t] ty #[v, .slice a m c]).run P w = .ok v' w' ∧ w'.ownsRow 0 e size v' (n + m) (xs ++ news) ∧ w.grownBy w' v.ownBlock ∧ ∀ k, v'.ownBlock = some k → v.ownBlock = some k ∨ k = w.heap.size := by
  rintro rfl rfl
  have : news = [] := List.eq_nil_of_length_eq_zero (by simpa using hl)
  subst this
  refine ⟨v, w, ?_, by simpa using hown, ⟨rfl, rfl, rfl, Nat.le_refl _, fun _ _ _ => rfl⟩, fun k hk => .inl hk⟩
  rcases hown.2 with ⟨rfl, hn⟩ | ⟨g, cap, cur, rfl, _, _, hnc, _⟩
  ·simp [Builtin.append_, run_underlying ht, sizeOf, typeInfo, hi, Builtin.lenOf, Builtin.firstCells]
  ·simp [Builtin.append_, run_underlying ht, sizeOf, typeInfo, hi, Builtin.lenOf, Builtin.firstCells, hnc, storeCells]
 have some' : ∀ ad : Addr, a = some ad → (∀ j u, news[j]? = some u → w.cell? (ad.add j) = some u) → ∃ v' w', (Builtin.append_ #[t, t] ty #[v, .slice a m c]).run P w = .ok v' w' ∧ w'.ownsRow 0 e size v' (n + m) (xs ++ news) ∧ w.grownBy w' v.ownBlock ∧ ∀ k, v'.ownBlock = some k → v.ownBlock = some k ∨ k = w.heap.size := by
  rintro ad rfl hc
  obtain ⟨v', w', hr, k1, k2, k3⟩ := run_append_own (P := P) w 0 t ty e i z size bytes ht hi hz hsize hby hzs hsz v n xs hown ad m c news hl hc h1 h63 hbytes (Nat.zero_le _)
  refine ⟨v', w', hr, k1, k2, fun k hk => ?_⟩
  subst hsize
  subst hby
  have hm63 : n + m ≤ 9223372036854775807 := by simp only [maxLen] at h63; omega
  rcases hown.2 with ⟨rfl, rfl⟩ | ⟨g, cap, cur, rfl, hbg, hg, hnc, hcm, hcs, htake⟩
  ·by_cases hm : m = 0
   ·rw [k3.2 ⟨rfl, hm⟩] at hk
    simp [Value.ownBlock] at hk
   ·have hr2 := run_append_nil (P := P) w t ty e i z ht hi hz ad m c news hl hc (by omega) (by omega) (by have hb := hbytes; simp only [Nat.zero_add] at hb; omega)
    rw [hr2] at hr
    simp only [Result.ok.injEq] at hr
    rw [← hr.1] at hk
    simp [Value.ownBlock] at hk
    exact .inr hk.symm
  ·by_cases hroom : n + m ≤ cap
   ·have hfit : n * i.size + news.length ≤ cur.size := by rw [hl, hcs, ← Nat.add_mul]; exact Nat.mul_le_mul_right _ hroom
    have hr2 := run_append_room (P := P) w t ty e i ht hi g n cap cur hg ad m c news hl hc h1 hroom hfit
    rw [hr2] at hr
    simp only [Result.ok.injEq] at hr
    rw [← hr.1] at hk
    exact .inl hk
   ·have holds : ∀ j u, xs[j]? = some u → w.cell? ((⟨g, 0, none⟩ : Addr).add j) = some u := hown.cells (g := g) rfl
    have hr2 := run_append_grow (P := P) w t ty e i z ht hi hz ⟨g, 0, none⟩ n cap xs hown.1 holds ad m c news hl hc (by omega) (by omega) (growslice_fits (by omega) hbytes)
    rw [hr2] at hr
    simp only [Result.ok.injEq] at hr
    rw [← hr.1] at hk
    simp [Value.ownBlock] at hk
    exact .inr hk.symm
 rcases hnews with h | ⟨b, off, ha, _, hc⟩
 ·subst h
  have hm : m = 0 := by
   rcases Nat.mul_eq_zero.1 hl.symm with h | h
   ·exact h
   ·omega
  cases ha : a with
  | none => rw [← ha]; exact nothing hm ha
  | some ad => rw [← ha]; exact some' ad ha fun j u hu => by simp at hu
 ·exact some' _ ha fun j u hu => by rw [add_plain]; exact hc j u hu
theorem one_of_chunks {α : Type} {r : α → List Value → Prop} {xs : List α} {cs : List Value} {sz : Nat} (hl : cs.length = xs.length * sz) (hsz : 0 < sz) (h : ∀ i (h : i < xs.length), r xs[i] (chunk cs i sz)) (h1 : ∀ a vs, r a vs → ∀ v ∈ vs, v.oneCell' = true) : ∀ u ∈ cs, u.oneCell' = true := by
 intro u hu
 obtain ⟨j, hj, rfl⟩ := List.getElem_of_mem hu
 have hi : j / sz < xs.length := by
  rw [hl] at hj
  exact Nat.div_lt_of_lt_mul (by rw [Nat.mul_comm]; exact hj)
 refine h1 _ _ (h (j / sz) hi) _ ?_
 unfold chunk
 refine List.mem_of_getElem? (i := j % sz) ?_
 rw [List.getElem?_take, if_pos (Nat.mod_lt _ hsz), List.getElem?_drop, Nat.mul_comm, Nat.div_add_mod, List.getElem?_eq_getElem hj]
theorem app_put (hE : E.ok) {G2 : List FE} (hh : Hp E ρ H G2 w) {n : Nat} (hfr : Fresh E n H G2) {te : TypeId} {e : Shp} (hsz : 0 < e.size)
    {v : Value} {y : List e.D} {Z0 : Nat → Prop} (hown : ∃ cs, w.ownsRow 0 te e.size v y.length cs ∧ ∀ i (h : i < y.length), Shp.rep w Z0 e y[i] (chunk cs i e.size))
    (hblk : ∀ k, v.ownBlock = some k → (E.may k ∨ E.B ≤ k) ∧ (∀ x ∈ H, ρ.b x.id ≠ k) ∧ (∀ g ∈ G2, ¬ g.foot ρ k))
    {x : List e.D} {news : List Value} (hl : news.length = x.length * e.size) {Z1 : Nat → Prop} (hrep : ∀ i (h : i < x.length), Shp.rep w Z1 e x[i] (chunk news i e.size))
    (h63 : y.length + x.length ≤ 140737488355328) {X : Sem Value} (hX : ∀ cs, w.ownsRow 0 te e.size v y.length cs → ∃ v' w', X.run P w = .ok v' w' ∧ w'.ownsRow 0 te e.size v' (y.length + x.length) (cs ++ news) ∧ w.grownBy w' v.ownBlock ∧ ∀ k, v'.ownBlock = some k → v.ownBlock = some k ∨ k = w.heap.size)
    {al : List Nat} {Z : Nat → Prop} (hbal : ∀ k, v.ownBlock = some k → E.B ≤ k ∨ ∃ j ∈ al, E.z0 j k) (hzok : Zok E ρ H G2 w al Z) (hzb : ∀ k, v.ownBlock = some k → ¬ Z k) (hsub : flat e = true ∨ ((∀ k, Z0 k → Z k) ∧ ∀ k, Z1 k → Z k)) {c : Unit → List e.D} (hc : c () = y ++ x) :
    ∃ v' w' s', X.run P w = .ok v' w' ∧ v' = Sl.val s' ∧ Hp E (ρ.setS n s' Z) H (⟨n, true, te, al, .rows e c⟩ :: G2) w' ∧ (∀ ρ'', Agr (ρ.setS n s' Z) ρ'' H (⟨n, true, te, al, .rows e c⟩ :: G2) → Agr ρ ρ'' H G2 ∧ ρ''.s n = s') ∧
      (∀ k, k < w.heap.size → v.ownBlock ≠ some k → w'.heap[k]? = w.heap[k]?) := by
 obtain ⟨cs, hcs, hrc⟩ := hown
 have hcsl := hcs.1
 obtain ⟨v', w', hr, k1, k2, k3⟩ := hX cs hcs
 have hlen : (c ()).length = y.length + x.length := by rw [hc, List.length_append]
 -- the new slice's head
 obtain ⟨s', hs', hcap⟩ : ∃ s' : Sl, v' = s'.val ∧ Bd s' (c ()).length := by
  rcases k1.2 with ⟨rfl, h0⟩ | ⟨g, cap, cur, rfl, _, _, h4, h5, _⟩
  ·exact ⟨⟨none, 0, 0⟩, rfl, ⟨by simp only; omega, by simp only; omega, by simp, by omega⟩⟩
  ·exact ⟨⟨some ⟨g, 0, none⟩, y.length + x.length, cap⟩, rfl, ⟨by simp only; omega, by simp only; omega, by simpa [maxLen] using h5, by omega⟩⟩
 subst hs'
 have hkeepB : BelowX E.B E.may w w' := ⟨k2.os, k2.tape, k2.output, k2.size, fun k hk hm => k2.block k (Nat.lt_of_lt_of_le hk hh.size) fun e0 => by rcases (hblk k e0.symm).1 with h | h; exact hm h; omega⟩
 have same : ∀ k, k < w.heap.size → v.ownBlock ≠ some k → w'.heap[k]? = w.heap[k]? := fun k hk hne => k2.block k hk fun e0 => hne e0.symm
 have hh' : Hp E ρ H G2 w' := hh.change (hE.keepX _ _ hh.keep hkeepB) k2.size (fun e0 he => same _ (hh.lt he) fun hk => (hblk _ hk).2.1 e0 he rfl) fun g hg k hk => same k (hh.foot_lt hg hk) fun hk2 => (hblk k hk2).2.2 g hg hk
 have hzs' : ∀ k, Z k → w'.heap[k]? = w.heap[k]? := fun k hk => same k (hzok.lt k hk) fun hk2 => hzb k hk2 hk
 have hsn : (ρ.setS n s' Z).s n = s' := by simp [Nm.setS]
 have hzn : (ρ.setS n s' Z).z n = Z := by simp [Nm.setS]
 have htop : ∀ k, (⟨n, true, te, al, .rows e c⟩ : FE).top (ρ.setS n s' Z) k → v.ownBlock = some k ∨ k = w.heap.size := by
  rintro k ⟨a, ha, rfl⟩
  rw [show (⟨n, true, te, al, .rows e c⟩ : FE).id = n from rfl, hsn] at ha
  exact k3 _ (by simp [Sl.val, Value.ownBlock, ha])
 have hfo : ∀ k, (⟨n, true, te, al, .rows e c⟩ : FE).foot (ρ.setS n s' Z) k → Z k ∨ v.ownBlock = some k ∨ k = w.heap.size := by
  intro k hk
  unfold FE.foot at hk
  simp only [hzn] at hk
  rcases hk with hk | ⟨_, hk⟩
  ·exact .inl hk
  ·exact .inr (htop k hk)
 have hex : ∀ k, (⟨n, true, te, al, .rows e c⟩ : FE).excl (ρ.setS n s' Z) k → v.ownBlock = some k ∨ k = w.heap.size := fun k hk => htop k hk.2
 obtain ⟨q1, q2⟩ := hh'.add ⟨n, true, te, al, .rows e c⟩ hfr s' Z (fun T => by simp) (by
  unfold FE.holds
  simp only [hzn, hsn]
  refine ⟨fun k hk => Nat.lt_of_lt_of_le (hzok.lt k hk) k2.size, hcap, ⟨cs ++ news, by rw [hlen]; exact k1, fun j hj => ?_⟩, ?_⟩
  ·rw [hlen] at hj
   have hw : ∀ (Z2 : Nat → Prop) (a : e.D) (vs : List Value), Shp.rep w Z2 e a vs → (flat e = true ∨ ∀ k, Z2 k → Z k) → Shp.rep w' Z e a vs := by
    intro Z2 a vs h hf
    rcases hf with hf | hf
    ·exact flat_rep e a vs hf h
    ·exact Shp.rep_mono (fun _ h => h) hzs' e a vs (Shp.rep_mono hf (fun _ _ => rfl) e a vs h)
   have hget : (c ())[j]'(by rw [hlen]; exact hj) = (y ++ x)[j]'(by rw [List.length_append]; exact hj) := by simp only [hc]
   rw [hget]
   by_cases hj1 : j < y.length
   ·rw [List.getElem_append_left hj1, chunk_append_left hcsl hj1]
    exact hw Z0 _ _ (hrc j hj1) (hsub.imp (fun h => h) fun h => h.1)
   ·rw [List.getElem_append_right (by omega)]
    have e0 : j = y.length + (j - y.length) := by omega
    have := chunk_append_right (cs := cs) (ds := news) (n := y.length) (sz := e.size) (i := j - y.length) hcsl
    rw [← e0] at this
    rw [this]
    exact hw Z1 _ _ (hrep (j - y.length) (by omega)) (hsub.imp (fun h => h) fun h => h.2)
  ·intro a ha hza
   have := htop a.block ⟨a, by rw [show (⟨n, true, te, al, .rows e c⟩ : FE).id = n from rfl, hsn]; exact ha, rfl⟩
   rcases this with h | h
   ·exact hzb _ h hza
   ·have := hzok.lt _ hza
    omega) (fun e' x' he => by cases he; exact hsz)
  (fun e0 he hk => by
   rcases hfo _ hk with h | h | h
   ·exact hzok.H e0 he h
   ·exact (hblk _ h).2.1 e0 he rfl
   ·have := hh.lt he; omega)
  (fun g hg k => ⟨fun hk hk2 => by
   rcases hex k hk with h | h
   ·exact (hblk k h).2.2 g hg hk2
   ·have := hh.foot_lt hg hk2; omega, fun hk hk2 => by
   rcases hfo k hk2 with h | h | h
   ·exact hzok.G g hg k hk h
   ·exact (hblk k h).2.2 g hg (FE.excl_foot hk)
   ·have := hh.foot_lt hg (FE.excl_foot hk); omega⟩)
  (fun k hk => by
   rcases hex k hk with h | h
   ·exact (hblk k h).1
   ·have := hh.size; exact .inr (by omega))
  (fun k hk => by
   rcases hfo k hk with h | h | h
   ·exact hzok.al k h
   ·exact hbal k h
   ·have := hh.size; exact .inl (by omega))
 exact ⟨s'.val, w', s', hr, rfl, q1, q2, same⟩
theorem app_core (hE : E.ok) {G2 : List FE} (hh : Hp E ρ H G2 w) {n : Nat} (hfr : Fresh E n H G2) {t te : TypeId} (ht : P.underlying t = some (.slice te)) {i : TypeInfo} (hi : P.info? te = some i) {z : Value} (hz : i.zero = some z) {e : Shp} (hsize : i.size = e.size) (hzs : z.cells.size = e.size) (hsz : 0 < e.size)
    (ty : TypeId) {v : Value} {y : List e.D} {Z0 : Nat → Prop} (hown : ∃ cs, w.ownsRow 0 te e.size v y.length cs ∧ ∀ i (h : i < y.length), Shp.rep w Z0 e y[i] (chunk cs i e.size))
    (hblk : ∀ k, v.ownBlock = some k → (E.may k ∨ E.B ≤ k) ∧ (∀ x ∈ H, ρ.b x.id ≠ k) ∧ (∀ g ∈ G2, ¬ g.foot ρ k))
    {s : Sl} {x : List e.D} (hs : s.n = x.length) {news : List Value} (hl : news.length = x.length * e.size) (hnews : Reads w (fun _ => True) s.a news) {Z1 : Nat → Prop} (hrep : ∀ i (h : i < x.length), Shp.rep w Z1 e x[i] (chunk news i e.size))
    (h63 : y.length + x.length ≤ 140737488355328) (hbytes : (y.length + x.length) * i.bytes ≤ 140737488355328)
    {al : List Nat} {Z : Nat → Prop} (hbal : ∀ k, v.ownBlock = some k → E.B ≤ k ∨ ∃ j ∈ al, E.z0 j k) (hzok : Zok E ρ H G2 w al Z) (hzb : ∀ k, v.ownBlock = some k → ¬ Z k) (hsub : flat e = true ∨ ((∀ k, Z0 k → Z k) ∧ ∀ k, Z1 k → Z k)) {c : Unit → List e.D} (hc : c () = y ++ x) :
    ∃ v' w' s', (Builtin.append_ #[t, t] ty #[v, s.val]).run P w = .ok v' w' ∧ v' = Sl.val s' ∧ Hp E (ρ.setS n s' Z) H (⟨n, true, te, al, .rows e c⟩ :: G2) w' ∧ (∀ ρ'', Agr (ρ.setS n s' Z) ρ'' H (⟨n, true, te, al, .rows e c⟩ :: G2) → Agr ρ ρ'' H G2 ∧ ρ''.s n = s') ∧
      (∀ k, k < w.heap.size → v.ownBlock ≠ some k → w'.heap[k]? = w.heap[k]?) :=
 app_put hE hh hfr hsz hown hblk hl hrep h63 (X := Builtin.append_ #[t, t] ty #[v, s.val]) (fun cs hcs => by
  have one := one_of_chunks hl hsz hrep fun a vs h => Shp.rep_one e a vs h
  have := run_append_gen (P := P) (w := w) t ty te i z e.size i.bytes ht hi hz hsize rfl hzs hsz v y.length cs hcs s news (by rw [hs]; exact hl) hnews one (by rw [hs]; simp only [maxLen]; omega) (by rw [hs]; exact hbytes)
  rw [hs] at this
  exact this) hbal hzok hzb hsub hc
end app
end
end Go.Proofs.YtkifmppmfkpfbaaGreat.V
