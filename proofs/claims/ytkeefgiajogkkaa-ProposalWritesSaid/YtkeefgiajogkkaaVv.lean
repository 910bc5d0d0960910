/- The walker: what reading by name gives. -/
import Derived.Test.YtkeefgiajogkkaaVw
set_option linter.unusedVariables false
set_option linter.unusedSimpArgs false
namespace Go.Proofs.Ytkeefgiajogkkaa.V
open Go.RowKit
section ent
variable {E : Env} {ρ : Nm} {w : World} {H : List Ent} {G Gl : List FE} {P : Program} {T : TT}
theorem run_loadVar_cells {t : TypeId} {i : TI} (h : TIOk P t i) (w : World) (b o : Nat) (vs : List Value) (ha : i.sh.agg = true) (hl : vs.length = i.size) (hc : ∀ j v, vs[j]? = some v → w.cell? ⟨b, o + j, none⟩ = some v) :
    (loadVar t ⟨b, o, none⟩).run P w = .ok (.agg vs.toArray) w := by
 have hr : (loadCells ⟨b, o, none⟩ i.size).run P w = .ok vs.toArray w := by
  have := run_loadCells_list (P := P) w ⟨b, o, none⟩ vs (fun j v hv => by rw [add_plain]; exact hc j v hv)
  rw [hl] at this
  exact this
 simp [loadVar, Sem.run_bind, h.isAgg, h.sizeOf, ha, hr]
theorem run_loadVar_cell {t : TypeId} {i : TI} (h : TIOk P t i) (w : World) (b o : Nat) (v : Value) (ha : i.sh.agg = false) (hc : w.cell? ⟨b, o, none⟩ = some v) :
    (loadVar t ⟨b, o, none⟩).run P w = .ok v w := by
 simp [loadVar, Sem.run_bind, h.isAgg, ha, hc]
theorem chunk_get {cs : List Value} {i sz j : Nat} {v : Value} (h : (chunk cs i sz)[j]? = some v) : cs[i * sz + j]? = some v ∧ j < sz := by
 unfold chunk at h
 rw [List.getElem?_take] at h
 split at h
 ·rename_i hj
  rw [List.getElem?_drop] at h
  exact ⟨h, hj⟩
 ·cases h
theorem part_get {cs : List Value} {i sz o m j : Nat} {v : Value} (h : (((chunk cs i sz).drop o).take m)[j]? = some v) : cs[i * sz + (o + j)]? = some v := by
 rw [List.getElem?_take] at h
 split at h
 ·rw [List.getElem?_drop] at h
  exact (chunk_get h).1
 ·cases h
theorem cell_same {w w' : World} {b o : Nat} (h : w'.heap[b]? = w.heap[b]?) {v : Value} (hc : w.cell? ⟨b, o, none⟩ = some v) : w'.cell? ⟨b, o, none⟩ = some v := by
 rw [World.cell?_of_block (w := w) h]; exact hc
theorem loadE_sound (hT : TT.ok P T) (hh : Hp E ρ H G w) (hsub : ∀ f ∈ Gl, f ∈ G) {n : Nat} {t : TypeId} {id : Nat} {i : IE} {s o : Nat} {r : PR} {news : List FE} (h : loadE T Gl n t id i s o = some (r, news)) (ho : obP r.ob) (hfr : freshL E.lo E.hi H G news = true) :
    ∃ ρ', Hp E ρ' H (news ++ G) w ∧ (∀ f ∈ news, f.own = false ∧ (∀ T, f.c ≠ .codes T) ∧ ∀ k, f.foot ρ' k → ∃ g ∈ Gl, g.foot ρ k) ∧ (∀ g ∈ G, ρ'.z g.id = ρ.z g.id) ∧ ∀ ρ'', Agr ρ' ρ'' H (news ++ G) → Agr ρ ρ'' H G ∧
      ∀ w', (∀ f ∈ Gl, ∀ k, f.foot ρ k → w'.heap[k]? = w.heap[k]?) → (Instr.loadAt t ((SV.fp id i s o).den ρ'')).run P w' = .ok (r.v.den ρ'') w' := by
 unfold loadE at h
 split at h
 ·rename_i f j hf hj
  obtain ⟨hml, hid⟩ := findE_mem hf
  have hm := hsub f hml
  have hj := TT.look_ok hT hj
  split at h
  ·rename_i e x hc
   cases hs : nBeq s e.size with
   | false => rw [hs] at h; cases h
   | true =>
     rw [hs] at h
     have hs := nBeq_eq hs
     subst hs
     simp only [] at h
     have hp := hh.pos f hm e x hc
     have obs : obLt e x i () → ∃ b off cs, (∀ o, (ρ.s id).at (i.den.toNat * e.size + o) = some ⟨b, off + (i.den.toNat * e.size + o), none⟩) ∧ f.foot ρ b ∧ (∀ j v, cs[j]? = some v → w.cell? ⟨b, off + j, none⟩ = some v) ∧
         All2 (fun v l => Lf.rep w (match f.own with | true => ρ.z f.id | false => f.foot ρ) v l) (chunk cs i.den.toNat e.size) (leaves e (elemAt e x i)) := by
      rintro ⟨h0, h1⟩
      obtain ⟨b, off, cs, k1, _, k2, k3, k4, k5⟩ := at_elem (hh.facts f hm) hc hp h0 h1
      rw [hid] at k1
      refine ⟨b, off, cs, k1, k2, k3, ?_⟩
      cases hown : f.own with
      | false => exact (rep_leaves e (elemAt e x i) _).1 k4
      | true => exact (rep_leaves e (elemAt e x i) _).1 (k5 hown)
     have hz := hh.zok hm hc (hh.sep hm)
     have zf : ∀ k, (match f.own with | true => ρ.z f.id | false => f.foot ρ) k → f.foot ρ k := by
      intro k hk
      cases ho : f.own with
      | false => rw [ho] at hk; exact hk
      | true => rw [ho] at hk; unfold FE.foot; rw [hc]; exact .inl hk
     have agr_id : ∀ ρ'', Agr ρ ρ'' H G → ρ''.s id = ρ.s id := fun ρ'' hr => by rw [← hid]; exact (hr.2 f hm).2
     cases ha : j.sh.agg with
     | true =>
       rw [ha] at h
       simp only [] at h
       cases hl : nBle (o + j.size) (lenF (leaves e (elemAt e x i))) with
       | false => rw [hl] at h; cases h
       | true =>
         rw [hl] at h
         simp only [] at h
         have hl := nBle_le hl
         rw [lenF_eq] at hl
         split at h
         ·rename_i vs nw hv
          cases h
          obtain ⟨b, off, cs, k1, k2, k3, k4⟩ := obs ho
          rw [takeF_eq, dropF_eq] at hv
          have hlen : (((chunk cs i.den.toNat e.size).drop o).take j.size).length = j.size := by
           rw [List.length_take, List.length_drop, k4.length]; omega
          obtain ⟨⟨ρ', q1, q2, q6, q7⟩, q3⟩ := lfVs_sound _ n vs news _ ρ hv hh hz ((k4.drop o).take j.size) hfr
          refine ⟨ρ', q1, fun g hg => ⟨(q3 g hg).1, (q3 g hg).2, fun k hk => ⟨f, hml, zf k (q6 g hg k hk)⟩⟩, q7, fun ρ'' hr => ⟨(q2 ρ'' hr).1, fun w' hw' => ?_⟩⟩
          obtain ⟨q4, q5⟩ := q2 ρ'' hr
          simp only [SV.den, agr_id ρ'' q4, k1 o, Instr.loadAt, Instr.sureAddr, Sem.run_bind, Sem.run_pure, Result.andThen_ok, q5]
          refine run_loadVar_cells hj w' b _ _ ha hlen fun q v hv => ?_
          rw [Nat.add_assoc, Nat.add_assoc]
          exact cell_same (hw' f hml b k2) (k3 _ _ (part_get hv))
         ·cases h
     | false =>
       rw [ha] at h
       simp only [] at h
       split at h
       ·rename_i l hl
        split at h
        ·rename_i v nw hv
         cases h
         obtain ⟨b, off, cs, k1, k2, k3, k4⟩ := obs ho
         have k5 := (k4.drop o).take 1
         rw [takeF_eq, dropF_eq] at hl
         rw [hl] at k5
         obtain ⟨⟨ρ', q1, q2, q6, q7⟩, q3⟩ := lfVs_sound _ n _ news _ ρ hv hh hz k5 hfr
         refine ⟨ρ', q1, fun g hg => ⟨(q3 g hg).1, (q3 g hg).2, fun k hk => ⟨f, hml, zf k (q6 g hg k hk)⟩⟩, q7, fun ρ'' hr => ⟨(q2 ρ'' hr).1, fun w' hw' => ?_⟩⟩
         obtain ⟨q4, q5⟩ := q2 ρ'' hr
         simp only [SV.dens] at q5
         simp only [SV.den, agr_id ρ'' q4, k1 o, Instr.loadAt, Instr.sureAddr, Sem.run_bind, Sem.run_pure, Result.andThen_ok]
         refine run_loadVar_cell hj w' b _ _ ha ?_
         refine cell_same (hw' f hml b k2) (k3 _ _ ?_)
         refine part_get (m := 1) (j := 0) (o := o) ?_
         rw [← q5]
         rfl
        ·cases h
       ·cases h
  ·cases h
 ·cases h
theorem Hp.same (hh : Hp E ρ H G w) {v : SV} {Q : Nm → World → Prop} (h : ∀ ρ'', Agr ρ ρ'' H G → ∀ w', Q ρ'' w') :
    ∃ ρ', Hp E ρ' H ([] ++ G) w ∧ (∀ f ∈ ([] : List FE), f.own = false ∧ (∀ T, f.c ≠ .codes T) ∧ ∀ k, f.foot ρ' k → ∃ g ∈ Gl, g.foot ρ k) ∧ (∀ g ∈ G, ρ'.z g.id = ρ.z g.id) ∧ ∀ ρ'', Agr ρ' ρ'' H ([] ++ G) → Agr ρ ρ'' H G ∧ ∀ w', (∀ f ∈ Gl, ∀ k, f.foot ρ k → w'.heap[k]? = w.heap[k]?) → Q ρ'' w' :=
 ⟨ρ, hh, fun f hf => (by cases hf), fun _ _ => rfl, fun ρ'' hr => ⟨hr, fun w' _ => h ρ'' hr w'⟩⟩
theorem ent_sound (hT : TT.ok P T) (hh : Hp E ρ H G w) (hsub : ∀ f ∈ Gl, f ∈ G) {n : Nat} {ev : Operand → SV} {op : Op} {r : PR} {news : List FE} (h : entV T Gl n ev op = some (r, news)) (ho : obP r.ob) (hfr : freshL E.lo E.hi H G news = true) (o : Oper) (hop : o.op = op) :
    ∃ ρ', Hp E ρ' H (news ++ G) w ∧ (∀ f ∈ news, f.own = false ∧ (∀ T, f.c ≠ .codes T) ∧ ∀ k, f.foot ρ' k → ∃ g ∈ Gl, g.foot ρ k) ∧ (∀ g ∈ G, ρ'.z g.id = ρ.z g.id) ∧ ∀ ρ'', Agr ρ' ρ'' H (news ++ G) → Agr ρ ρ'' H G ∧
      ∀ w', (∀ f ∈ Gl, ∀ k, f.foot ρ k → w'.heap[k]? = w.heap[k]?) → ∀ A : Act, (∀ x, A.eval x = (ev x).den ρ'') → (execOp A.eval o).run P w' = .ok (.value (r.v.den ρ'')) w' := by
 unfold entV at h
 split at h
 ·rename_i t x
  split at h
  ·rename_i id i s o' hx
   obtain ⟨ρ', h1, h2, hz, h3⟩ := loadE_sound hT hh hsub h ho hfr
   refine ⟨ρ', h1, h2, hz, fun ρ'' hr => ⟨(h3 ρ'' hr).1, fun w' hw' A hA => ?_⟩⟩
   unfold execOp
   rw [hop]
   simp only [hA, hx, Sem.run_bind, (h3 ρ'' hr).2 w' hw', Result.andThen_ok, Sem.run_pure]
  ·cases h
 ·rename_i x
  split at h
  ·rename_i id i s o' hx
   split at h
   ·rename_i f hf
    split at h
    ·rename_i e y hc
     cases hs : nBeq s e.size with
     | false => rw [hs] at h; cases h
     | true =>
       rw [hs] at h
       have hs := nBeq_eq hs
       subst hs
       cases h
       obtain ⟨hml, hid⟩ := findE_mem hf
       have hm := hsub _ hml
       obtain ⟨b, off, cs, k1, _⟩ := at_elem (hh.facts f hm) hc (hh.pos f hm e y hc) ho.1 ho.2
       refine hh.same (v := .bool (.c true)) fun ρ'' hr w' A hA => ?_
       unfold execOp
       rw [hop]
       have : ρ''.s id = ρ.s id := by rw [← hid]; exact (hr.2 f hm).2
       rw [hid] at k1
       simp only [hA, hx, SV.den, this, k1 o']
       simp [Sem.run_bind]
    ·cases h
   ·cases h
  ·cases h
 ·rename_i t x f
  split at h
  ·rename_i fs sz z id i s o' hl hx
   split at h
   ·rename_i off ft g hnf hg
    split at h
    ·rename_i j e y hj hc
     cases hs : (nBeq s e.size && !nBeq j.size 0) with
     | false => rw [hs] at h; cases h
     | true =>
       rw [hs] at h
       simp only [Bool.and_eq_true, Bool.not_eq_true'] at hs
       obtain ⟨hs, hz⟩ := hs
       have hs := nBeq_eq hs
       subst hs
       cases h
       obtain ⟨hml, hid⟩ := findE_mem hg
       have hm := hsub _ hml
       obtain ⟨b, off', cs, k1, _⟩ := at_elem (hh.facts g hm) hc (hh.pos g hm e y hc) ho.1 ho.2
       refine hh.same (v := .bool (.c true)) fun ρ'' hr w' A hA => ?_
       unfold execOp
       rw [hop]
       have : ρ''.s id = ρ.s id := by rw [← hid]; exact (hr.2 g hm).2
       rw [hid] at k1
       have hfa := run_fieldAt hT hl hnf hj hz w' b (off' + (i.den.toNat * e.size + o'))
       simp only [hA, hx, SV.den, this, k1 o', Sem.run_bind, hfa, Result.andThen_ok, Sem.run_pure]
       rw [show i.den.toNat * e.size + (o' + off) = i.den.toNat * e.size + (o' + off) from rfl, k1 (o' + off)]
       simp only [Nat.add_assoc]
    ·cases h
   ·cases h
  ·cases h
 ·rename_i t x i
  split at h
  ·rename_i id k i' hx hi
   rw [Option.map_eq_some_iff] at h
   obtain ⟨r', hr', h⟩ := h
   cases h
   unfold indexE at hr'
   split at hr'
   ·rename_i te sz z f hl hf
    split at hr'
    ·rename_i j e y hj hc
     cases hs : nBeq j.size e.size with
     | false => rw [hs] at hr'; cases hr'
     | true =>
       rw [hs] at hr'
       have hs := nBeq_eq hs
       cases hr'
       obtain ⟨hml, hid⟩ := findE_mem hf
       have hm := hsub _ hml
       obtain ⟨b, off, cs, k1, k2, _⟩ := at_elem (hh.facts f hm) hc (hh.pos f hm e y hc) ho.1 ho.2
       have hbd := (FE.reads (hh.facts f hm) hc).bd
       obtain ⟨d, hd, hsd⟩ := (TT.look_ok hT hl).under
       cases d <;> simp [Sh.of] at hsd
       subst hsd
       refine hh.same (v := .bool (.c true)) fun ρ'' hr w' A hA => ?_
       unfold execOp
       rw [hop]
       have hsi : ρ''.s id = ρ.s id := by rw [← hid]; exact (hr.2 f hm).2
       rw [hid] at k1 k2 hbd
       have hlt : i'.den < ((ρ.s id).n : Int) := by rw [hbd.len]; exact ho.2
       have hrun := run_indexAt (P := P) (TT.look_ok hT hj) hd (x := .slice (some ⟨b, off, none⟩) (ρ.s id).n (ρ.s id).cap) (n := (ρ.s id).n) (b := b) (o := off) (.inr ⟨rfl, _, rfl⟩) (k := k) (i := i'.den) ho.1 hlt w'
       simp only [hA, hx, hi, SV.den, hsi, Sl.val, k2, Sem.run_bind, hrun, Result.andThen_ok, Sem.run_pure]
       rw [k1 0, hs, Nat.add_zero]
    ·cases hr'
   ·cases hr'
  ·rename_i id i' s o' k m hx hi
   split at h
   ·rename_i n e' sz z g hl hg
    split at h
    ·rename_i j e y hj hc
     cases hs : (nBeq s e.size && nBlt 1 n && nBlt m n) with
     | false => rw [hs] at h; cases h
     | true =>
       rw [hs] at h
       simp only [Bool.and_eq_true, nBlt_iff] at hs
       obtain ⟨⟨hs, hn1⟩, hmn⟩ := hs
       have hs := nBeq_eq hs
       subst hs
       cases h
       obtain ⟨hml, hid⟩ := findE_mem hg
       have hm := hsub _ hml
       obtain ⟨b, off', cs, k1, _⟩ := at_elem (hh.facts g hm) hc (hh.pos g hm e y hc) ho.1 ho.2
       obtain ⟨d, hd, hsd⟩ := (TT.look_ok hT hl).under
       cases d <;> simp [Sh.of] at hsd
       obtain ⟨rfl, rfl⟩ := hsd
       refine hh.same (v := .bool (.c true)) fun ρ'' hr w' A hA => ?_
       unfold execOp
       rw [hop]
       have : ρ''.s id = ρ.s id := by rw [← hid]; exact (hr.2 g hm).2
       rw [hid] at k1
       have hrun := run_indexAt (P := P) (TT.look_ok hT hj) hd (.inl ⟨rfl, rfl, hn1⟩) (b := b) (o := off' + (i'.den.toNat * e.size + o')) (k := k) (i := (m : Int)) (by omega) (by omega) w'
       simp only [hA, hx, hi, SV.den, den_c, this, k1 o', Sem.run_bind, Int.ofNat_eq_natCast, hrun, Result.andThen_ok, Sem.run_pure]
       rw [k1 (o' + m * j.size)]
       simp only [Int.toNat_natCast, Nat.add_assoc]
    ·cases h
   ·cases h
  ·cases h
 ·rename_i c
  split at h
  ·rename_i hb
   split at h
   ·rename_i id t hargs hts
    rw [Option.map_eq_some_iff] at h
    obtain ⟨r', hr', h⟩ := h
    cases h
    unfold lenE at hr'
    split at hr'
    ·rename_i te sz z f hl hf
     split at hr'
     ·rename_i e y hc
      cases hr'
      obtain ⟨hml, hid⟩ := findE_mem hf
      have hm := hsub _ hml
      have hbd := (FE.reads (hh.facts f hm) hc).bd
      obtain ⟨d, hd, hsd⟩ := (TT.look_ok hT hl).under
      cases d <;> simp [Sh.of] at hsd
      subst hsd
      refine hh.same (v := .bool (.c true)) fun ρ'' hr w' A hA => ?_
      unfold execOp
      rw [hop]
      have hsi : ρ''.s id = ρ.s id := by rw [← hid]; exact (hr.2 f hm).2
      have e1 : c.args.map A.eval = (SV.dens ρ'' (evs ev c.args.toList)).toArray := by
       rw [← evs_den hA]; apply Array.ext'; simp
      rw [hid] at hbd
      rw [hargs] at e1
      have e2 : c.argTypes = #[t] := by apply Array.ext'; simp [hts]
      simp only [resolve, hb, Sem.run_bind, Sem.run_pure, Result.andThen_ok, invoke, e1, e2, SV.dens, SV.den, hsi, Sl.val]
      simp [builtin, Builtin.len_, run_underlying hd, goInt, den_t, hbd.len]
     ·cases hr'
    ·cases hr'
   ·cases h
  ·cases h
 ·cases h
end ent
end Go.Proofs.Ytkeefgiajogkkaa.V
