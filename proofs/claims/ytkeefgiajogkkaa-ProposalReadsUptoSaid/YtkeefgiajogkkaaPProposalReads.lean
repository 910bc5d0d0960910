/- For every input of bulk at most 1048576 the law ProposalReads returns true, and each argument reads behind the call as it read before. Conditions: the bound on the bulk of what is read. -/
import Derived.Test.YtkeefgiajogkkaaRows
import Derived.Test.YtkeefgiajogkkaaVPy
import Derived.Test.YtkeefgiajogkkaaVL
import Derived.ProofKit
import Derived.OpenShut
import Derived.ShutString
import Derived.ChangeOld
import Derived.SizedLaws
import Derived.JoinedCond
import Derived.Deep.CondSized
namespace Go.Proofs.Ytkeefgiajogkkaa.pProposalReads
open Go.ChangeShapes Go.WideShapes Go.ChangeAt Go.RowKit
open Go.ChangeMaps (open_string shut_string)
set_option linter.unusedVariables false
theorem own : ownKnob Try.prog.godebug = none := by kernel_rfl
theorem laidOut : laidOutB Try.prog = true := by kernel_rfl
theorem bytesU8 : Try.prog.bytesOf 5 = 1 := by kernel_rfl
theorem one_le {H : Type} (d : DataW H) : 1 ≤ Rows.uptoBulk d := by
  cases d with
  | lit l => cases l <;> simp [Rows.uptoBulk]
  | nil => simp [Rows.uptoBulk]
  | ptr d => simp [Rows.uptoBulk]
  | slice elems spare => simp [Rows.uptoBulk]
  | agg parts => simp [Rows.uptoBulk]
  | iface t d => simp [Rows.uptoBulk]
  | map entries => simp [Rows.uptoBulk]
  | held h => simp [Rows.uptoBulk]
theorem part_le {H : Type} {d : DataW H} {l : List (DataW H)} (h : d ∈ l) : Rows.uptoBulk d ≤ Rows.uptoBulkAll l := by
  induction l with
  | nil => cases h
  | cons x r ih =>
    simp only [Rows.uptoBulkAll]
    cases List.mem_cons.1 h with
    | inl e => subst e; omega
    | inr e => have := ih e; omega
theorem length_le {H : Type} (l : List (DataW H)) : l.length ≤ Rows.uptoBulkAll l := by
  induction l with
  | nil => simp [Rows.uptoBulkAll]
  | cons x r ih => have := one_le x; simp only [Rows.uptoBulkAll, List.length_cons]; omega
theorem slice_le {H : Type} {l : List (DataW H)} {elems spare : List (DataW H)} (hk : Rows.uptoSmall H l = true) (h : DataW.slice elems spare ∈ l) : elems.length ≤ 1048576 := by
  have h0 : Rows.uptoBulkAll l ≤ 1048576 := of_decide_eq_true hk
  have h1 := part_le h
  have h2 := length_le elems
  simp only [Rows.uptoBulk] at h1
  omega
theorem string_le {H : Type} {l : List (DataW H)} {bytes : List UInt8} (hk : Rows.uptoSmall H l = true) (h : DataW.lit (.string bytes) ∈ l) : bytes.length ≤ 1048576 := by
  have h0 : Rows.uptoBulkAll l ≤ 1048576 := of_decide_eq_true hk
  have h1 := part_le h
  simp only [Rows.uptoBulk] at h1
  omega
set_option maxRecDepth 100000 in
theorem lifted (os : Os) (started : os.Started) (H : Type) (enc : TypeId × Value → H) (F : Stop.Interp) :
    ReturnsInHanded {} Try.checked os 3 .any ((Rows.OpenSpec.upto Rows.proposalReadsSpec).pre6 enc Try.prog Try.f3 Rows.proposalReadsUptoRow.domain false) (((Rows.OpenSpec.upto Rows.proposalReadsSpec).at F).post enc Try.prog Try.f3 false true false false) := by
  refine returnsInHanded_of_cond_sized (C := Try.checked) (s := Rows.OpenSpec.upto Rows.proposalReadsSpec) (k := Rows.uptoSmall) rfl own started (by kernel_rfl) Try.func3
    (OpenSpec.witness (enc := enc) (C := Try.checked) (s := Rows.OpenSpec.upto Rows.proposalReadsSpec) (k := Rows.uptoSmall) rfl false ⟨#[], #[.slice none 0 0, .slice none 0 0], []⟩ 8 (by kernel_rfl) (by kernel_rfl) (by kernel_rfl)
      (x := ([.nil, .nil], [], [])) (by kernel_rfl) rfl (by kernel_rfl)) ?_
  intro W base args ds gs before hval0 hW hcnd hk hsz0 _
  have hsz : (DataW.weightsEach Try.prog (Try.f3.params.toList ++ Rows.proposalReadsSpec.plain.varTypes Try.prog) (ds ++ gs)).all (· ≤ reachBytes) = true := hsz0
  clear hsz0
  have hval : ∀ (j : Nat) t v, Try.f3.params[j]? = some t → args[j]? = some v → Value.okWide Try.prog W .any base t v := hval0
  have hW' := hW
  obtain ⟨p, q, hA0, hV, rfl, hfz, hnd⟩ := hW
  have hA : DataW.TrodAll enc Try.prog W 0 (fun _ => true) true Try.f3.params.toList args.toList ds p := hA0
  rw [Try.params3] at hA hval hsz
  obtain ⟨v0, vs0, d0, ds0, p0, q0, hargs, rfl, rfl, h0, r0⟩ := trodAll_cons hA
  obtain ⟨v1, vs1, d1, ds1, p1, q1, rfl, rfl, rfl, h1, r1⟩ := trodAll_cons r0
  obtain ⟨rfl, rfl, rfl⟩ := trodAll_nil r1
  obtain rfl : args = #[v0, v1] := by cases args; simp_all
  obtain ⟨rfl, rfl⟩ := trodVars_none hV
  have k0 := h0
  have lt0 : ∀ x ∈ p0, x.block < W.heap.size := by obtain ⟨m, hm⟩ := k0; exact DataW.trod_lt m _ _ _ hm
  obtain ⟨a0, len0, cap0, rfl⟩ := okWide_slice Try.underlying22 (hval 0 22 v0 rfl rfl)
  obtain ⟨z0, w0, u0⟩ : ∃ l, Bs W a0 len0 cap0 l ∧ len0 ≤ 1048576 := by
    obtain ⟨fuel, hf⟩ := h0
    rcases open_ints Try.underlying22 Try.underlying5 (by kernel_rfl) hf with ⟨hcs, _⟩ | ⟨x, l, c, zs, hcs, _, hl, hm, hz, hx, hcell, hwz⟩
    · simp [Value.cells] at hcs
      obtain ⟨rfl, rfl, rfl⟩ := hcs
      exact ⟨[], Bs.zero _ _ _ (by omega), by omega⟩
    · simp [Value.cells] at hcs
      obtain ⟨rfl, rfl, rfl⟩ := hcs
      simp only [if_true] at hz
      have hd := congrArg Prod.fst hx
      simp only at hd
      subst hd
      have hr := sized_slice hsz (j := 0) (t := 22) (e := 5) rfl rfl Try.underlying22
      rw [bytesU8] at hr
      simp only [lits, List.length_map, List.length_take, List.length_drop, reachBytes] at hr
      have hu := slice_le (elems := lits .u8 (zs.take len0)) (spare := lits .u8 (zs.drop len0)) hk (by simp)
      simp only [lits, List.length_map, List.length_take] at hu
      exact ⟨_, Bs.of_ints hl hz (by omega) hcell hwz, by omega⟩
  obtain ⟨x0, A0, U0⟩ : ∃ x, V.ArgRep W (.sl .byte) x (.slice a0 len0 cap0) ∧ x.length ≤ 1048576 := ⟨_, V.argRep_bytes w0, by rw [w0.len_eq]; exact u0⟩
  have I0 : V.inr (.sl .byte) x0 := Nat.le_trans U0 (by decide)
  have k1 := h1
  have lt1 : ∀ x ∈ p1, x.block < W.heap.size := by obtain ⟨m, hm⟩ := k1; exact DataW.trod_lt m _ _ _ hm
  obtain ⟨a1, len1, cap1, rfl⟩ := okWide_slice Try.underlying22 (hval 1 22 v1 rfl rfl)
  obtain ⟨z1, w1, u1⟩ : ∃ l, Bs W a1 len1 cap1 l ∧ len1 ≤ 1048576 := by
    obtain ⟨fuel, hf⟩ := h1
    rcases open_ints Try.underlying22 Try.underlying5 (by kernel_rfl) hf with ⟨hcs, _⟩ | ⟨x, l, c, zs, hcs, _, hl, hm, hz, hx, hcell, hwz⟩
    · simp [Value.cells] at hcs
      obtain ⟨rfl, rfl, rfl⟩ := hcs
      exact ⟨[], Bs.zero _ _ _ (by omega), by omega⟩
    · simp [Value.cells] at hcs
      obtain ⟨rfl, rfl, rfl⟩ := hcs
      simp only [if_true] at hz
      have hd := congrArg Prod.fst hx
      simp only at hd
      subst hd
      have hr := sized_slice hsz (j := 1) (t := 22) (e := 5) rfl rfl Try.underlying22
      rw [bytesU8] at hr
      simp only [lits, List.length_map, List.length_take, List.length_drop, reachBytes] at hr
      have hu := slice_le (elems := lits .u8 (zs.take len1)) (spare := lits .u8 (zs.drop len1)) hk (by simp)
      simp only [lits, List.length_map, List.length_take] at hu
      exact ⟨_, Bs.of_ints hl hz (by omega) hcell hwz, by omega⟩
  obtain ⟨x1, A1, U1⟩ : ∃ x, V.ArgRep W (.sl .byte) x (.slice a1 len1 cap1) ∧ x.length ≤ 1048576 := ⟨_, V.argRep_bytes w1, by rw [w1.len_eq]; exact u1⟩
  have I1 : V.inr (.sl .byte) x1 := Nat.le_trans U1 (by decide)
  clear hA0 hval0
  refine (V.law_ProposalReads (x0, x1, ()) W _ (V.argsRep_cons A0 (V.argsRep_cons A1 V.argsRep_nil)) ⟨I0, I1, True.intro⟩ U0 U1).mono fun e W' ⟨he, bel⟩ => ?_
  subst he
  exact ⟨_, rfl, _, _, _, [], _, [], hW', trodAll_mk1 (shut_bool Try.underlying4 _), (trodAll_cons_mk (Below.trod laidOut (by kernel_rfl) (of_decide_eq_true (by kernel_rfl)) k0 bel lt0) (trodAll_cons_mk (Below.trod laidOut (by kernel_rfl) (of_decide_eq_true (by kernel_rfl)) k1 bel lt1) trodAll_mk0)), rfl, bel.frame _, fun h => by cases h⟩
theorem proved : Rows.ProposalReadsUptoSaid :=
  OpenClaim.holds_of_cond 3 Try.f3 rfl rfl rfl rfl rfl rfl rfl ⟨rfl, rfl, rfl, rfl, rfl⟩ rfl rfl rfl rfl rfl (by kernel_rfl) Try.func3 (by kernel_rfl)
    (of_decide_eq_true (by kernel_rfl)) (by unfold Func.isWrapper; first | (rw [if_pos (by decide +kernel)]; kernel_rfl) | (rw [if_neg (by decide +kernel)]; exact ⟨rfl, rfl⟩))
    (fun os started H enc _ F => lifted os started H enc F)
#print axioms proved
end Go.Proofs.Ytkeefgiajogkkaa.pProposalReads
