import Derived.Test.YtihhjiinoffboaaBase
import Derived.LoopTactic
import Derived.Deep.RegionHeld3
set_option linter.unusedVariables false
namespace Go.Proofs.Ytihhjiinoffboaa
open Go.RowKit

/-- The digits. -/
def digs : List UInt8 := [48, 49, 50, 51, 52, 53, 54, 55, 56, 57, 97, 98, 99, 100, 101, 102]
def hexs (l : List UInt8) : List UInt8 := l.flatMap fun x => [digs.getD (x.toNat / 16) 0, digs.getD (x.toNat % 16) 0]
theorem hexs_snoc (l : List UInt8) (x : UInt8) : hexs (l ++ [x]) = hexs l ++ [digs.getD (x.toNat / 16) 0, digs.getD (x.toNat % 16) 0] := by simp [hexs]
theorem hexs_length (l : List UInt8) : (hexs l).length = 2 * l.length := by
  induction l with
  | nil => rfl
  | cons x l ih => simp [hexs] at ih ⊢; omega

theorem run_dig (i : Int) (h0 : 0 ≤ i) (h1 : i < 16) (w : World) :
    (Instr.index 9 (.string { data := #[48, 49, 50, 51, 52, 53, 54, 55, 56, 57, 97, 98, 99, 100, 101, 102] }) (.int .u8 i)).run Try.prog w = .ok (.int .u8 ((digs.getD i.toNat 0).toNat : Int)) w := by
  rw [run_index_string w 9 _ .u8 i Try.underlying9]
  have hs : (ByteArray.mk #[48, 49, 50, 51, 52, 53, 54, 55, 56, 57, 97, 98, 99, 100, 101, 102]).size = 16 := rfl
  rw [dif_pos (by rw [hs]; omega)]
  congr 3
  obtain ⟨n, rfl⟩ := Int.eq_ofNat_of_zero_le h0
  have hn : n < 16 := by omega
  rcases (show n = 0 ∨ n = 1 ∨ n = 2 ∨ n = 3 ∨ n = 4 ∨ n = 5 ∨ n = 6 ∨ n = 7 ∨ n = 8 ∨ n = 9 ∨ n = 10 ∨ n = 11 ∨ n = 12 ∨ n = 13 ∨ n = 14 ∨ n = 15 from by omega) with rfl | rfl | rfl | rfl | rfl | rfl | rfl | rfl | rfl | rfl | rfl | rfl | rfl | rfl | rfl | rfl <;> rfl

set_option maxHeartbeats 400000 in
theorem wire_Hex (a : Option Addr) (len cap : Nat) (l : List UInt8) (w : World) (h : Bs w a len cap l) (hs : len ≤ 1048576) :
    Calls Try.prog 18 #[.slice a len cap] w fun e w' => e = .returned (.string ⟨(hexs l).toArray⟩) ∧ Below w.heap.size w w' := by
  have e0 := h.len_eq
  subst e0
  have hc := h.len_le
  go_enter Try.func18, Try.ntmps18
  go_wp2
  go_loopw [3, 8] (fun v i wr => ∃ k : Nat, k ≤ l.length ∧ i = .int .i64 k ∧ Own wr w.heap.size 5 v (hexs (l.take k)) ∧ Below w.heap.size w wr) (fun _ i _ => l.length - (intOf i).toNat)
  case atStart => exact ⟨0, by omega, rfl, by simpa [hexs] using Own.nil w _ _, Below.refl _ _⟩
  case round =>
    obtain ⟨k, hk, rfl, ho, hb⟩ := hrel
    by_cases hlt : k < l.length
    · have g := h.mono hb
      obtain ⟨b, off, rfl, hcc⟩ := g.cells (by omega)
      have c := hcc k hlt
      clear hcc
      have hx := l[k].toNat_lt
      have e15 : bits .and .u8 (l[k].toNat : Int) 15 = (l[k].toNat : Int) % 16 := by rw [u8_and15 _ (by omega) (by omega)]
      have d1 := run_dig ((l[k].toNat : Int) / 16) (by omega) (by omega)
      have d2 := run_dig ((l[k].toNat : Int) % 16) (by omega) (by omega)
      have HD1 : ((l[k].toNat : Int) / 16).toNat = l[k].toNat / 16 := by omega
      have HD2 : ((l[k].toNat : Int) % 16).toNat = l[k].toNat % 16 := by omega
      rw [HD1] at d1
      rw [HD2] at d2
      clear HD1 HD2
      generalize hx1 : digs.getD (l[k].toNat / 16) 0 = x1 at d1
      generalize hx2 : digs.getD (l[k].toNat % 16) 0 = x2 at d2
      have HX1 := Lib.hid hx1
      have HX2 := Lib.hid hx2
      clear hx1 hx2
      have hlen : (hexs (l.take k)).length = 2 * k := by rw [hexs_length]; simp; omega
      obtain ⟨v2, w2, hr, ho2, hg2, hb2, _⟩ := app_bytes (w := (wr.alloc (.cells #[.int .u8 x1.toNat, .int .u8 x2.toNat] 5)).drew)
        (ho.below (((Below.refl _ _).alloc (Nat.le_refl _) _).drew)) ((Bs.lit wr [x1, x2] #[.int .u8 x1.toNat, .int .u8 x2.toNat] 5 2 wr.heap.size rfl (by rfl) rfl (by simp)).mono (Below.refl _ _).drew)
        (by rw [hlen]; simp; omega) (by have := hb.size; simp; omega)
      have HO2 := Lib.hid (hexs_snoc (l.take k) l[k])
      have HT := Lib.hid (take_snoc l k hlt)
      clear hlen
      go_wp2_with fail
      go_region_held3 (fun _ => True) (trivial) ((refine step_app rfl rfl hr ?_))
      all_goals go_wp2_with fail
      all_goals refine ⟨⟨k + 1, by omega, by go_num, ?_, hb.trans ((((Below.refl _ _).alloc hb.size _).drew).trans hb2)⟩, by simp [intOf]; omega⟩
      all_goals rw [HT.out, HO2.out, HX1.out, HX2.out]
      all_goals exact ho2
    · obtain rfl : k = l.length := by omega
      rw [List.take_length] at ho
      obtain ⟨a3, cap3, hv3, g3, _⟩ := ho.bs (by rw [hexs_length]; omega)
      subst hv3
      have cv := run_convert_Bs (P := Try.prog) g3 22 5 9 Try.underlying22 Try.underlying5 Try.underlying9
      go_wp2_with fail
      go_ret
      exact ⟨rfl, hb⟩
set_option maxHeartbeats 400000 in
theorem ref_Hex (a : Option Addr) (len cap : Nat) (l : List UInt8) (w : World) (h : Bs w a len cap l) (hs : len ≤ 1048576) :
    Calls Try.prog 19 #[.slice a len cap] w fun e w' => e = .returned (.string ⟨(hexs l).toArray⟩) ∧ Below w.heap.size w w' := by
  have e0 := h.len_eq
  subst e0
  have hc := h.len_le
  go_enter Try.func19, Try.ntmps19
  go_wp2
  go_loopw [3, 4] (fun v i wr => ∃ k : Nat, k ≤ l.length ∧ i = .int .i64 k ∧ Own wr w.heap.size 5 v (hexs (l.take k)) ∧ Below w.heap.size w wr) (fun _ i _ => l.length - (intOf i).toNat)
  case atStart => exact ⟨0, by omega, rfl, by simpa [hexs] using Own.nil w _ _, Below.refl _ _⟩
  case round =>
    obtain ⟨k, hk, rfl, ho, hb⟩ := hrel
    by_cases hlt : k < l.length
    · have g := h.mono hb
      obtain ⟨b, off, rfl, hcc⟩ := g.cells (by omega)
      have c := hcc k hlt
      clear hcc
      have hx := l[k].toNat_lt
      have e15 : bits .and .u8 (l[k].toNat : Int) 15 = (l[k].toNat : Int) % 16 := by rw [u8_and15 _ (by omega) (by omega)]
      have d1 := run_dig ((l[k].toNat : Int) / 16) (by omega) (by omega)
      have d2 := run_dig ((l[k].toNat : Int) % 16) (by omega) (by omega)
      have HD1 : ((l[k].toNat : Int) / 16).toNat = l[k].toNat / 16 := by omega
      have HD2 : ((l[k].toNat : Int) % 16).toNat = l[k].toNat % 16 := by omega
      rw [HD1] at d1
      rw [HD2] at d2
      clear HD1 HD2
      generalize hx1 : digs.getD (l[k].toNat / 16) 0 = x1 at d1
      generalize hx2 : digs.getD (l[k].toNat % 16) 0 = x2 at d2
      have HX1 := Lib.hid hx1
      have HX2 := Lib.hid hx2
      clear hx1 hx2
      have hlen : (hexs (l.take k)).length = 2 * k := by rw [hexs_length]; simp; omega
      obtain ⟨v2, w2, hr, ho2, hg2, hb2, _⟩ := app_bytes (w := (wr.alloc (.cells #[.int .u8 x1.toNat, .int .u8 x2.toNat] 5)).drew)
        (ho.below (((Below.refl _ _).alloc (Nat.le_refl _) _).drew)) ((Bs.lit wr [x1, x2] #[.int .u8 x1.toNat, .int .u8 x2.toNat] 5 2 wr.heap.size rfl (by rfl) rfl (by simp)).mono (Below.refl _ _).drew)
        (by rw [hlen]; simp; omega) (by have := hb.size; simp; omega)
      have HO2 := Lib.hid (hexs_snoc (l.take k) l[k])
      have HT := Lib.hid (take_snoc l k hlt)
      clear hlen
      have hbk : b < w.heap.size := by
        obtain ⟨b0, off0, e0, hc0⟩ := h.cells (by omega)
        simp only [Option.some.injEq, Addr.mk.injEq, and_true] at e0
        obtain ⟨rfl, rfl⟩ := e0
        exact World.block_lt_of_cell? w _ (hc0 k hlt)
      have c1 : (wr.alloc (.cells #[.int .u8 x1.toNat, .int .u8 x2.toNat] 5)).drew.cell? ⟨b, off + k, none⟩ = some (.int .u8 l[k].toNat) := by
        rw [(((Below.refl _ wr).alloc (Nat.le_refl _) _).drew).cell (by have := hb.size; simp; omega)]; exact c
      have c2 : w2.cell? ⟨b, off + k, none⟩ = some (.int .u8 l[k].toNat) := by
        rw [hb2.cell (by simpa using hbk)]; exact c1
      go_wp2_with fail
      go_region_held3 (fun w' => w'.cell? ⟨b, off + k, none⟩ = some (.int .u8 l[k].toNat)) (go_keep) ((refine step_app rfl rfl hr ?_))
      all_goals go_wp2_with fail
      all_goals refine ⟨⟨k + 1, by omega, by go_num, ?_, hb.trans ((((Below.refl _ _).alloc hb.size _).drew).trans hb2)⟩, by simp [intOf]; omega⟩
      all_goals rw [HT.out, HO2.out, HX1.out, HX2.out]
      all_goals exact ho2
    · obtain rfl : k = l.length := by omega
      rw [List.take_length] at ho
      obtain ⟨a3, cap3, hv3, g3, _⟩ := ho.bs (by rw [hexs_length]; omega)
      subst hv3
      have cv := run_convert_Bs (P := Try.prog) g3 22 5 9 Try.underlying22 Try.underlying5 Try.underlying9
      go_wp2_with fail
      go_ret
      exact ⟨rfl, hb⟩

/-- A digit's value, and whether it is one. -/
def dok (c : Int) : Bool := decide (48 ≤ c ∧ c ≤ 57 ∨ 97 ≤ c ∧ c ≤ 102 ∨ 65 ≤ c ∧ c ≤ 70)
def dval (c : Int) : Int := if 48 ≤ c ∧ c ≤ 57 then c - 48 else if 97 ≤ c ∧ c ≤ 102 then c - 87 else if 65 ≤ c ∧ c ≤ 70 then c - 55 else 0

def ddig (c : Int) : Int := if dok c then dval c else -1

set_option maxHeartbeats 400000 in
theorem wire_digit (c : Int) (w : World) (h0 : 0 ≤ c) (h1 : c ≤ 255) :
    Calls Try.prog 22 #[.int .u8 c] w fun e w' => e = .returned (.tuple #[.int .u8 (dval c), .bool (dok c)]) ∧ w = w' := by
  have r : ∀ (a b : Int) (p q : Bool), a = b → p = q → Ending.returned (.tuple #[.int .u8 a, .bool p]) = .returned (.tuple #[.int .u8 b, .bool q]) := fun _ _ _ _ h1 h2 => by rw [h1, h2]
  go_enter Try.func22, Try.ntmps22
  go_wp2
  all_goals
    go_ret2
    exact ⟨r _ _ _ _ (by unfold dval; repeat' split
                         all_goals omega) (by simp [dok]; omega), rfl⟩

set_option maxHeartbeats 400000 in
theorem ref_Digit (c : Int) (w : World) (h0 : 0 ≤ c) (h1 : c ≤ 255) :
    Calls Try.prog 23 #[.int .u8 c] w fun e w' => e = .returned (.int .i64 (ddig c)) ∧ w = w' := by
  go_enter Try.func23, Try.ntmps23
  go_wp2
  all_goals
    go_ret
    exact ⟨ret_int (by unfold ddig dok dval; simp only [decide_eq_true_eq]; repeat' split
                       all_goals omega), rfl⟩
end Go.Proofs.Ytihhjiinoffboaa
