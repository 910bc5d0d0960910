import Derived.Test.YtihhjiinoffboaaProg
import Derived.Test.YtihhjiinoffboaaLib
namespace Go.Proofs.Ytihhjiinoffboaa
open Go.RowKit

theorem infoU8 : (Try.prog.info? 5).map (fun i => (i.zero, i.size, i.bytes)) = some (some (.int .u8 0), 1, 1) := by kernel_rfl

/-- append of bytes to the call's own buffer of bytes. -/
theorem app_bytes {w : World} {B : Nat} {v : Value} {l : List UInt8} (hown : Own w B 5 v l) {a : Option Addr} {m c : Nat} {l' : List UInt8} (h : Bs w a m c l')
    (hb : l.length + l'.length ≤ 140737488355328) (hB : B ≤ w.heap.size) :
    ∃ v' w', (Builtin.append_ #[22, 22] 22 #[v, .slice a m c]).run Try.prog w = .ok v' w' ∧ Own w' B 5 v' (l ++ l') ∧ w.grownBy w' v.ownBlock ∧ Below B w w' ∧ (v' = .slice none 0 0 ↔ v = .slice none 0 0 ∧ m = 0) := by
  obtain ⟨i0, hi, hz0, hz1, hz2⟩ := info_parts infoU8
  obtain ⟨v', w', hr, ho, hg, hn⟩ := run_append_Bs (P := Try.prog) w B 22 22 5 i0 Try.underlying22 hi hz0 hz1 hz2 v l hown a m c l' h (by have := h.len_eq; omega) hB
  exact ⟨v', w', hr, ho, hg, (Below.refl _ _).grown hg hB (fun k hk => (hown.lt k hk).1), hn⟩
end Go.Proofs.Ytihhjiinoffboaa
