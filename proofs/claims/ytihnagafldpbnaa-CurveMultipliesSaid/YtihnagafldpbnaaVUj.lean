/- Curve: contracts by value modulo p, and the ladder in numbers (pure). -/
import Derived.Test.YtihnagafldpbnaaVUc
import Derived.Test.YtihnagafldpbnaaVUk
set_option linter.unusedVariables false
set_option linter.unusedSimpArgs false
namespace Go.Proofs.Ytihnagafldpbnaa.V
open Go.RowKit
set_option maxHeartbeats 80000000
set_option maxRecDepth 100000
theorem fnSpec_mono {P : Program} {E : Env} {f : FuncId} {az rs : List Shp} {ts : List TypeId} {pre : Shp.Ds az → Prop} {post post' : Shp.Ds az → Shp.Ds rs → Prop} (h : SpecOk P E f (fnSpec az rs ts pre post)) (hF : ∀ x y, pre x → post x y → post' x y) : SpecOk P E f (fnSpec az rs ts pre post') := by
 refine ⟨h.fn, fun lo hi id args s K h1 h2 hs => h.calls lo hi id args s K h1 h2 ?_⟩
 unfold fnSpec at hs ⊢
 cases hd : decArgs s.heap s.ents az args with
 | some d =>
   rw [hd] at hs
   refine obsK_mono ?_ hs
   rintro ⟨ho, hk⟩
   exact ⟨ho, ⟨fun y hy => hk.all y ⟨hF _ _ (ho ()) hy.1, hy.2⟩⟩⟩
 | none => rw [hd] at hs; exact hs
abbrev addV : Spec := fnSpec [elE, elE] [elE] [] binPre fun (x : Shp.Ds [elE, elE]) (y : Shp.Ds [elE]) => LimE 2251799813947392 y.1 ∧ Cg (valE y.1) (valE x.1 + valE x.2.1)
abbrev subV : Spec := fnSpec [elE, elE] [elE] [] binPre fun (x : Shp.Ds [elE, elE]) (y : Shp.Ds [elE]) => LimE 2251799813947392 y.1 ∧ Cg (valE y.1) (valE x.1 - valE x.2.1)
abbrev mulV : Spec := fnSpec [elE, elE] [elE] [] binPre fun (x : Shp.Ds [elE, elE]) (y : Shp.Ds [elE]) => LimE 2251799813947392 y.1 ∧ Cg (valE y.1) (valE x.1 * valE x.2.1)
theorem add_v {E : Env} (hE : E.ok) : SpecOk Try.prog E 19 addV := fnSpec_mono (add_sp0 hE) fun (x : Shp.Ds [elE, elE]) (y : Shp.Ds [elE]) hp h => by
 rw [show y.1 = _ from h]; exact add_ok hp.1 hp.2
theorem sub_v {E : Env} (hE : E.ok) : SpecOk Try.prog E 20 subV := fnSpec_mono (sub_sp0 hE) fun (x : Shp.Ds [elE, elE]) (y : Shp.Ds [elE]) hp h => by
 rw [show y.1 = _ from h]; exact sub_ok hp.1 hp.2
theorem mul_v {E : Env} (hE : E.ok) : SpecOk Try.prog E 21 mulV := fnSpec_mono (mul_sp0 hE) fun (x : Shp.Ds [elE, elE]) (y : Shp.Ds [elE]) hp h => by
 rw [show y.1 = _ from h]; exact mulL_val _ _ hp.1 hp.2
end Go.Proofs.Ytihnagafldpbnaa.V
