/- Contracts of functions that are known as such. -/
import Derived.Test.YtkeefgiajogkkaaVd
import Derived.Test.YtkeefgiajogkkaaVty
set_option linter.unusedVariables false
set_option linter.unusedSimpArgs false
namespace Go.Proofs.Ytkeefgiajogkkaa.V
open Go.RowKit
def fnFn (az rs : List Shp) (pre : Shp.Ds az → Prop) (F : Shp.Ds az → Shp.Ds rs) : Spec := fun lo hi id args s K =>
 match decArgs s.heap s.ents az args with
 | some d => obsK d.ob (Ob (fun u => pre (d.x u)) (match lfRs (leavess rs fun _ => F (d.x ())) [] id with
   | some (vs, news) => match packR rs vs with
     | some us => freshL lo hi s.heap s.ents news = true ∧ K (tupR us) ⟨s.fr, s.n, s.heap, catE news s.ents, s.next⟩
     | none => False
   | none => False))
 | none => False
theorem obsK_mono {K K' : Prop} (h : K → K') : ∀ {l : List (Unit → Prop)}, obsK l K → obsK l K'
 | [], hk => h hk
 | _ :: _, hk => ⟨hk.1, obsK_mono h hk.2⟩
theorem fnFn_of {P : Program} {E : Env} {f : FuncId} {az rs : List Shp} {pre : Shp.Ds az → Prop} {post : Shp.Ds az → Shp.Ds rs → Prop} {F : Shp.Ds az → Shp.Ds rs} (h : SpecOk P E f (fnSpec az rs [] pre post)) (hF : ∀ x y, post x y → y = F x) : SpecOk P E f (fnFn az rs pre F) := by
 refine ⟨h.fn, fun lo hi id args s K h1 h2 hs => h.calls lo hi id args s K h1 h2 ?_⟩
 unfold fnFn at hs
 unfold fnSpec
 cases hd : decArgs s.heap s.ents az args with
 | some d =>
   rw [hd] at hs
   refine obsK_mono ?_ hs
   rintro ⟨ho, hk⟩
   refine ⟨ho, ⟨fun y hy => ?_⟩⟩
   rw [hF _ _ hy.1]
   exact hk
 | none => rw [hd] at hs; exact hs
end Go.Proofs.Ytkeefgiajogkkaa.V
