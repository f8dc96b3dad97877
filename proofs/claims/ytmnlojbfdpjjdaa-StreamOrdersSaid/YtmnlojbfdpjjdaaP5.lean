/- StreamServes, plainly: what was asked is sound; what the end loops meet. -/
import Derived.Test.YtmnlojbfdpjjdaaP4
namespace Go.Proofs.Ytmnlojbfdpjjdaa
def Fo (f : Int → Option Op) : Prop := ∀ t x, f t = some x → OpIn x
theorem askR_ok {st : St} {x : Op} (h : (askR st x).2.2 = 0) : OpIn x := by
  unfold askR at h
  split at h
  · next he => exact absurd h he
  · next he => exact (checkE_ok (by simpa using he)).1
theorem Fo.doR {f : Int → Option Op} (h : Fo f) (st : St) (x : Ac) : Fo (askF f x (Ytmnlojbfdpjjdaa.doR st x).2) := by
  unfold askF
  split
  · next hk =>
    intro t y hy
    unfold upd at hy
    split at hy
    · injection hy with hy
      subst hy
      have hr : (Ytmnlojbfdpjjdaa.doR st x).2.err = (askR st x.op).2.2 := by unfold Ytmnlojbfdpjjdaa.doR; rw [if_pos hk.1]
      exact askR_ok (hr ▸ hk.2)
    · exact h t y hy
  · exact h
/-- the answered tickets of a key, among the first j -/
def lastK (f : Int → Option Op) (As : List An) (k e : Int) : Option Int := ((As.map An.tk).filter (keyB f k e)).getLast?
theorem lastK_snoc (f : Int → Option Op) (As : List An) (a : An) (k e : Int) : lastK f (As ++ [a]) k e = if keyB f k e a.tk then some a.tk else lastK f As k e := by
  unfold lastK
  rw [List.map_append, List.filter_append, List.map_singleton, List.filter_cons, List.filter_nil]
  split <;> simp
end Go.Proofs.Ytmnlojbfdpjjdaa
