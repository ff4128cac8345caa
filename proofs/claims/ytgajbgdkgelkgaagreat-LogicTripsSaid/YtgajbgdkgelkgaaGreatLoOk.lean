/- Layer 17, plain: a core that calls lead to is in order. -/
import Derived.Test.YtgajbgdkgelkgaaGreatG19
import Derived.Test.YtgajbgdkgelkgaaGreatLoLoadsLaw
namespace Go.Proofs.YtgajbgdkgelkgaaGreat

theorem CoOk.does {m : Mx} {c : Co} (h : CoOk m c) (p : Op17) : CoOk m (doesC m p c).1 := by
  unfold doesC
  split
  · exact h.bypass _ _ _
  · split
    · exact h.drop _ _
    · split
      · exact h.reset _ _
      · exact h.scan _ _
end Go.Proofs.YtgajbgdkgelkgaaGreat
