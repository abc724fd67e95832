/-
  Which setups may be, in plain words.
-/
import Derived.Test.YtnhmibfgaoealaaGreatOs
import Derived.Test.YtnhmibfgaoealaaGreatCk0
namespace Go.Proofs.YtnhmibfgaoealaaGreat
set_option linter.unusedVariables false
set_option linter.unusedSimpArgs false

def chPlaces (s : Su) : Bool := [s.places].all (okIn 1 16) && decide ((s.ways.length : Int) ≤ 64) && s.ways.all (okWay s.places)
def chTables (s : Su) : Bool := [s.pace].all okShare && s.classes.all okShare && s.gears.all okShare && s.elements.all okEl && decide (max (max (s.elements.length : Int) (s.classes.length : Int)) (s.gears.length : Int) ≤ 8)
def chTimes (s : Su) : Bool := [s.allow].all (okIn 0 100) && [s.unit].all (okIn 1 3600) && [s.cap].all (okIn 60 57600) && [s.paid, s.after, s.auto, s.nfrom, s.nto, s.fault, s.dover].all (okIn 0 86400) && [s.dreg].all (okIn 0 s.dover) && [s.wreg].all (okIn 0 604800)
def chMoney (s : Su) : Bool := decide (0 < (s.rates.length : Int)) && decide ((s.rates.length : Int) ≤ 16) && s.rates.all (okIn 0 100000) && [s.diff, s.least].all (okIn 0 100000) && decide ((s.tiers.length : Int) ≤ 8) && okTiers (-1) s.tiers
def chk (s : Su) : Bool := chPlaces s && chTables s && chTimes s && chMoney s
theorem chk_times {s : Su} (h : chk s = true) : (0 ≤ s.paid ∧ s.paid ≤ 86400) ∧ (0 ≤ s.after ∧ s.after ≤ 86400) ∧ (0 ≤ s.auto ∧ s.auto ≤ 86400) ∧ (0 ≤ s.nfrom ∧ s.nfrom ≤ 86400) ∧ (0 ≤ s.nto ∧ s.nto ≤ 86400) ∧ (0 ≤ s.dreg ∧ s.dreg ≤ s.dover ∧ s.dover ≤ 86400) ∧ (0 ≤ s.wreg ∧ s.wreg ≤ 604800) := by
  unfold chk chTimes at h
  simp only [Bool.and_eq_true, List.all_cons, List.all_nil, okIn_iff] at h
  omega
end Go.Proofs.YtnhmibfgaoealaaGreat
