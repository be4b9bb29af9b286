/- THE PLAIN SIDE of layer 7 (setup): what is fixed ahead, as plain data, and whether it may be. No Go in sight. -/
import Derived.Test.YtnjckaifgmliaaaPlainRatio
set_option linter.unusedSimpArgs false
set_option linter.unusedVariables false
namespace Lu

/-- All numbers lie from one to another one. -/
def allP (lo hi : Int) (l : List Int) : Bool := l.all fun z => decide (lo ≤ z) && decide (z ≤ hi)
theorem allP_cons {lo hi z : Int} {l : List Int} : allP lo hi (z :: l) = (decide (lo ≤ z) && decide (z ≤ hi) && allP lo hi l) := rfl

structure Setup where
  places : Int
  ways : List (Int × Int × Int)
  pn : Int
  pd : Int
  elements : List (Int × Int × Int × Int)
  classes : List (Int × Int)
  gears : List (Int × Int)
  allow : Int
  unit : Int
  cap : Int
  paidBreak : Int
  autoAfter : Int
  autoBreak : Int
  dayReg : Int
  dayOver : Int
  weekReg : Int
  nightFrom : Int
  nightTo : Int
  rates : List Int
  diff : Int
  least : Int
  fault : Int
  tiers : List (Int × Int)

/-- A share: a ratio that may be, and is not below 0. -/
def shareP (n d : Int) : Bool := decide (0 ≤ n) && decide (Ok n d)
def sharesP (l : List (Int × Int)) : Bool := l.all fun r => shareP r.1 r.2
def wayP (places : Int) (x : Int × Int × Int) : Bool := allP 0 (places - 1) [x.1, x.2.1] && !(x.1 == x.2.1) && allP 1 10000 [x.2.2]
def waysP (places : Int) (l : List (Int × Int × Int)) : Bool := l.all (wayP places)
def elementP (x : Int × Int × Int × Int) : Bool := shareP x.1 x.2.1 && shareP x.2.2.1 x.2.2.2
def elementsP (l : List (Int × Int × Int × Int)) : Bool := l.all elementP
def tierP (last : Int) (x : Int × Int) : Bool := decide (last < x.1) && decide (x.1 ≤ 1000) && allP 0 100000 [x.2]
def tiersP (last : Int) : List (Int × Int) → Bool
  | [] => true
  | x :: l => tierP last x && tiersP x.1 l
def placesP (s : Setup) : Bool := allP 1 16 [s.places] && decide (s.ways.length ≤ 64) && waysP s.places s.ways
def tablesP (s : Setup) : Bool := sharesP [(s.pn, s.pd)] && sharesP s.classes && sharesP s.gears && elementsP s.elements && decide (max s.elements.length (max s.classes.length s.gears.length) ≤ 8)
def timesP (s : Setup) : Bool := allP 0 100 [s.allow] && allP 1 3600 [s.unit] && allP 60 57600 [s.cap] && allP 0 86400 [s.paidBreak, s.autoAfter, s.autoBreak, s.nightFrom, s.nightTo, s.fault, s.dayOver] && allP 0 s.dayOver [s.dayReg] && allP 0 604800 [s.weekReg]
def moneyP (s : Setup) : Bool := decide (0 < s.rates.length) && decide (s.rates.length ≤ 16) && allP 0 100000 s.rates && allP 0 100000 [s.diff, s.least] && decide (s.tiers.length ≤ 8) && tiersP (-1) s.tiers
def setupP (s : Setup) : Bool := placesP s && tablesP s && timesP s && moneyP s
end Lu
