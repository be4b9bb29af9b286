/- THE PLAIN SIDE of layer 8 (event): what a worker did, as plain data, and whether it may be. No Go in sight. -/
import Derived.Test.YtnjckaifgmliaaaPlainSetup
set_option linter.unusedSimpArgs false
set_option linter.unusedVariables false
namespace Lu

structure Evt where
  id : Int
  worker : Int
  at' : Int
  kind : Int
  from' : Int
  to' : Int
  element : Int
  units : Int
  class' : Int
  gear : Int
  code : Int

/-- An event is fair: its numbers are not below 0, nor too great, and those of other kinds are 0. -/
def fairE (e : Evt) : Prop :=
  (1 ≤ e.kind ∧ e.kind ≤ 7) ∧ (0 ≤ e.id ∧ e.id ≤ 100000) ∧ 0 ≤ e.worker ∧ (0 ≤ e.at' ∧ e.at' ≤ 31449599) ∧
  (if e.kind = 3 then 0 ≤ e.from' ∧ 0 ≤ e.to' ∧ 0 ≤ e.element ∧ 0 ≤ e.units ∧ 0 ≤ e.class' ∧ 0 ≤ e.gear
    else e.from' = 0 ∧ e.to' = 0 ∧ e.element = 0 ∧ e.units = 0 ∧ e.class' = 0 ∧ e.gear = 0) ∧
  (if e.kind = 4 then 0 ≤ e.code else e.code = 0)
instance (e : Evt) : Decidable (fairE e) := by unfold fairE; infer_instance
def eventE (s : Setup) (e : Evt) : Prop :=
  fairE e ∧ e.worker < s.rates.length ∧
  (if e.kind = 3 then e.from' < s.places ∧ e.to' < s.places ∧ e.element < s.elements.length ∧ e.class' < s.classes.length ∧ e.gear < s.gears.length ∧ e.units ≤ 10000
    else e.code ≤ 99)
instance (s : Setup) (e : Evt) : Decidable (eventE s e) := by unfold eventE; infer_instance
def fairP (e : Evt) : Bool := decide (fairE e)
theorem fair_true {x : Evt} (h : fairE x) : fairP x = true := decide_eq_true h
theorem fair_false {x : Evt} (h : ¬ fairE x) : fairP x = false := decide_eq_false h
def eventP (s : Setup) (e : Evt) : Bool := decide (eventE s e)
end Lu
