/- THE PLAIN SIDE of SetupBounds: a setup that may be may not be with one of its numbers below 0, or too great. -/
import Derived.Test.YtnjckaifgmliaaaPlainHand2
set_option linter.unusedSimpArgs false
set_option linter.unusedVariables false
namespace Lu

def withP (j : Nat) (n : Int) (s : Setup) : Setup := match j with
  | 0 => { s with places := n }
  | 1 => { s with allow := n }
  | 2 => { s with unit := n }
  | 3 => { s with cap := n }
  | 4 => { s with paidBreak := n }
  | 5 => { s with autoAfter := n }
  | 6 => { s with autoBreak := n }
  | 7 => { s with dayReg := n }
  | 8 => { s with dayOver := n }
  | 9 => { s with weekReg := n }
  | 10 => { s with nightFrom := n }
  | 11 => { s with nightTo := n }
  | 12 => { s with diff := n }
  | 13 => { s with least := n }
  | _ => { s with fault := n }
theorem allP_one {lo hi z : Int} : allP lo hi [z] = (decide (lo ≤ z) && decide (z ≤ hi)) := by unfold allP; simp
theorem setup_parts {s : Setup} (h : setupP s = true) : allP 0 100 [s.allow] = true ∧ s.dayOver ≤ 86400 := by
  unfold setupP timesP at h
  simp only [Bool.and_eq_true] at h
  obtain ⟨⟨_, ⟨⟨⟨⟨⟨h1, _⟩, _⟩, h4⟩, _⟩, _⟩⟩, _⟩ := h
  exact ⟨h1, (allP_mem h4 (z := s.dayOver) (by simp)).2⟩
theorem out_of {n lo hi : Int} (h : n < 0 ∨ 604800 < n) (h2 : lo ≤ n ∧ n ≤ hi) (hl : 0 ≤ lo) (hh : hi ≤ 604800) : False := by omega
theorem with_no {s : Setup} (h : setupP s = true) (j : Nat) (n : Int) (hn : n < 0 ∨ 604800 < n) : setupP (withP j n s) = false := by
  have hd := (setup_parts h).2
  apply Classical.byContradiction
  intro hc
  have hc : setupP (withP j n s) = true := by simpa using hc
  unfold setupP placesP timesP moneyP at hc
  simp only [Bool.and_eq_true] at hc
  obtain ⟨⟨⟨⟨⟨hp, _⟩, _⟩, _⟩, ⟨⟨⟨⟨⟨t1, t2⟩, t3⟩, t4⟩, t5⟩, t6⟩⟩, ⟨⟨⟨⟨⟨_, _⟩, _⟩, hm⟩, _⟩, _⟩⟩ := hc
  have a0 := allP_mem hp (z := (withP j n s).places) (by simp)
  have a1 := allP_mem t1 (z := (withP j n s).allow) (by simp)
  have a2 := allP_mem t2 (z := (withP j n s).unit) (by simp)
  have a3 := allP_mem t3 (z := (withP j n s).cap) (by simp)
  have a4 := allP_mem t4 (z := (withP j n s).paidBreak) (by simp)
  have a5 := allP_mem t4 (z := (withP j n s).autoAfter) (by simp)
  have a6 := allP_mem t4 (z := (withP j n s).autoBreak) (by simp)
  have a7 := allP_mem t5 (z := (withP j n s).dayReg) (by simp)
  have a8 := allP_mem t4 (z := (withP j n s).dayOver) (by simp)
  have a9 := allP_mem t6 (z := (withP j n s).weekReg) (by simp)
  have a10 := allP_mem t4 (z := (withP j n s).nightFrom) (by simp)
  have a11 := allP_mem t4 (z := (withP j n s).nightTo) (by simp)
  have a12 := allP_mem hm (z := (withP j n s).diff) (by simp)
  have a13 := allP_mem hm (z := (withP j n s).least) (by simp)
  have a14 := allP_mem t4 (z := (withP j n s).fault) (by simp)
  rcases j with _ | _ | _ | _ | _ | _ | _ | _ | _ | _ | _ | _ | _ | _ | j
  · exact out_of hn (lo := 1) (hi := 16) a0 (by decide) (by decide)
  · exact out_of hn (lo := 0) (hi := 100) a1 (by decide) (by decide)
  · exact out_of hn (lo := 1) (hi := 3600) a2 (by decide) (by decide)
  · exact out_of hn (lo := 60) (hi := 57600) a3 (by decide) (by decide)
  · exact out_of hn (lo := 0) (hi := 86400) a4 (by decide) (by decide)
  · exact out_of hn (lo := 0) (hi := 86400) a5 (by decide) (by decide)
  · exact out_of hn (lo := 0) (hi := 86400) a6 (by decide) (by decide)
  · exact out_of hn (lo := 0) (hi := s.dayOver) a7 (by decide) (by omega)
  · exact out_of hn (lo := 0) (hi := 86400) a8 (by decide) (by decide)
  · exact out_of hn (lo := 0) (hi := 604800) a9 (by decide) (by decide)
  · exact out_of hn (lo := 0) (hi := 86400) a10 (by decide) (by decide)
  · exact out_of hn (lo := 0) (hi := 86400) a11 (by decide) (by decide)
  · exact out_of hn (lo := 0) (hi := 100000) a12 (by decide) (by decide)
  · exact out_of hn (lo := 0) (hi := 100000) a13 (by decide) (by decide)
  · exact out_of hn (lo := 0) (hi := 86400) a14 (by decide) (by decide)
theorem none_no (s : Setup) : setupP { s with rates := [] } = false := by
  unfold setupP moneyP
  simp
end Lu

