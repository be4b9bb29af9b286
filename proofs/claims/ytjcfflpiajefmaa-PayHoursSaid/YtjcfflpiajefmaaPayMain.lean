/- What pay.Of comes to where all is fair, in plain numbers: the laws' plain side. -/
import Derived.Test.YtjcfflpiajefmaaFair
set_option linter.unusedSimpArgs false
set_option linter.unusedVariables false
namespace Go.Proofs.Ytjcfflpiajefmaa
open Go.RowKit Lu

structure PayMain (s : Setup) (worker el tier x0 x1 x2 x3 x4 x5 x6 c0 c1 c2 c3 c4 c5 c6 b m g er rate : Int) : Prop where
  cz : c0 = 0
  ez : er = 0
  rt : s.rates.getD worker.toNat 0 = rate
  rr : 0 ≤ rate ∧ rate ≤ 100000
  ok : MoneyOk s
  k1 : centP rate s.diff (1 : Nat) x1 = c1
  k2 : centP rate s.diff (2 : Nat) x2 = c2
  k3 : centP rate s.diff (3 : Nat) x3 = c3
  k4 : centP rate s.diff (4 : Nat) x4 = c4
  k5 : centP rate s.diff (5 : Nat) x5 = c5
  k6 : centP rate s.diff (6 : Nat) x6 = c6
  bn : (if 0 ≤ tier ∧ tier < s.tiers.length then (halfP (secP el * (s.tiers.getD tier.toNat (0, 0)).2) 3600).1 else 0) = b
  mn : moreP (upP ((secP x1 + secP x2 + secP x3 + secP x4 + secP x5 + secP x6) * s.least) 3600).1 (c1 + c2 + c3 + c4 + c5 + c6 + b) = m
  gn : c1 + c2 + c3 + c4 + c5 + c6 + b + m = g
structure Fair (s : Setup) (worker : Int) (x : List Int) : Prop where
  secs : ∀ z ∈ x, 0 ≤ z ∧ z ≤ 604800
  few : fewP s = true
  ok : setupP s = true
  lo : 0 ≤ worker
  hi : worker < s.rates.length
theorem fair_of {s : Setup} {worker : Int} {x : List Int} (h : fairP s worker x = true) : Fair s worker x := by
  unfold fairP at h
  simp only [Bool.and_eq_true, decide_eq_true_eq] at h
  obtain ⟨⟨⟨⟨h1, h2⟩, h3⟩, h4⟩, h5⟩ := h
  refine ⟨fun z hz => ?_, h2, h3, h4, h5⟩
  unfold allP at h1
  have := List.all_eq_true.1 h1 z hz
  simp at this
  exact this
theorem payMain {s : Setup} {worker el tier x0 x1 x2 x3 x4 x5 x6 c0 c1 c2 c3 c4 c5 c6 b m g er : Int} {y : List Int} (hf : Fair s worker y) (hp : payP s worker el tier [x0, x1, x2, x3, x4, x5, x6] = ([c0, c1, c2, c3, c4, c5, c6], b, m, g, er)) : ∃ rate, PayMain s worker el tier x0 x1 x2 x3 x4 x5 x6 c0 c1 c2 c3 c4 c5 c6 b m g er rate := by
  unfold payP at hp
  rw [if_neg (by rw [hf.ok]; decide), if_neg (by simp; exact ⟨hf.lo, hf.hi⟩)] at hp
  simp only [Prod.mk.injEq, List.cons.injEq, and_true] at hp
  obtain ⟨⟨rfl, h1, h2, h3, h4, h5, h6⟩, hb, hm, hg, rfl⟩ := hp
  rw [hb, h1, h2, h3, h4, h5, h6] at hm hg
  rw [hm] at hg
  have M := moneyOk hf.ok
  have hpt : paidTo (fun j => [x0, x1, x2, x3, x4, x5, x6].getD j 0) 7 = secP x1 + secP x2 + secP x3 + secP x4 + secP x5 + secP x6 := by simp [paidTo]
  rw [hpt] at hm
  exact ⟨_, rfl, rfl, rfl, M.rates _ (getD_memI (by have := hf.lo; have := hf.hi; omega)), M, h1, h2, h3, h4, h5, h6, hb, hm, hg⟩
theorem upP_ge (a : Int) : a ≤ 3600 * (upP a 3600).1 ∧ 3600 * ((upP a 3600).1 - 1) < a := by
  unfold upP
  rw [if_neg (by decide)]
  split <;> simp only <;> omega
theorem halfP_near (a b : Int) (hb : 0 < b) : 2 * (b * (halfP a b).1 - a) ≤ b ∧ 2 * (a - b * (halfP a b).1) < b := by
  have h1 := Int.emod_add_mul_ediv a b
  have h2 := Int.emod_nonneg a (show b ≠ 0 by omega)
  have h3 := Int.emod_lt_of_pos a hb
  unfold halfP
  rw [if_neg (by omega)]
  split
  · rename_i c
    simp only
    rw [show b * (a / b + 1) = b * (a / b) + b by rw [Int.mul_add]; omega]
    omega
  · rename_i c
    simp only
    omega
section
variable {s : Setup} {worker el tier x0 x1 x2 x3 x4 x5 x6 c0 c1 c2 c3 c4 c5 c6 b m g er rate : Int}
theorem PayMain.bonus (h : PayMain s worker el tier x0 x1 x2 x3 x4 x5 x6 c0 c1 c2 c3 c4 c5 c6 b m g er rate) : 0 ≤ b ∧ b ≤ 60480000001 := by
  rw [← h.bn]
  split
  · rename_i hc
    have := half_range (b := 3600) (mul_range (secP_range el) (h.ok.tiers (s.tiers.getD tier.toNat (0, 0)) (getD_mem2 (by omega)))) (by decide)
    omega
  · omega

theorem PayMain.cent1 (h : PayMain s worker el tier x0 x1 x2 x3 x4 x5 x6 c0 c1 c2 c3 c4 c5 c6 b m g er rate) : 0 ≤ c1 ∧ c1 ≤ 362880000001 := by
  rw [← h.k1]
  exact centP_range h.rr h.ok.diff (by decide)
theorem PayMain.cent2 (h : PayMain s worker el tier x0 x1 x2 x3 x4 x5 x6 c0 c1 c2 c3 c4 c5 c6 b m g er rate) : 0 ≤ c2 ∧ c2 ≤ 362880000001 := by
  rw [← h.k2]
  exact centP_range h.rr h.ok.diff (by decide)
theorem PayMain.cent3 (h : PayMain s worker el tier x0 x1 x2 x3 x4 x5 x6 c0 c1 c2 c3 c4 c5 c6 b m g er rate) : 0 ≤ c3 ∧ c3 ≤ 362880000001 := by
  rw [← h.k3]
  exact centP_range h.rr h.ok.diff (by decide)
theorem PayMain.cent4 (h : PayMain s worker el tier x0 x1 x2 x3 x4 x5 x6 c0 c1 c2 c3 c4 c5 c6 b m g er rate) : 0 ≤ c4 ∧ c4 ≤ 362880000001 := by
  rw [← h.k4]
  exact centP_range h.rr h.ok.diff (by decide)
theorem PayMain.cent5 (h : PayMain s worker el tier x0 x1 x2 x3 x4 x5 x6 c0 c1 c2 c3 c4 c5 c6 b m g er rate) : 0 ≤ c5 ∧ c5 ≤ 362880000001 := by
  rw [← h.k5]
  exact centP_range h.rr h.ok.diff (by decide)
theorem PayMain.cent6 (h : PayMain s worker el tier x0 x1 x2 x3 x4 x5 x6 c0 c1 c2 c3 c4 c5 c6 b m g er rate) : 0 ≤ c6 ∧ c6 ≤ 362880000001 := by
  rw [← h.k6]
  exact centP_range h.rr h.ok.diff (by decide)
/-- PayLeast, in plain numbers. -/
theorem PayMain.least (h : PayMain s worker el tier x0 x1 x2 x3 x4 x5 x6 c0 c1 c2 c3 c4 c5 c6 b m g er rate) (hx1 : 0 ≤ x1 ∧ x1 ≤ 604800) (hx2 : 0 ≤ x2 ∧ x2 ≤ 604800) (hx3 : 0 ≤ x3 ∧ x3 ≤ 604800) (hx4 : 0 ≤ x4 ∧ x4 ≤ 604800) (hx5 : 0 ≤ x5 ∧ x5 ≤ 604800) (hx6 : 0 ≤ x6 ∧ x6 ≤ 604800) :
    0 ≤ m ∧ m ≤ 100000000000 ∧ (x1 + x2 + x3 + x4 + x5 + x6) * s.least ≤ g * 3600 ∧ (m = 0 ∨ (g - 1) * 3600 < (x1 + x2 + x3 + x4 + x5 + x6) * s.least) ∧ (0 < s.least ∨ m = 0) := by
  have e : secP x1 + secP x2 + secP x3 + secP x4 + secP x5 + secP x6 = x1 + x2 + x3 + x4 + x5 + x6 := by
    rw [secP_same hx1.1 hx1.2, secP_same hx2.1 hx2.2, secP_same hx3.1 hx3.2, secP_same hx4.1 hx4.2, secP_same hx5.1 hx5.2, secP_same hx6.1 hx6.2]
  have hm := h.mn
  have hg := h.gn
  rw [e] at hm
  have hr := mul_range (a := x1 + x2 + x3 + x4 + x5 + x6) (A := 3628800) (by omega) h.ok.least
  have hu := upP_ge ((x1 + x2 + x3 + x4 + x5 + x6) * s.least)
  have hL := up_range hr
  have hc1 := h.cent1
  have hc2 := h.cent2
  have hc3 := h.cent3
  have hc4 := h.cent4
  have hc5 := h.cent5
  have hc6 := h.cent6
  have hb := h.bonus
  have hl0 : s.least = 0 → (x1 + x2 + x3 + x4 + x5 + x6) * s.least = 0 := fun h => by rw [h]; simp
  have hl1 := h.ok.least
  generalize (x1 + x2 + x3 + x4 + x5 + x6) * s.least = p at *
  generalize (upP p 3600).1 = L at *
  unfold moreP at hm
  split at hm
  · refine ⟨by omega, by omega, by omega, by omega, ?_⟩
    by_cases z : s.least = 0
    · have := hl0 z; omega
    · omega
  · refine ⟨by omega, by omega, by omega, by omega, by omega⟩

end
/-- Numbers added up, onto one. -/
def addTo (C : Nat → Int) (a : Int) : Nat → Int
  | 0 => a
  | k + 1 => addTo C a k + C k
end Go.Proofs.Ytjcfflpiajefmaa
