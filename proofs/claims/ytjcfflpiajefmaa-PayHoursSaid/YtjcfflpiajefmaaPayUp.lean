/- pay.Of and its reference, each with ONE contract: what both come to. -/
import Derived.Test.YtjcfflpiajefmaaPayOf2
import Derived.Test.YtjcfflpiajefmaaRef19C
set_option linter.unusedSimpArgs false
set_option linter.unusedVariables false
namespace Go.Proofs.Ytjcfflpiajefmaa
open Go.RowKit Lu

/-- What a worker gets: cents, bonus, makeup, gross, error. -/
def payP (s : Setup) (worker el tier : Int) (x : List Int) : List Int × Int × Int × Int × Int :=
  if setupP s = false then ([0, 0, 0, 0, 0, 0, 0], 0, 0, 0, 70)
  else if ¬ (0 ≤ worker ∧ worker < s.rates.length) then ([0, 0, 0, 0, 0, 0, 0], 0, 0, 0, 80)
  else
    let rate := s.rates.getD worker.toNat 0
    let C : Nat → Int := fun j => centP rate s.diff j (x.getD j 0)
    let b := if 0 ≤ tier ∧ tier < s.tiers.length then (halfP (secP el * (s.tiers.getD tier.toNat (0, 0)).2) 3600).1 else 0
    let m := moreP (upP (paidTo (fun j => x.getD j 0) 7 * s.least) 3600).1 (C 1 + C 2 + C 3 + C 4 + C 5 + C 6 + b)
    ([0, C 1, C 2, C 3, C 4, C 5, C 6], b, m, C 1 + C 2 + C 3 + C 4 + C 5 + C 6 + b + m, 0)
theorem payP_shape (s : Setup) (worker el tier : Int) (x : List Int) : ∃ c0 c1 c2 c3 c4 c5 c6 b m g e, payP s worker el tier x = ([c0, c1, c2, c3, c4, c5, c6], b, m, g, e) := by
  unfold payP
  split
  · exact ⟨_, _, _, _, _, _, _, _, _, _, _, rfl⟩
  · split
    · exact ⟨_, _, _, _, _, _, _, _, _, _, _, rfl⟩
    · exact ⟨_, _, _, _, _, _, _, _, _, _, _, rfl⟩
structure MoneyOk (s : Setup) : Prop where
  rates : ∀ r ∈ s.rates, 0 ≤ r ∧ r ≤ 100000
  diff : 0 ≤ s.diff ∧ s.diff ≤ 100000
  least : 0 ≤ s.least ∧ s.least ≤ 100000
  tiers : ∀ t ∈ s.tiers, 0 ≤ t.2 ∧ t.2 ≤ 100000
theorem tiersP_bonus {last : Int} {l : List (Int × Int)} (h : tiersP last l = true) : ∀ t ∈ l, 0 ≤ t.2 ∧ t.2 ≤ 100000 := by
  induction l generalizing last with
  | nil => simp
  | cons x l ih =>
    have h' : (tierP last x && tiersP x.1 l) = true := h
    rw [Bool.and_eq_true] at h'
    intro t ht
    rcases List.mem_cons.1 ht with rfl | ht
    · have := h'.1
      unfold tierP at this
      rw [allP_one] at this
      simp at this
      exact this.2
    · exact ih h'.2 t ht
theorem moneyOk {s : Setup} (h : setupP s = true) : MoneyOk s := by
  have hm : moneyP s = true := by unfold setupP at h; rw [Bool.and_eq_true] at h; exact h.2
  rw [moneyP_eq] at hm
  simp only [Bool.and_eq_true] at hm
  obtain ⟨⟨⟨⟨⟨h1, h2⟩, _⟩, _⟩, h3⟩, h4⟩ := hm
  refine ⟨fun r hr => ?_, ?_, ?_, tiersP_bonus h2⟩
  · unfold allP at h1
    have := List.all_eq_true.1 h1 r hr
    simp at this
    exact this
  · rw [allP_one] at h3; simp at h3; exact h3
  · rw [allP_one] at h4; simp at h4; exact h4
theorem getD_memI {l : List Int} {k : Nat} (h : k < l.length) : l.getD k 0 ∈ l := by
  rw [List.getD_eq_getElem?_getD, List.getElem?_eq_getElem h]; simp


theorem pay_Of_is (s : Setup) (q : Slices) (worker x0 x1 x2 x3 x4 x5 x6 el tier : Int) (c0 c1 c2 c3 c4 c5 c6 b m g e : Int) (w : World) (h : SetupIs w s q) (hp : payP s worker el tier [x0, x1, x2, x3, x4, x5, x6] = ([c0, c1, c2, c3, c4, c5, c6], b, m, g, e)) :
    Calls Try.prog 16 #[.agg #[.int .i64 s.places, .slice q.wa q.wl q.wc, .int .i64 s.pn, .int .i64 s.pd, .slice q.ea q.el q.ec, .slice q.ca q.cl q.cc, .slice q.ga q.gl q.gc, .int .i64 s.allow, .int .i64 s.unit, .int .i64 s.cap, .int .i64 s.paidBreak, .int .i64 s.autoAfter, .int .i64 s.autoBreak, .int .i64 s.dayReg, .int .i64 s.dayOver, .int .i64 s.weekReg, .int .i64 s.nightFrom, .int .i64 s.nightTo, .slice q.ra q.rl q.rc, .int .i64 s.diff, .int .i64 s.least, .int .i64 s.fault, .slice q.ta q.tl q.tc], .int .i64 worker, .agg #[.int .i64 x0, .int .i64 x1, .int .i64 x2, .int .i64 x3, .int .i64 x4, .int .i64 x5, .int .i64 x6], .int .i64 el, .int .i64 tier] w fun e' w' => e' = .returned (.tuple #[.agg #[.int .i64 c0, .int .i64 c1, .int .i64 c2, .int .i64 c3, .int .i64 c4, .int .i64 c5, .int .i64 c6], .int .i64 b, .int .i64 m, .int .i64 g, .int .i64 e]) ∧ Below w.heap.size w w' := by
  unfold payP at hp
  by_cases hc : setupP s = false
  · rw [if_pos hc] at hp
    simp only [Prod.mk.injEq, List.cons.injEq, and_true] at hp
    obtain ⟨⟨rfl, rfl, rfl, rfl, rfl, rfl, rfl⟩, rfl, rfl, rfl, rfl⟩ := hp
    exact pay_Of_setup s q worker x0 x1 x2 x3 x4 x5 x6 el tier w h hc
  · rw [if_neg hc] at hp
    have hc' : setupP s = true := by simpa using hc
    by_cases hw : 0 ≤ worker ∧ worker < s.rates.length
    · rw [if_neg (by simpa using hw)] at hp
      have M := moneyOk hc'
      simp only [Prod.mk.injEq, List.cons.injEq, and_true] at hp
      obtain ⟨⟨rfl, h1, h2, h3, h4, h5, h6⟩, hb, hm, hg, rfl⟩ := hp
      rw [hb] at hm hg
      rw [hm] at hg
      have := pay_Of_pays s q worker x0 x1 x2 x3 x4 x5 x6 el tier w h hc' hw _ _ _ _ _ rfl (fun j _ => rfl) (M.rates _ (getD_memI (by omega))) M.diff M.least M.tiers hb hm hg
      simp only [h1, h2, h3, h4, h5, h6] at this
      exact this
    · rw [if_pos hw] at hp
      simp only [Prod.mk.injEq, List.cons.injEq, and_true] at hp
      obtain ⟨⟨rfl, rfl, rfl, rfl, rfl, rfl, rfl⟩, rfl, rfl, rfl, rfl⟩ := hp
      exact pay_Of_worker s q worker x0 x1 x2 x3 x4 x5 x6 el tier w h hc' hw


theorem ref19_Of_is (s : Setup) (q : Slices) (worker x0 x1 x2 x3 x4 x5 x6 el tier : Int) (c0 c1 c2 c3 c4 c5 c6 b m g e : Int) (w : World) (h : SetupIs w s q) (hp : payP s worker el tier [x0, x1, x2, x3, x4, x5, x6] = ([c0, c1, c2, c3, c4, c5, c6], b, m, g, e)) :
    Calls Try.prog 17 #[.agg #[.int .i64 s.places, .slice q.wa q.wl q.wc, .int .i64 s.pn, .int .i64 s.pd, .slice q.ea q.el q.ec, .slice q.ca q.cl q.cc, .slice q.ga q.gl q.gc, .int .i64 s.allow, .int .i64 s.unit, .int .i64 s.cap, .int .i64 s.paidBreak, .int .i64 s.autoAfter, .int .i64 s.autoBreak, .int .i64 s.dayReg, .int .i64 s.dayOver, .int .i64 s.weekReg, .int .i64 s.nightFrom, .int .i64 s.nightTo, .slice q.ra q.rl q.rc, .int .i64 s.diff, .int .i64 s.least, .int .i64 s.fault, .slice q.ta q.tl q.tc], .int .i64 worker, .agg #[.int .i64 x0, .int .i64 x1, .int .i64 x2, .int .i64 x3, .int .i64 x4, .int .i64 x5, .int .i64 x6], .int .i64 el, .int .i64 tier] w fun e' w' => e' = .returned (.agg #[.int .i64 c0, .int .i64 c1, .int .i64 c2, .int .i64 c3, .int .i64 c4, .int .i64 c5, .int .i64 c6, .int .i64 b, .int .i64 m, .int .i64 g, .int .i64 e]) ∧ Below w.heap.size w w' := by
  unfold payP at hp
  by_cases hc : setupP s = false
  · rw [if_pos hc] at hp
    simp only [Prod.mk.injEq, List.cons.injEq, and_true] at hp
    obtain ⟨⟨rfl, rfl, rfl, rfl, rfl, rfl, rfl⟩, rfl, rfl, rfl, rfl⟩ := hp
    exact ref19_Of_setup s q worker x0 x1 x2 x3 x4 x5 x6 el tier w h hc
  · rw [if_neg hc] at hp
    have hc' : setupP s = true := by simpa using hc
    by_cases hw : 0 ≤ worker ∧ worker < s.rates.length
    · rw [if_neg (by simpa using hw)] at hp
      have M := moneyOk hc'
      simp only [Prod.mk.injEq, List.cons.injEq, and_true] at hp
      obtain ⟨⟨rfl, h1, h2, h3, h4, h5, h6⟩, hb, hm, hg, rfl⟩ := hp
      rw [hb] at hm hg
      rw [hm] at hg
      have := ref19_Of_pays s q worker x0 x1 x2 x3 x4 x5 x6 el tier w h hc' hw _ _ _ _ _ rfl (fun j _ => rfl) (M.rates _ (getD_memI (by omega))) M.diff M.least M.tiers hb hm hg
      simp only [h1, h2, h3, h4, h5, h6] at this
      exact this
    · rw [if_pos hw] at hp
      simp only [Prod.mk.injEq, List.cons.injEq, and_true] at hp
      obtain ⟨⟨rfl, rfl, rfl, rfl, rfl, rfl, rfl⟩, rfl, rfl, rfl, rfl⟩ := hp
      exact ref19_Of_worker s q worker x0 x1 x2 x3 x4 x5 x6 el tier w h hc' hw

end Go.Proofs.Ytjcfflpiajefmaa
