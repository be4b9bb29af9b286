/- THE WALKS of layer 19's reference (lumperref19): time, near; what its Of keeps in memory. -/
import Derived.Test.YtjcfflpiajefmaaRef07D
import Derived.Test.YtjcfflpiajefmaaPlainPay
set_option linter.unusedSimpArgs false
set_option linter.unusedVariables false
namespace Go.Proofs.Ytjcfflpiajefmaa
open Go.RowKit Lu

theorem ref19_time (n r : Int) (w : World) (hr : secP n = r) :
    Calls Try.prog 34 #[.int .i64 n] w fun e w' => e = .returned (.int .i64 r) ∧ w = w' := by
  have hs := hr
  unfold secP at hs
  have HR := Lib.hid hr
  clear hr
  go_enter Try.func34, Try.ntmps34
  go_wp2
  all_goals
    go_ret
    refine ⟨?_, rfl⟩
    apply ret_i64
    split at hs <;> (try split at hs) <;> omega
theorem ref19_near (a b r : Int) (w : World) (ha : In a) (hb : In b) (hr : (halfP a b).1 = r) :
    Calls Try.prog 33 #[.int .i64 a, .int .i64 b] w fun e w' => e = .returned (.int .i64 r) ∧ w = w' := by
  have h := ref_Half a b ha hb w
  obtain ⟨s, x, hx⟩ : ∃ s x, halfP a b = (s, x) := ⟨_, _, rfl⟩
  rw [hx] at hr h
  subst hr
  have H := Lib.hid h
  clear h hx
  go_enter Try.func33, Try.ntmps33
  go_wp2_with fail
  refine H.out.mono ?_
  rintro e w1 ⟨rfl, rfl⟩
  go_wp2_with fail
  go_ret
  exact ⟨rfl, rfl⟩

/-- What a worker gets lies in a block; the setup and the seconds lie as they came. -/
structure RefPay (w W : World) (s : Setup) (q : Slices) (Y : Nat → Int) (P : Nat) (f : Nat → Int) : Prop where
  bel : Below w.heap.size w W
  low : w.heap.size + 2 < P
  lt : P < W.heap.size
  pay : ∀ j : Nat, j < 11 → W.cell? ⟨P, j, none⟩ = some (.int .i64 (f j))
  fz : ∀ j : Nat, j < 11 → W.frozen? ⟨P, j, none⟩ = false
  sec : ∀ j : Nat, j < 7 → W.cell? ⟨w.heap.size + 1, j, none⟩ = some (.int .i64 (Y j))
  diff : W.cell? ⟨w.heap.size, 19, none⟩ = some (.int .i64 s.diff)
  least : W.cell? ⟨w.heap.size, 20, none⟩ = some (.int .i64 s.least)
  tiers : W.cell? ⟨w.heap.size, 22, none⟩ = some (.slice q.ta q.tl q.tc)
  res : ∀ j : Nat, j < 11 → W.cell? ⟨w.heap.size + 2, j, none⟩ = some (.int .i64 0)
  rfz : ∀ j : Nat, j < 11 → W.frozen? ⟨w.heap.size + 2, j, none⟩ = false
def upd (f : Nat → Int) (j : Nat) (v : Int) : Nat → Int := fun i => if i = j then v else f i
theorem RefPay.set {w W : World} {s : Setup} {q : Slices} {Y : Nat → Int} {P : Nat} {f : Nat → Int} (h : RefPay w W s q Y P f) (j : Nat) (v : Int) (hj : j < 11) :
    RefPay w (W.setCell ⟨P, j, none⟩ (.int .i64 v)) s q Y P (upd f j v) := by
  have k : Below P W (W.setCell ⟨P, j, none⟩ (.int .i64 v)) := by go_grown
  have lo := h.low
  refine ⟨h.bel.trans (k.mono (by omega)), h.low, Nat.lt_of_lt_of_le h.lt k.size, fun i hi => ?_, fun i hi => ?_, fun i hi => keepC k (h.sec i hi) (by simp only; omega), keepC k h.diff (by simp only; omega), keepC k h.least (by simp only; omega), keepC k h.tiers (by simp only; omega), fun i hi => keepC k (h.res i hi) (by simp only; omega), fun i hi => keepF k (h.rfz i hi) (by simp only; omega)⟩
  · have hp := h.pay j hj
    by_cases e : i = j
    · subst e
      simp [go_sem, hp, upd]
    · have e' : ¬ j = i := fun x => e x.symm
      simp [go_sem, h.pay i hi, upd, e, e']
  · simp [go_sem, h.fz i hi]
theorem RefPay.drewN {w W : World} {s : Setup} {q : Slices} {Y : Nat → Int} {P : Nat} {f : Nat → Int} (h : RefPay w W s q Y P f) (n : Nat) : RefPay w (W.drewN n) s q Y P f :=
  ⟨(below_drewN_iff n).2 h.bel, h.low, h.lt, h.pay, h.fz, h.sec, h.diff, h.least, h.tiers, h.res, h.rfz⟩
theorem RefPay.drew {w W : World} {s : Setup} {q : Slices} {Y : Nat → Int} {P : Nat} {f : Nat → Int} (h : RefPay w W s q Y P f) : RefPay w W.drew s q Y P f :=
  ⟨h.bel.drew, h.low, h.lt, h.pay, h.fz, h.sec, h.diff, h.least, h.tiers, h.res, h.rfz⟩
/-- The world behind a name. -/
theorem gen_wp {P : Program} {c : Code} {Q : Exit → Act → World → Prop} {a : Act} {w : World} (S : World → Prop) (h : S w) (k : ∀ W, S W → Code.wp P c Q a W) : Code.wp P c Q a w := k w h

theorem halfP_two (a b : Int) (hb : 0 < b) : (halfP (2 * a) (2 * b)).1 = (halfP a b).1 := by
  have h1 : (2 * a) / (2 * b) = a / b := Int.mul_ediv_mul_of_pos a b (by decide)
  have h2 : (2 * a) % (2 * b) = 2 * (a % b) := Int.mul_emod_mul_of_pos a b (by decide)
  have e1 : halfP (2 * a) (2 * b) = (if 2 * b - 2 * a % (2 * b) ≤ 2 * a % (2 * b) then 2 * a / (2 * b) + 1 else 2 * a / (2 * b), 0) := by unfold halfP; rw [if_neg (by omega)]
  have e2 : halfP a b = (if b - a % b ≤ a % b then a / b + 1 else a / b, 0) := by unfold halfP; rw [if_neg (by omega)]
  rw [e1, e2, h1, h2]
  by_cases c : b - a % b ≤ a % b
  · rw [if_pos c, if_pos (by omega)]
  · rw [if_neg c, if_neg (by omega)]
theorem cent1 (r d x t : Int) (hx : secP x = t) : (halfP (t * r) 3600).1 = centP r d 1 x := by
  unfold centP twiceP
  rw [if_pos (by decide), hx, ← halfP_two _ _ (by decide)]
  congr 2
  rw [show (1 + 1 : Int) = 2 by decide, Int.mul_comm 2, Int.mul_assoc]
theorem cent2 (r d x t : Int) (hx : secP x = t) : (halfP (t * r * 3) 7200).1 = centP r d 2 x := by
  unfold centP twiceP
  rw [if_pos (by decide), hx]
  congr 2
  rw [show (2 + 1 : Int) = 3 by decide, Int.mul_assoc]
theorem cent3 (r d x t : Int) (hx : secP x = t) : (halfP (t * r * 2) 3600).1 = centP r d 3 x := by
  unfold centP twiceP
  rw [if_pos (by decide), hx, ← halfP_two _ _ (by decide)]
  congr 2
  rw [show (3 + 1 : Int) = 2 * 2 by decide, Int.mul_comm 2, Int.mul_assoc, Int.mul_assoc]
theorem cent4 (r d x t : Int) (hx : secP x = t) : (halfP (t * (r + d)) 3600).1 = centP r d 4 x := by
  unfold centP twiceP
  rw [if_neg (by decide), hx, ← halfP_two _ _ (by decide)]
  congr 2
  rw [Int.mul_comm 2, Int.mul_assoc]
  congr 1
  omega
theorem cent5 (r d x t : Int) (hx : secP x = t) : (halfP (t * (r * 3 + d * 2)) 7200).1 = centP r d 5 x := by
  unfold centP twiceP
  rw [if_neg (by decide), hx]
  congr 2
  congr 1
  omega
theorem cent6 (r d x t : Int) (hx : secP x = t) : (halfP (t * (r * 2 + d)) 3600).1 = centP r d 6 x := by
  unfold centP twiceP
  rw [if_neg (by decide), hx, ← halfP_two _ _ (by decide)]
  congr 2
  rw [Int.mul_comm 2, Int.mul_assoc]
  congr 1
  omega
/-- All cents of the first categories, and the bonus. -/
def gotTo (C : Nat → Int) (b : Int) : Nat → Int
  | 0 => b
  | k + 1 => gotTo C b k + if k = 0 then 0 else C k
end Go.Proofs.Ytjcfflpiajefmaa
