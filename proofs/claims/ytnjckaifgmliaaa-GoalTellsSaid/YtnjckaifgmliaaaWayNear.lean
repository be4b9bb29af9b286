/- way.Table's table in memory; its closure. -/
import Derived.Test.YtnjckaifgmliaaaRepeat
import Derived.Test.YtnjckaifgmliaaaPlainWay4
import Derived.Test.YtnjckaifgmliaaaSetupCheck
set_option linter.unusedSimpArgs false
set_option linter.unusedVariables false
namespace Go.Proofs.Ytnjckaifgmliaaa
open Go.RowKit Lu

/-- A table: in block o the rows' slices, each row in a block of its own, from 'base' on; K rows are there, of P numbers. -/
structure Tab (W : World) (o base P K : Nat) (rb : Nat → Nat) (t : Nat → Nat → Int) : Prop where
  ob : o < base
  low : ∀ i, i < K → base ≤ rb i
  lt : ∀ i, i < K → rb i < W.heap.size
  inj : ∀ i j, i < K → j < K → rb i = rb j → i = j
  hdr : ∀ i, i < K → W.cell? ⟨o, i, none⟩ = some (.slice (some ⟨rb i, 0, none⟩) P P)
  cell : ∀ i j, i < K → j < P → W.cell? ⟨rb i, j, none⟩ = some (.int .i64 (t i j))
  fz : ∀ i j, i < K → j < P → W.frozen? ⟨rb i, j, none⟩ = false
def updT (t : Nat → Nat → Int) (a b : Nat) (v : Int) : Nat → Nat → Int := fun i j => if i = a ∧ j = b then v else t i j
theorem Tab.set {W : World} {o base P K : Nat} {rb : Nat → Nat} {t : Nat → Nat → Int} (h : Tab W o base P K rb t) (a b : Nat) (ha : a < K) (hb : b < P) (v : Int) :
    Tab (W.setCell ⟨rb a, b, none⟩ (.int .i64 v)) o base P K rb (updT t a b v) ∧ Below base W (W.setCell ⟨rb a, b, none⟩ (.int .i64 v)) := by
  have lo := h.low a ha
  have k : Below base W (W.setCell ⟨rb a, b, none⟩ (.int .i64 v)) := by go_grown
  have hob := h.ob
  refine ⟨⟨h.ob, h.low, fun i hi => Nat.lt_of_lt_of_le (h.lt i hi) k.size, h.inj, fun i hi => keepC k (h.hdr i hi) (by simp only; omega), fun i j hi hj => ?_, fun i j hi hj => ?_⟩, k⟩
  · have hc := h.cell a b ha hb
    unfold updT
    by_cases e : i = a ∧ j = b
    · obtain ⟨rfl, rfl⟩ := e
      simp [go_sem, hc]
    · rw [if_neg e]
      have hne : (⟨rb i, j, none⟩ : Addr) ≠ ⟨rb a, b, none⟩ := by
        intro x
        injection x with x1 x2
        exact e ⟨h.inj i a hi ha x1, x2⟩
      have hci := h.cell i j hi hj
      have hne' : ¬ (rb a = rb i ∧ b = j) := fun x => hne (by rw [x.1, x.2])
      simp [go_sem, hci, hne']
  · simp [go_sem, h.fz i j hi hj]
theorem Tab.below {W W' : World} {o base P K : Nat} {rb : Nat → Nat} {t : Nat → Nat → Int} (h : Tab W o base P K rb t) (ho : o < W.heap.size) (k : Below W.heap.size W W') : Tab W' o base P K rb t :=
  ⟨h.ob, h.low, fun i hi => Nat.lt_of_lt_of_le (h.lt i hi) k.size, h.inj, fun i hi => keepC k (h.hdr i hi) ho, fun i j hi hj => keepC k (h.cell i j hi hj) (h.lt i hi), fun i j hi hj => keepF k (h.fz i j hi hj) (h.lt i hi)⟩
theorem Tab.drewN {W : World} {o base P K : Nat} {rb : Nat → Nat} {t : Nat → Nat → Int} (h : Tab W o base P K rb t) (n : Nat) : Tab (W.drewN n) o base P K rb t := ⟨h.ob, h.low, h.lt, h.inj, h.hdr, h.cell, h.fz⟩
theorem Tab.same {W : World} {o base P K : Nat} {rb : Nat → Nat} {t t' : Nat → Nat → Int} (h : Tab W o base P K rb t) (e : ∀ i j, i < K → j < P → t i j = t' i j) : Tab W o base P K rb t' :=
  ⟨h.ob, h.low, h.lt, h.inj, h.hdr, fun i j hi hj => by rw [← e i j hi hj]; exact h.cell i j hi hj, h.fz⟩

def NearDone (o base P : Nat) (rb : Nat → Nat) (t : Nat → Nat → Int) (W : World) (e : Ending) (w' : World) : Prop :=
  e = .returned (.tuple #[]) ∧ Tab w' o base P P rb t ∧ Below base W w' ∧ ∀ b c, (∀ i, i < P → rb i ≠ b) → w'.cell? ⟨b, c, none⟩ = W.cell? ⟨b, c, none⟩
set_option maxHeartbeats 1000000 in
theorem way_near (o base P : Nat) (rb : Nat → Nat) (t : Nat → Nat → Int) (p a b : Nat) (n : Int) (W : World) (h : Tab W o base P P rb t) (hp : W.cell? ⟨p, 0, none⟩ = some (.slice (some ⟨o, 0, none⟩) P P)) (ha : a < P) (hb : b < P) (hP : P ≤ 16) :
    Calls Try.prog 104 #[.int .i64 a, .int .i64 b, .int .i64 n, .pointer (some ⟨p, 0, none⟩)] W (NearDone o base P rb (near t a b n) W) := by
  have c1 := h.hdr a ha
  have c2 := h.cell a b ha hb
  have f2 := h.fz a b ha hb
  have ha0 : (0 : Int) ≤ (a : Int) := by omega
  have ha1 : (a : Int) < (P : Int) := by omega
  have hb0 : (0 : Int) ≤ (b : Int) := by omega
  have hb1 : (b : Int) < (P : Int) := by omega
  have key : ∀ v, v = nearV (t a b) n → updT t a b v = near t a b n := fun v hv => by rw [hv]; rfl
  have hset := h.set a b ha hb n
  obtain ⟨x, hx⟩ : ∃ x, t a b = x := ⟨_, rfl⟩
  rw [hx] at c2 key
  have HX := Lib.hid hx
  have HK := Lib.hid key
  have HS := Lib.hid hset
  have H := Lib.hid h
  clear hx key hset h
  have keep : ¬ (x = -1 ∨ n < x) → Tab W o base P P rb (near t a b n) := fun c => H.out.same fun i j hi hj => by
    unfold near
    split
    · rename_i e
      obtain ⟨rfl, rfl⟩ := e
      rw [HX.out]
      unfold nearV
      rw [if_neg c]
    · rfl
  have KEEP := Lib.hid keep
  clear keep
  by_cases q1 : x = -1
  · have e1 : (x == -1) = true := by simp [q1]
    clear q1
    go_enter Try.func104, Try.ntmps104
    go_wp2_with fail
    go_end0
    refine ⟨rfl, ?_, HS.out.2, fun b' c' hb' => by have := hb' a ha; simp [go_sem, this]⟩
    rw [← HK.out n (by unfold nearV; rw [if_pos (.inl (by simpa using e1))])]
    exact HS.out.1
  · have e1 : (x == -1) = false := by simp [q1]
    by_cases q2 : n < x
    · have e2 : decide (n < x) = true := by simp [q2]
      go_enter Try.func104, Try.ntmps104
      go_wp2_with fail
      go_end0
      refine ⟨rfl, ?_, HS.out.2, fun b' c' hb' => by have := hb' a ha; simp [go_sem, this]⟩
      rw [← HK.out n (by unfold nearV; rw [if_pos (.inr q2)])]
      exact HS.out.1
    · have e2 : decide (n < x) = false := by simp; omega
      go_enter Try.func104, Try.ntmps104
      go_wp2_with fail
      go_end0
      exact ⟨rfl, KEEP.out (by omega), Below.refl _ _, fun _ _ _ => rfl⟩
end Go.Proofs.Ytnjckaifgmliaaa
