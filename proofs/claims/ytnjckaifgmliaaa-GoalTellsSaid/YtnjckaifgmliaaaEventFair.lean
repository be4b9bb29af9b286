/- event.fair: whether an event is fair. -/
import Derived.Test.YtnjckaifgmliaaaEventOwn
import Derived.Test.YtnjckaifgmliaaaBlocks
set_option linter.unusedSimpArgs false
set_option linter.unusedVariables false
namespace Go.Proofs.Ytnjckaifgmliaaa
open Go.RowKit Lu

structure EventIs (x : Evt) : Prop where
  id : In x.id
  worker : In x.worker
  at' : In x.at'
  kind : In x.kind
  from' : In x.from'
  to' : In x.to'
  element : In x.element
  units : In x.units
  class' : In x.class'
  gear : In x.gear
  code : In x.code
theorem event_big : bigB Try.prog 47 11 = true := by kernel_rfl
def leastP (n most : Int) : Bool := decide (0 ≤ n) && decide (n ≤ most)
theorem event_least (n most : Int) (r : Bool) (w : World) (hr : leastP n most = r) :
    Calls Try.prog 102 #[.int .i64 n, .int .i64 most] w fun e w' => e = .returned (.bool r) ∧ w = w' := by
  unfold leastP at hr
  by_cases h1 : 0 ≤ n
  · by_cases h2 : n ≤ most
    · have d1 : decide (0 ≤ n) = true := by simpa using h1
      have d2 : decide (n ≤ most) = true := by simpa using h2
      obtain rfl : r = true := by rw [← hr, d1, d2]; rfl
      clear hr
      go_enter Try.func102, Try.ntmps102
      go_wp2_with fail
      go_ret
      exact ⟨rfl, rfl⟩
    · have d1 : decide (0 ≤ n) = true := by simpa using h1
      have d2 : decide (n ≤ most) = false := by simpa using h2
      obtain rfl : r = false := by rw [← hr, d1, d2]; rfl
      clear hr
      go_enter Try.func102, Try.ntmps102
      go_wp2_with fail
      go_ret
      exact ⟨rfl, rfl⟩
  · have d1 : decide (0 ≤ n) = false := by simpa using h1
    obtain rfl : r = false := by rw [← hr, d1]; rfl
    clear hr
    go_enter Try.func102, Try.ntmps102
    go_wp2_with fail
    go_ret
    exact ⟨rfl, rfl⟩
theorem own_any (b : Nat) (kind : Int) (w : World) (hk : In kind) (hc : w.cell? ⟨b, 3, none⟩ = some (.int .i64 kind)) (ok : Bool) (h : decide (1 ≤ kind ∧ kind ≤ 7) = ok) :
    Calls Try.prog 101 #[.pointer (some ⟨b, 0, none⟩)] w fun e w' => ∃ L n c, e = .returned (.tuple #[.slice L n c, .bool ok]) ∧ Below w.heap.size w w' := by
  refine (event_own b kind w hk hc).mono ?_
  rintro e w' ⟨B, ⟨h3, g, _, rfl, _⟩ | ⟨h4, g, _, rfl, _⟩ | ⟨h0, rfl⟩ | ⟨hn, rfl⟩⟩
  · obtain rfl : ok = true := by rw [← h]; simp; omega
    exact ⟨_, _, _, rfl, B⟩
  · obtain rfl : ok = true := by rw [← h]; simp; omega
    exact ⟨_, _, _, rfl, B⟩
  · obtain rfl : ok = true := by rw [← h]; simp; omega
    exact ⟨_, _, _, rfl, B⟩
  · obtain rfl : ok = false := by rw [← h]; simp; omega
    exact ⟨_, _, _, rfl, B⟩
theorem own_3 (b : Nat) (kind : Int) (w : World) (hk : In kind) (hc : w.cell? ⟨b, 3, none⟩ = some (.int .i64 kind)) (h : kind = 3) :
    Calls Try.prog 101 #[.pointer (some ⟨b, 0, none⟩)] w fun e w' => ∃ g, e = .returned (.tuple #[.slice (some ⟨g, 0, none⟩) 6 6, .bool true]) ∧ (∀ j : Nat, j < 6 → w'.cell? ⟨g, j, none⟩ = some (.pointer (some ⟨b, 4 + j, none⟩))) ∧ w.heap.size ≤ g ∧ Below w.heap.size w w' := by
  refine (event_own b kind w hk hc).mono ?_
  rintro e w' ⟨B, ⟨h3, g, hg, rfl, hj⟩ | ⟨h4, g, _, rfl, _⟩ | ⟨h0, rfl⟩ | ⟨hn, rfl⟩⟩
  · exact ⟨g, rfl, hj, hg, B⟩
  all_goals omega
theorem own_4 (b : Nat) (kind : Int) (w : World) (hk : In kind) (hc : w.cell? ⟨b, 3, none⟩ = some (.int .i64 kind)) (h : kind = 4) :
    Calls Try.prog 101 #[.pointer (some ⟨b, 0, none⟩)] w fun e w' => ∃ g, e = .returned (.tuple #[.slice (some ⟨g, 0, none⟩) 1 1, .bool true]) ∧ w'.cell? ⟨g, 0, none⟩ = some (.pointer (some ⟨b, 10, none⟩)) ∧ w.heap.size ≤ g ∧ Below w.heap.size w w' := by
  refine (event_own b kind w hk hc).mono ?_
  rintro e w' ⟨B, ⟨h3, g, hg, rfl, hj⟩ | ⟨h4, g, hg, rfl, hj⟩ | ⟨h0, rfl⟩ | ⟨hn, rfl⟩⟩
  · omega
  · exact ⟨g, rfl, hj, hg, B⟩
  all_goals omega
theorem own_0 (b : Nat) (kind : Int) (w : World) (hk : In kind) (hc : w.cell? ⟨b, 3, none⟩ = some (.int .i64 kind)) (h : 1 ≤ kind ∧ kind ≤ 7 ∧ kind ≠ 3 ∧ kind ≠ 4) :
    Calls Try.prog 101 #[.pointer (some ⟨b, 0, none⟩)] w fun e w' => e = .returned (.tuple #[.slice none 0 0, .bool true]) ∧ Below w.heap.size w w' := by
  refine (event_own b kind w hk hc).mono ?_
  rintro e w' ⟨B, ⟨h3, g, hg, rfl, hj⟩ | ⟨h4, g, hg, rfl, hj⟩ | ⟨h0, rfl⟩ | ⟨hn, rfl⟩⟩
  · omega
  · omega
  · exact ⟨rfl, B⟩
  · omega
theorem block_set {w : World} {N i : Nat} {cs : Array Value} {t : TypeId} (h : w.heap[N]? = some (.cells cs t)) (v : Value) : (w.setCell ⟨N, i, none⟩ v).heap[N]? = some (.cells (cs.setIfInBounds i v) t) := by
  simp [World.setCell, Array.getElem?_modify, h]

theorem fair_no (x : Evt) (w : World) (h : EventIs x) (hn : ¬ (1 ≤ x.kind ∧ x.kind ≤ 7)) : Calls Try.prog 66 #[.agg #[.int .i64 x.id, .int .i64 x.worker, .int .i64 x.at', .int .i64 x.kind, .int .i64 x.from', .int .i64 x.to', .int .i64 x.element, .int .i64 x.units, .int .i64 x.class', .int .i64 x.gear, .int .i64 x.code]] w fun e w' => e = .returned (.bool false) ∧ Below w.heap.size w w' := by
  have hb : (w.alloc (.cells #[.int .i64 x.id, .int .i64 x.worker, .int .i64 x.at', .int .i64 x.kind, .int .i64 x.from', .int .i64 x.to', .int .i64 x.element, .int .i64 x.units, .int .i64 x.class', .int .i64 x.gear, .int .i64 x.code] 47)).heap[w.heap.size]? = some (.cells #[.int .i64 x.id, .int .i64 x.worker, .int .i64 x.at', .int .i64 x.kind, .int .i64 x.from', .int .i64 x.to', .int .i64 x.element, .int .i64 x.units, .int .i64 x.class', .int .i64 x.gear, .int .i64 x.code] 47) := box_new w _ rfl _ _
  have ck : (w.alloc (.cells #[.int .i64 x.id, .int .i64 x.worker, .int .i64 x.at', .int .i64 x.kind, .int .i64 x.from', .int .i64 x.to', .int .i64 x.element, .int .i64 x.units, .int .i64 x.class', .int .i64 x.gear, .int .i64 x.code] 47)).cell? ⟨w.heap.size, 3, none⟩ = some (.int .i64 x.kind) := by simp only [World.cell?, hb]; rfl
  have B0 : Below w.heap.size w (w.alloc (.cells #[.int .i64 x.id, .int .i64 x.worker, .int .i64 x.at', .int .i64 x.kind, .int .i64 x.from', .int .i64 x.to', .int .i64 x.element, .int .i64 x.units, .int .i64 x.class', .int .i64 x.gear, .int .i64 x.code] 47)) := by go_grown
  go_enter Try.func66, Try.ntmps66
  go_wp2_with fail
  refine (own_any _ _ _ h.kind ck false (by simpa using hn)).mono ?_
  rintro e1 w1 ⟨L, n, c, rfl, k1⟩
  replace B0 := B0.trans (k1.mono (by simp))
  replace hb := box_keep k1 hb (by simp)
  have c0 : w1.cell? ⟨w.heap.size, 0, none⟩ = some (.int .i64 x.id) := by simp [World.cell?, hb]
  have c1 : w1.cell? ⟨w.heap.size, 1, none⟩ = some (.int .i64 x.worker) := by simp [World.cell?, hb]
  have c2 : w1.cell? ⟨w.heap.size, 2, none⟩ = some (.int .i64 x.at') := by simp [World.cell?, hb]
  clear k1 ck
  go_wp2_with fail
  go_ret
  exact ⟨rfl, B0⟩

theorem fair_id (x : Evt) (w : World) (h : EventIs x) (hn : 1 ≤ x.kind ∧ x.kind ≤ 7) (hid : leastP x.id 100000 = false) : Calls Try.prog 66 #[.agg #[.int .i64 x.id, .int .i64 x.worker, .int .i64 x.at', .int .i64 x.kind, .int .i64 x.from', .int .i64 x.to', .int .i64 x.element, .int .i64 x.units, .int .i64 x.class', .int .i64 x.gear, .int .i64 x.code]] w fun e w' => e = .returned (.bool false) ∧ Below w.heap.size w w' := by
  have hb : (w.alloc (.cells #[.int .i64 x.id, .int .i64 x.worker, .int .i64 x.at', .int .i64 x.kind, .int .i64 x.from', .int .i64 x.to', .int .i64 x.element, .int .i64 x.units, .int .i64 x.class', .int .i64 x.gear, .int .i64 x.code] 47)).heap[w.heap.size]? = some (.cells #[.int .i64 x.id, .int .i64 x.worker, .int .i64 x.at', .int .i64 x.kind, .int .i64 x.from', .int .i64 x.to', .int .i64 x.element, .int .i64 x.units, .int .i64 x.class', .int .i64 x.gear, .int .i64 x.code] 47) := box_new w _ rfl _ _
  have ck : (w.alloc (.cells #[.int .i64 x.id, .int .i64 x.worker, .int .i64 x.at', .int .i64 x.kind, .int .i64 x.from', .int .i64 x.to', .int .i64 x.element, .int .i64 x.units, .int .i64 x.class', .int .i64 x.gear, .int .i64 x.code] 47)).cell? ⟨w.heap.size, 3, none⟩ = some (.int .i64 x.kind) := by simp only [World.cell?, hb]; rfl
  have B0 : Below w.heap.size w (w.alloc (.cells #[.int .i64 x.id, .int .i64 x.worker, .int .i64 x.at', .int .i64 x.kind, .int .i64 x.from', .int .i64 x.to', .int .i64 x.element, .int .i64 x.units, .int .i64 x.class', .int .i64 x.gear, .int .i64 x.code] 47)) := by go_grown
  go_enter Try.func66, Try.ntmps66
  go_wp2_with fail
  refine (own_any _ _ _ h.kind ck true (by simpa using hn)).mono ?_
  rintro e1 w1 ⟨L, n, c, rfl, k1⟩
  replace B0 := B0.trans (k1.mono (by simp))
  replace hb := box_keep k1 hb (by simp)
  have c0 : w1.cell? ⟨w.heap.size, 0, none⟩ = some (.int .i64 x.id) := by simp [World.cell?, hb]
  have c1 : w1.cell? ⟨w.heap.size, 1, none⟩ = some (.int .i64 x.worker) := by simp [World.cell?, hb]
  have c2 : w1.cell? ⟨w.heap.size, 2, none⟩ = some (.int .i64 x.at') := by simp [World.cell?, hb]
  clear k1 ck
  go_wp2_with fail
  refine (event_least _ _ false _ hid).mono ?_
  rintro e2 w2 ⟨rfl, rfl⟩
  go_wp2_with fail
  go_ret
  exact ⟨rfl, B0⟩

theorem fair_worker (x : Evt) (w : World) (h : EventIs x) (hn : 1 ≤ x.kind ∧ x.kind ≤ 7) (hid : leastP x.id 100000 = true) (hw : x.worker < 0) : Calls Try.prog 66 #[.agg #[.int .i64 x.id, .int .i64 x.worker, .int .i64 x.at', .int .i64 x.kind, .int .i64 x.from', .int .i64 x.to', .int .i64 x.element, .int .i64 x.units, .int .i64 x.class', .int .i64 x.gear, .int .i64 x.code]] w fun e w' => e = .returned (.bool false) ∧ Below w.heap.size w w' := by
  have hb : (w.alloc (.cells #[.int .i64 x.id, .int .i64 x.worker, .int .i64 x.at', .int .i64 x.kind, .int .i64 x.from', .int .i64 x.to', .int .i64 x.element, .int .i64 x.units, .int .i64 x.class', .int .i64 x.gear, .int .i64 x.code] 47)).heap[w.heap.size]? = some (.cells #[.int .i64 x.id, .int .i64 x.worker, .int .i64 x.at', .int .i64 x.kind, .int .i64 x.from', .int .i64 x.to', .int .i64 x.element, .int .i64 x.units, .int .i64 x.class', .int .i64 x.gear, .int .i64 x.code] 47) := box_new w _ rfl _ _
  have ck : (w.alloc (.cells #[.int .i64 x.id, .int .i64 x.worker, .int .i64 x.at', .int .i64 x.kind, .int .i64 x.from', .int .i64 x.to', .int .i64 x.element, .int .i64 x.units, .int .i64 x.class', .int .i64 x.gear, .int .i64 x.code] 47)).cell? ⟨w.heap.size, 3, none⟩ = some (.int .i64 x.kind) := by simp only [World.cell?, hb]; rfl
  have B0 : Below w.heap.size w (w.alloc (.cells #[.int .i64 x.id, .int .i64 x.worker, .int .i64 x.at', .int .i64 x.kind, .int .i64 x.from', .int .i64 x.to', .int .i64 x.element, .int .i64 x.units, .int .i64 x.class', .int .i64 x.gear, .int .i64 x.code] 47)) := by go_grown
  go_enter Try.func66, Try.ntmps66
  go_wp2_with fail
  refine (own_any _ _ _ h.kind ck true (by simpa using hn)).mono ?_
  rintro e1 w1 ⟨L, n, c, rfl, k1⟩
  replace B0 := B0.trans (k1.mono (by simp))
  replace hb := box_keep k1 hb (by simp)
  have c0 : w1.cell? ⟨w.heap.size, 0, none⟩ = some (.int .i64 x.id) := by simp [World.cell?, hb]
  have c1 : w1.cell? ⟨w.heap.size, 1, none⟩ = some (.int .i64 x.worker) := by simp [World.cell?, hb]
  have c2 : w1.cell? ⟨w.heap.size, 2, none⟩ = some (.int .i64 x.at') := by simp [World.cell?, hb]
  clear k1 ck
  have dw : decide (x.worker < 0) = true := by simpa using hw
  go_wp2_with fail
  refine (event_least _ _ true _ hid).mono ?_
  rintro e2 w2 ⟨rfl, rfl⟩
  go_wp2_with fail
  go_ret
  exact ⟨rfl, B0⟩

theorem fair_at (x : Evt) (w : World) (h : EventIs x) (hn : 1 ≤ x.kind ∧ x.kind ≤ 7) (hid : leastP x.id 100000 = true) (hw : ¬ x.worker < 0) (hat : leastP x.at' 31449599 = false) : Calls Try.prog 66 #[.agg #[.int .i64 x.id, .int .i64 x.worker, .int .i64 x.at', .int .i64 x.kind, .int .i64 x.from', .int .i64 x.to', .int .i64 x.element, .int .i64 x.units, .int .i64 x.class', .int .i64 x.gear, .int .i64 x.code]] w fun e w' => e = .returned (.bool false) ∧ Below w.heap.size w w' := by
  have hb : (w.alloc (.cells #[.int .i64 x.id, .int .i64 x.worker, .int .i64 x.at', .int .i64 x.kind, .int .i64 x.from', .int .i64 x.to', .int .i64 x.element, .int .i64 x.units, .int .i64 x.class', .int .i64 x.gear, .int .i64 x.code] 47)).heap[w.heap.size]? = some (.cells #[.int .i64 x.id, .int .i64 x.worker, .int .i64 x.at', .int .i64 x.kind, .int .i64 x.from', .int .i64 x.to', .int .i64 x.element, .int .i64 x.units, .int .i64 x.class', .int .i64 x.gear, .int .i64 x.code] 47) := box_new w _ rfl _ _
  have ck : (w.alloc (.cells #[.int .i64 x.id, .int .i64 x.worker, .int .i64 x.at', .int .i64 x.kind, .int .i64 x.from', .int .i64 x.to', .int .i64 x.element, .int .i64 x.units, .int .i64 x.class', .int .i64 x.gear, .int .i64 x.code] 47)).cell? ⟨w.heap.size, 3, none⟩ = some (.int .i64 x.kind) := by simp only [World.cell?, hb]; rfl
  have B0 : Below w.heap.size w (w.alloc (.cells #[.int .i64 x.id, .int .i64 x.worker, .int .i64 x.at', .int .i64 x.kind, .int .i64 x.from', .int .i64 x.to', .int .i64 x.element, .int .i64 x.units, .int .i64 x.class', .int .i64 x.gear, .int .i64 x.code] 47)) := by go_grown
  go_enter Try.func66, Try.ntmps66
  go_wp2_with fail
  refine (own_any _ _ _ h.kind ck true (by simpa using hn)).mono ?_
  rintro e1 w1 ⟨L, n, c, rfl, k1⟩
  replace B0 := B0.trans (k1.mono (by simp))
  replace hb := box_keep k1 hb (by simp)
  have c0 : w1.cell? ⟨w.heap.size, 0, none⟩ = some (.int .i64 x.id) := by simp [World.cell?, hb]
  have c1 : w1.cell? ⟨w.heap.size, 1, none⟩ = some (.int .i64 x.worker) := by simp [World.cell?, hb]
  have c2 : w1.cell? ⟨w.heap.size, 2, none⟩ = some (.int .i64 x.at') := by simp [World.cell?, hb]
  clear k1 ck
  have dw : decide (x.worker < 0) = false := by simpa using hw
  go_wp2_with fail
  refine (event_least _ _ true _ hid).mono ?_
  rintro e2 w2 ⟨rfl, rfl⟩
  go_wp2_with fail
  refine (event_least _ _ false _ hat).mono ?_
  rintro e3 w3 ⟨rfl, rfl⟩
  go_wp2_with fail
  go_ret
  exact ⟨rfl, B0⟩

def zz (k j : Nat) (v : Int) : Int := if j < k then 0 else v
def xs6 (x : Evt) (k : Nat) : Int := [x.from', x.to', x.element, x.units, x.class', x.gear].getD k 0
theorem chain3_no {x : Evt} {k : Nat} (hk : k < 6) (h : xs6 x k < 0) : (decide (0 ≤ x.from') && decide (0 ≤ x.to') && decide (0 ≤ x.element) && decide (0 ≤ x.units) && decide (0 ≤ x.class') && decide (0 ≤ x.gear) && decide (x.code = 0)) = false := by
  have h0 : ¬ 0 ≤ xs6 x k := by omega
  rcases (show k = 0 ∨ k = 1 ∨ k = 2 ∨ k = 3 ∨ k = 4 ∨ k = 5 by omega) with rfl | rfl | rfl | rfl | rfl | rfl <;> (simp [xs6] at h0; simp; omega)
theorem chain3_yes {x : Evt} (h : ∀ j : Nat, j < 6 → 0 ≤ xs6 x j) : (decide (0 ≤ x.from') && decide (0 ≤ x.to') && decide (0 ≤ x.element) && decide (0 ≤ x.units) && decide (0 ≤ x.class') && decide (0 ≤ x.gear) && decide (x.code = 0)) = decide (x.code = 0) := by
  have h0 := h 0 (by decide); have h1 := h 1 (by decide); have h2 := h 2 (by decide); have h3 := h 3 (by decide); have h4 := h 4 (by decide); have h5 := h 5 (by decide)
  simp [xs6] at h0 h1 h2 h3 h4 h5
  simp [h0, h1, h2, h3, h4, h5]
set_option maxHeartbeats 1000000 in
theorem fair_3 (x : Evt) (r : Bool) (w : World) (h : EventIs x) (hk : x.kind = 3) (hid : leastP x.id 100000 = true) (hw : ¬ x.worker < 0) (hat : leastP x.at' 31449599 = true) (hr : (decide (0 ≤ x.from') && decide (0 ≤ x.to') && decide (0 ≤ x.element) && decide (0 ≤ x.units) && decide (0 ≤ x.class') && decide (0 ≤ x.gear) && decide (x.code = 0)) = r) : Calls Try.prog 66 #[.agg #[.int .i64 x.id, .int .i64 x.worker, .int .i64 x.at', .int .i64 x.kind, .int .i64 x.from', .int .i64 x.to', .int .i64 x.element, .int .i64 x.units, .int .i64 x.class', .int .i64 x.gear, .int .i64 x.code]] w fun e w' => e = .returned (.bool r) ∧ Below w.heap.size w w' := by
  have HK := Lib.hid hk
  clear hk
  have hb : (w.alloc (.cells #[.int .i64 x.id, .int .i64 x.worker, .int .i64 x.at', .int .i64 x.kind, .int .i64 x.from', .int .i64 x.to', .int .i64 x.element, .int .i64 x.units, .int .i64 x.class', .int .i64 x.gear, .int .i64 x.code] 47)).heap[w.heap.size]? = some (.cells #[.int .i64 x.id, .int .i64 x.worker, .int .i64 x.at', .int .i64 x.kind, .int .i64 x.from', .int .i64 x.to', .int .i64 x.element, .int .i64 x.units, .int .i64 x.class', .int .i64 x.gear, .int .i64 x.code] 47) := box_new w _ rfl _ _
  have ck : (w.alloc (.cells #[.int .i64 x.id, .int .i64 x.worker, .int .i64 x.at', .int .i64 x.kind, .int .i64 x.from', .int .i64 x.to', .int .i64 x.element, .int .i64 x.units, .int .i64 x.class', .int .i64 x.gear, .int .i64 x.code] 47)).cell? ⟨w.heap.size, 3, none⟩ = some (.int .i64 x.kind) := by simp only [World.cell?, hb]; rfl
  have B0 : Below w.heap.size w (w.alloc (.cells #[.int .i64 x.id, .int .i64 x.worker, .int .i64 x.at', .int .i64 x.kind, .int .i64 x.from', .int .i64 x.to', .int .i64 x.element, .int .i64 x.units, .int .i64 x.class', .int .i64 x.gear, .int .i64 x.code] 47)) := by go_grown
  go_enter Try.func66, Try.ntmps66
  go_wp2_with fail
  refine (own_3 _ _ _ h.kind ck HK.out).mono ?_
  rintro e1 w1 ⟨g, rfl, hj, hg, k1⟩
  replace B0 := B0.trans (k1.mono (by simp))
  replace hb := box_keep k1 hb (by simp)
  have c0 : w1.cell? ⟨w.heap.size, 0, none⟩ = some (.int .i64 x.id) := by simp [World.cell?, hb]
  have c1 : w1.cell? ⟨w.heap.size, 1, none⟩ = some (.int .i64 x.worker) := by simp [World.cell?, hb]
  have c2 : w1.cell? ⟨w.heap.size, 2, none⟩ = some (.int .i64 x.at') := by simp [World.cell?, hb]
  clear k1 ck
  have dw : decide (x.worker < 0) = false := by simpa using hw
  go_wp2_with fail
  refine (event_least _ _ true _ hid).mono ?_
  rintro e2 w2 ⟨rfl, rfl⟩
  go_wp2_with fail
  refine (event_least _ _ true _ hat).mono ?_
  rintro e3 w3 ⟨rfl, rfl⟩
  clear c0 c1 c2 hid hw hat dw
  have HR := Lib.hid hr
  clear hr
  go_wp2_with fail
  go_loopg [6, 32] 6 (fun gh vp i wr => ∃ k : Nat, k ≤ 6 ∧ gh = 6 - k ∧ i = .int .i64 k ∧ (∀ j : Nat, j < k → 0 ≤ xs6 x j) ∧ wr.heap[w.heap.size]? = some (.cells #[.int .i64 x.id, .int .i64 x.worker, .int .i64 x.at', .int .i64 x.kind, .int .i64 (zz k 0 x.from'), .int .i64 (zz k 1 x.to'), .int .i64 (zz k 2 x.element), .int .i64 (zz k 3 x.units), .int .i64 (zz k 4 x.class'), .int .i64 (zz k 5 x.gear), .int .i64 x.code] 47) ∧ (∀ j : Nat, j < 6 → wr.cell? ⟨g, j, none⟩ = some (.pointer (some ⟨w.heap.size, 4 + j, none⟩))) ∧ Below w.heap.size w wr)
  case atStart => exact ⟨0, by omega, by omega, rfl, fun j hj => by omega, hb, hj, B0⟩
  case round =>
    obtain ⟨k, hk6, rfl, rfl, hpos, hbk, hjk, Bk⟩ := hrel
    have HPOS := Lib.hid hpos
    clear hpos hb hj B0
    by_cases hlt : k < 6
    · have cp := hjk k hlt
      have hX : wr.cell? ⟨w.heap.size, 4 + k, none⟩ = some (.int .i64 (xs6 x k)) := by
        rcases (show k = 0 ∨ k = 1 ∨ k = 2 ∨ k = 3 ∨ k = 4 ∨ k = 5 by omega) with rfl | rfl | rfl | rfl | rfl | rfl <;> (simp only [World.cell?, hbk]; rfl)
      have fX : wr.frozen? ⟨w.heap.size, 4 + k, none⟩ = false := by simp [World.frozen?, hbk]
      have hset : (wr.setCell ⟨w.heap.size, 4 + k, none⟩ (.int .i64 0)).heap[w.heap.size]? = some (.cells #[.int .i64 x.id, .int .i64 x.worker, .int .i64 x.at', .int .i64 x.kind, .int .i64 (zz (k + 1) 0 x.from'), .int .i64 (zz (k + 1) 1 x.to'), .int .i64 (zz (k + 1) 2 x.element), .int .i64 (zz (k + 1) 3 x.units), .int .i64 (zz (k + 1) 4 x.class'), .int .i64 (zz (k + 1) 5 x.gear), .int .i64 x.code] 47) := by
        rw [block_set hbk]
        rcases (show k = 0 ∨ k = 1 ∨ k = 2 ∨ k = 3 ∨ k = 4 ∨ k = 5 by omega) with rfl | rfl | rfl | rfl | rfl | rfl <;> rfl
      have hkeep : ∀ j : Nat, j < 6 → (wr.setCell ⟨w.heap.size, 4 + k, none⟩ (.int .i64 0)).cell? ⟨g, j, none⟩ = some (.pointer (some ⟨w.heap.size, 4 + j, none⟩)) := fun j hj => by
        rw [World.cell?_setCell_far _ _ _ _ (by simp at hg ⊢; omega)]
        exact hjk j hj
      have HSET := Lib.hid hset
      have HKEEP := Lib.hid hkeep
      clear hset hkeep hbk hjk
      obtain ⟨v, hv⟩ : ∃ v, xs6 x k = v := ⟨_, rfl⟩
      rw [hv] at hX
      have HV := Lib.hid hv
      clear hv
      by_cases hn : v < 0
      · have d : decide (v < 0) = true := by simpa using hn
        obtain rfl : r = false := by rw [← HR.out, chain3_no hlt (by rw [HV.out]; exact hn)]
        go_wp2_with fail
        go_ret
        exact ⟨rfl, Bk⟩
      · have d : decide (v < 0) = false := by simpa using hn
        go_wp2_with fail
        go_roundg (6 - (k + 1))
        case measure => omega
        case rel => exact ⟨k + 1, by omega, rfl, by go_num, fun j hj => (by
            rcases Nat.lt_or_ge j k with h1 | h1
            · exact HPOS.out j h1
            · obtain rfl : j = k := by omega
              rw [HV.out]; omega), HSET.out, HKEEP.out, Bk.setCell (Nat.le_refl _) _⟩
    · obtain rfl : k = 6 := by omega
      have hall := chain3_yes HPOS.out
      have hrc : decide (x.code = 0) = r := by rw [← hall, HR.out]
      have HRC := Lib.hid hrc
      have hbk' : wr.heap[w.heap.size]? = some (.cells #[.int .i64 x.id, .int .i64 x.worker, .int .i64 x.at', .int .i64 x.kind, .int .i64 0, .int .i64 0, .int .i64 0, .int .i64 0, .int .i64 0, .int .i64 0, .int .i64 x.code] 47) := hbk
      have c0 : wr.cell? ⟨w.heap.size, 0, none⟩ = some (.int .i64 x.id) := by simp [World.cell?, hbk]
      have c1 : wr.cell? ⟨w.heap.size, 1, none⟩ = some (.int .i64 x.worker) := by simp [World.cell?, hbk]
      have c2 : wr.cell? ⟨w.heap.size, 2, none⟩ = some (.int .i64 x.at') := by simp [World.cell?, hbk]
      have c3 : wr.cell? ⟨w.heap.size, 3, none⟩ = some (.int .i64 x.kind) := by simp [World.cell?, hbk]
      clear hall hrc hbk hjk
      by_cases g0 : x.code = 0
      rotate_left
      · have d0 : (x.code == 0) = false := by rw [beq_eq_false_iff_ne]; exact g0
        obtain rfl : r = false := by rw [← HRC.out]; simp [g0]
        clear g0
        go_wp2_with (refine wpList_load_box 47 (.tmp 1) rfl rfl w.heap.size rfl 47 #[.int .i64 x.id, .int .i64 x.worker, .int .i64 x.at', .int .i64 x.kind, .int .i64 0, .int .i64 0, .int .i64 0, .int .i64 0, .int .i64 0, .int .i64 0, .int .i64 x.code] hbk' event_big ?_)
        go_ret
        exact ⟨rfl, Bk⟩
      · have d0 : (x.code == 0) = true := by rw [beq_iff_eq]; exact g0
        obtain rfl : r = true := by rw [← HRC.out]; simp [g0]
        clear g0
        go_wp2_with (refine wpList_load_box 47 (.tmp 1) rfl rfl w.heap.size rfl 47 #[.int .i64 x.id, .int .i64 x.worker, .int .i64 x.at', .int .i64 x.kind, .int .i64 0, .int .i64 0, .int .i64 0, .int .i64 0, .int .i64 0, .int .i64 0, .int .i64 x.code] hbk' event_big ?_)
        go_ret
        exact ⟨rfl, Bk⟩

set_option maxHeartbeats 2000000 in
theorem fair_4 (x : Evt) (r : Bool) (w : World) (h : EventIs x) (hk : x.kind = 4) (hid : leastP x.id 100000 = true) (hw : ¬ x.worker < 0) (hat : leastP x.at' 31449599 = true) (hr : (decide (0 ≤ x.code) && (decide (x.from' = 0) && decide (x.to' = 0) && decide (x.element = 0) && decide (x.units = 0) && decide (x.class' = 0) && decide (x.gear = 0))) = r) : Calls Try.prog 66 #[.agg #[.int .i64 x.id, .int .i64 x.worker, .int .i64 x.at', .int .i64 x.kind, .int .i64 x.from', .int .i64 x.to', .int .i64 x.element, .int .i64 x.units, .int .i64 x.class', .int .i64 x.gear, .int .i64 x.code]] w fun e w' => e = .returned (.bool r) ∧ Below w.heap.size w w' := by
  have HK := Lib.hid hk
  clear hk
  have hb : (w.alloc (.cells #[.int .i64 x.id, .int .i64 x.worker, .int .i64 x.at', .int .i64 x.kind, .int .i64 x.from', .int .i64 x.to', .int .i64 x.element, .int .i64 x.units, .int .i64 x.class', .int .i64 x.gear, .int .i64 x.code] 47)).heap[w.heap.size]? = some (.cells #[.int .i64 x.id, .int .i64 x.worker, .int .i64 x.at', .int .i64 x.kind, .int .i64 x.from', .int .i64 x.to', .int .i64 x.element, .int .i64 x.units, .int .i64 x.class', .int .i64 x.gear, .int .i64 x.code] 47) := box_new w _ rfl _ _
  have ck : (w.alloc (.cells #[.int .i64 x.id, .int .i64 x.worker, .int .i64 x.at', .int .i64 x.kind, .int .i64 x.from', .int .i64 x.to', .int .i64 x.element, .int .i64 x.units, .int .i64 x.class', .int .i64 x.gear, .int .i64 x.code] 47)).cell? ⟨w.heap.size, 3, none⟩ = some (.int .i64 x.kind) := by simp only [World.cell?, hb]; rfl
  have B0 : Below w.heap.size w (w.alloc (.cells #[.int .i64 x.id, .int .i64 x.worker, .int .i64 x.at', .int .i64 x.kind, .int .i64 x.from', .int .i64 x.to', .int .i64 x.element, .int .i64 x.units, .int .i64 x.class', .int .i64 x.gear, .int .i64 x.code] 47)) := by go_grown
  go_enter Try.func66, Try.ntmps66
  go_wp2_with fail
  refine (own_4 _ _ _ h.kind ck HK.out).mono ?_
  rintro e1 w1 ⟨g, rfl, hj, hg, k1⟩
  replace B0 := B0.trans (k1.mono (by simp))
  replace hb := box_keep k1 hb (by simp)
  have c0 : w1.cell? ⟨w.heap.size, 0, none⟩ = some (.int .i64 x.id) := by simp [World.cell?, hb]
  have c1 : w1.cell? ⟨w.heap.size, 1, none⟩ = some (.int .i64 x.worker) := by simp [World.cell?, hb]
  have c2 : w1.cell? ⟨w.heap.size, 2, none⟩ = some (.int .i64 x.at') := by simp [World.cell?, hb]
  clear k1 ck
  have dw : decide (x.worker < 0) = false := by simpa using hw
  go_wp2_with fail
  refine (event_least _ _ true _ hid).mono ?_
  rintro e2 w2 ⟨rfl, rfl⟩
  go_wp2_with fail
  refine (event_least _ _ true _ hat).mono ?_
  rintro e3 w3 ⟨rfl, rfl⟩
  clear c0 c1 c2 hid hw hat dw
  have HR := Lib.hid hr
  clear hr
  go_wp2_with fail
  go_loopg [6, 32] 1 (fun gh vp i wr => ∃ k : Nat, k ≤ 1 ∧ gh = 1 - k ∧ i = .int .i64 k ∧ (0 < k → 0 ≤ x.code) ∧ wr.heap[w.heap.size]? = some (.cells #[.int .i64 x.id, .int .i64 x.worker, .int .i64 x.at', .int .i64 x.kind, .int .i64 x.from', .int .i64 x.to', .int .i64 x.element, .int .i64 x.units, .int .i64 x.class', .int .i64 x.gear, .int .i64 (zz k 0 x.code)] 47) ∧ wr.cell? ⟨g, 0, none⟩ = some (.pointer (some ⟨w.heap.size, 10, none⟩)) ∧ Below w.heap.size w wr)
  case atStart => exact ⟨0, by omega, by omega, rfl, fun hj => by omega, hb, hj, B0⟩
  case round =>
    obtain ⟨k, hk6, rfl, rfl, hpos, hbk, cp, Bk⟩ := hrel
    clear hb hj B0
    by_cases hlt : k < 1
    · obtain ⟨k0, hk0⟩ : ∃ k0 : Nat, k0 = k := ⟨_, rfl⟩
      have HK0 := Lib.hid (show k = 0 by omega)
      have cpk : wr.cell? ⟨g, k, none⟩ = some (.pointer (some ⟨w.heap.size, 10, none⟩)) := by rw [HK0.out]; exact cp
      have hX : wr.cell? ⟨w.heap.size, 10, none⟩ = some (.int .i64 x.code) := by simp only [World.cell?, hbk, HK0.out]; rfl
      have fX : wr.frozen? ⟨w.heap.size, 10, none⟩ = false := by simp [World.frozen?, hbk]
      have hset : (wr.setCell ⟨w.heap.size, 10, none⟩ (.int .i64 0)).heap[w.heap.size]? = some (.cells #[.int .i64 x.id, .int .i64 x.worker, .int .i64 x.at', .int .i64 x.kind, .int .i64 x.from', .int .i64 x.to', .int .i64 x.element, .int .i64 x.units, .int .i64 x.class', .int .i64 x.gear, .int .i64 (zz (k + 1) 0 x.code)] 47) := by
        rw [block_set hbk, HK0.out]
        rfl
      have hkeep : (wr.setCell ⟨w.heap.size, 10, none⟩ (.int .i64 0)).cell? ⟨g, 0, none⟩ = some (.pointer (some ⟨w.heap.size, 10, none⟩)) := by
        rw [World.cell?_setCell_far _ _ _ _ (by simp at hg ⊢; omega)]
        exact cp
      have HSET := Lib.hid hset
      have HKEEP := Lib.hid hkeep
      clear hset hkeep hbk cp hk0 hpos
      by_cases hn : x.code < 0
      · have d : decide (x.code < 0) = true := by simpa using hn
        obtain rfl : r = false := by rw [← HR.out]; simp; omega
        go_wp2_with fail
        go_ret
        exact ⟨rfl, Bk⟩
      · have d : decide (x.code < 0) = false := by simpa using hn
        have HNN := Lib.hid (Int.not_lt.1 hn)
        go_wp2_with fail
        go_roundg (1 - (k + 1))
        case measure => omega
        case rel => exact ⟨k + 1, by omega, rfl, by go_num, fun _ => HNN.out, HSET.out, HKEEP.out, Bk.setCell (Nat.le_refl _) _⟩
    · obtain rfl : k = 1 := by omega
      have hrc : (decide (x.from' = 0) && decide (x.to' = 0) && decide (x.element = 0) && decide (x.units = 0) && decide (x.class' = 0) && decide (x.gear = 0)) = r := by rw [← HR.out, decide_eq_true (hpos (by decide)), Bool.true_and]
      have HRC := Lib.hid hrc
      have hbk' : wr.heap[w.heap.size]? = some (.cells #[.int .i64 x.id, .int .i64 x.worker, .int .i64 x.at', .int .i64 x.kind, .int .i64 x.from', .int .i64 x.to', .int .i64 x.element, .int .i64 x.units, .int .i64 x.class', .int .i64 x.gear, .int .i64 (0)] 47) := hbk
      have c0 : wr.cell? ⟨w.heap.size, 0, none⟩ = some (.int .i64 x.id) := by simp [World.cell?, hbk]
      have c1 : wr.cell? ⟨w.heap.size, 1, none⟩ = some (.int .i64 x.worker) := by simp [World.cell?, hbk]
      have c2 : wr.cell? ⟨w.heap.size, 2, none⟩ = some (.int .i64 x.at') := by simp [World.cell?, hbk]
      have c3 : wr.cell? ⟨w.heap.size, 3, none⟩ = some (.int .i64 x.kind) := by simp [World.cell?, hbk]
      clear hrc hbk cp hpos
      by_cases g0 : x.from' = 0
      rotate_left
      · have d0 : (x.from' == 0) = false := by rw [beq_eq_false_iff_ne]; exact g0
        obtain rfl : r = false := by rw [← HRC.out]; simp [g0]
        clear g0
        go_wp2_with (refine wpList_load_box 47 (.tmp 1) rfl rfl w.heap.size rfl 47 #[.int .i64 x.id, .int .i64 x.worker, .int .i64 x.at', .int .i64 x.kind, .int .i64 x.from', .int .i64 x.to', .int .i64 x.element, .int .i64 x.units, .int .i64 x.class', .int .i64 x.gear, .int .i64 (0)] hbk' event_big ?_)
        go_ret
        exact ⟨rfl, Bk⟩
      · have d0 : (x.from' == 0) = true := by rw [beq_iff_eq]; exact g0
        by_cases g1 : x.to' = 0
        rotate_left
        · have d1 : (x.to' == 0) = false := by rw [beq_eq_false_iff_ne]; exact g1
          obtain rfl : r = false := by rw [← HRC.out]; simp [g0, g1]
          clear g0 g1
          go_wp2_with (refine wpList_load_box 47 (.tmp 1) rfl rfl w.heap.size rfl 47 #[.int .i64 x.id, .int .i64 x.worker, .int .i64 x.at', .int .i64 x.kind, .int .i64 x.from', .int .i64 x.to', .int .i64 x.element, .int .i64 x.units, .int .i64 x.class', .int .i64 x.gear, .int .i64 (0)] hbk' event_big ?_)
          go_ret
          exact ⟨rfl, Bk⟩
        · have d1 : (x.to' == 0) = true := by rw [beq_iff_eq]; exact g1
          by_cases g2 : x.element = 0
          rotate_left
          · have d2 : (x.element == 0) = false := by rw [beq_eq_false_iff_ne]; exact g2
            obtain rfl : r = false := by rw [← HRC.out]; simp [g0, g1, g2]
            clear g0 g1 g2
            go_wp2_with (refine wpList_load_box 47 (.tmp 1) rfl rfl w.heap.size rfl 47 #[.int .i64 x.id, .int .i64 x.worker, .int .i64 x.at', .int .i64 x.kind, .int .i64 x.from', .int .i64 x.to', .int .i64 x.element, .int .i64 x.units, .int .i64 x.class', .int .i64 x.gear, .int .i64 (0)] hbk' event_big ?_)
            go_ret
            exact ⟨rfl, Bk⟩
          · have d2 : (x.element == 0) = true := by rw [beq_iff_eq]; exact g2
            by_cases g3 : x.units = 0
            rotate_left
            · have d3 : (x.units == 0) = false := by rw [beq_eq_false_iff_ne]; exact g3
              obtain rfl : r = false := by rw [← HRC.out]; simp [g0, g1, g2, g3]
              clear g0 g1 g2 g3
              go_wp2_with (refine wpList_load_box 47 (.tmp 1) rfl rfl w.heap.size rfl 47 #[.int .i64 x.id, .int .i64 x.worker, .int .i64 x.at', .int .i64 x.kind, .int .i64 x.from', .int .i64 x.to', .int .i64 x.element, .int .i64 x.units, .int .i64 x.class', .int .i64 x.gear, .int .i64 (0)] hbk' event_big ?_)
              go_ret
              exact ⟨rfl, Bk⟩
            · have d3 : (x.units == 0) = true := by rw [beq_iff_eq]; exact g3
              by_cases g4 : x.class' = 0
              rotate_left
              · have d4 : (x.class' == 0) = false := by rw [beq_eq_false_iff_ne]; exact g4
                obtain rfl : r = false := by rw [← HRC.out]; simp [g0, g1, g2, g3, g4]
                clear g0 g1 g2 g3 g4
                go_wp2_with (refine wpList_load_box 47 (.tmp 1) rfl rfl w.heap.size rfl 47 #[.int .i64 x.id, .int .i64 x.worker, .int .i64 x.at', .int .i64 x.kind, .int .i64 x.from', .int .i64 x.to', .int .i64 x.element, .int .i64 x.units, .int .i64 x.class', .int .i64 x.gear, .int .i64 (0)] hbk' event_big ?_)
                go_ret
                exact ⟨rfl, Bk⟩
              · have d4 : (x.class' == 0) = true := by rw [beq_iff_eq]; exact g4
                by_cases g5 : x.gear = 0
                rotate_left
                · have d5 : (x.gear == 0) = false := by rw [beq_eq_false_iff_ne]; exact g5
                  obtain rfl : r = false := by rw [← HRC.out]; simp [g0, g1, g2, g3, g4, g5]
                  clear g0 g1 g2 g3 g4 g5
                  go_wp2_with (refine wpList_load_box 47 (.tmp 1) rfl rfl w.heap.size rfl 47 #[.int .i64 x.id, .int .i64 x.worker, .int .i64 x.at', .int .i64 x.kind, .int .i64 x.from', .int .i64 x.to', .int .i64 x.element, .int .i64 x.units, .int .i64 x.class', .int .i64 x.gear, .int .i64 (0)] hbk' event_big ?_)
                  go_ret
                  exact ⟨rfl, Bk⟩
                · have d5 : (x.gear == 0) = true := by rw [beq_iff_eq]; exact g5
                  obtain rfl : r = true := by rw [← HRC.out]; simp [g0, g1, g2, g3, g4, g5]
                  clear g0 g1 g2 g3 g4 g5
                  go_wp2_with (refine wpList_load_box 47 (.tmp 1) rfl rfl w.heap.size rfl 47 #[.int .i64 x.id, .int .i64 x.worker, .int .i64 x.at', .int .i64 x.kind, .int .i64 x.from', .int .i64 x.to', .int .i64 x.element, .int .i64 x.units, .int .i64 x.class', .int .i64 x.gear, .int .i64 (0)] hbk' event_big ?_)
                  go_ret
                  exact ⟨rfl, Bk⟩

set_option maxHeartbeats 2000000 in
theorem fair_0 (x : Evt) (r : Bool) (w : World) (h : EventIs x) (hk : 1 ≤ x.kind ∧ x.kind ≤ 7 ∧ x.kind ≠ 3 ∧ x.kind ≠ 4) (hid : leastP x.id 100000 = true) (hw : ¬ x.worker < 0) (hat : leastP x.at' 31449599 = true) (hr : (decide (x.from' = 0) && decide (x.to' = 0) && decide (x.element = 0) && decide (x.units = 0) && decide (x.class' = 0) && decide (x.gear = 0) && decide (x.code = 0)) = r) : Calls Try.prog 66 #[.agg #[.int .i64 x.id, .int .i64 x.worker, .int .i64 x.at', .int .i64 x.kind, .int .i64 x.from', .int .i64 x.to', .int .i64 x.element, .int .i64 x.units, .int .i64 x.class', .int .i64 x.gear, .int .i64 x.code]] w fun e w' => e = .returned (.bool r) ∧ Below w.heap.size w w' := by
  have HK := Lib.hid hk
  clear hk
  have hb : (w.alloc (.cells #[.int .i64 x.id, .int .i64 x.worker, .int .i64 x.at', .int .i64 x.kind, .int .i64 x.from', .int .i64 x.to', .int .i64 x.element, .int .i64 x.units, .int .i64 x.class', .int .i64 x.gear, .int .i64 x.code] 47)).heap[w.heap.size]? = some (.cells #[.int .i64 x.id, .int .i64 x.worker, .int .i64 x.at', .int .i64 x.kind, .int .i64 x.from', .int .i64 x.to', .int .i64 x.element, .int .i64 x.units, .int .i64 x.class', .int .i64 x.gear, .int .i64 x.code] 47) := box_new w _ rfl _ _
  have ck : (w.alloc (.cells #[.int .i64 x.id, .int .i64 x.worker, .int .i64 x.at', .int .i64 x.kind, .int .i64 x.from', .int .i64 x.to', .int .i64 x.element, .int .i64 x.units, .int .i64 x.class', .int .i64 x.gear, .int .i64 x.code] 47)).cell? ⟨w.heap.size, 3, none⟩ = some (.int .i64 x.kind) := by simp only [World.cell?, hb]; rfl
  have B0 : Below w.heap.size w (w.alloc (.cells #[.int .i64 x.id, .int .i64 x.worker, .int .i64 x.at', .int .i64 x.kind, .int .i64 x.from', .int .i64 x.to', .int .i64 x.element, .int .i64 x.units, .int .i64 x.class', .int .i64 x.gear, .int .i64 x.code] 47)) := by go_grown
  go_enter Try.func66, Try.ntmps66
  go_wp2_with fail
  refine (own_0 _ _ _ h.kind ck HK.out).mono ?_
  rintro e1 w1 ⟨rfl, k1⟩
  replace B0 := B0.trans (k1.mono (by simp))
  replace hb := box_keep k1 hb (by simp)
  have c0 : w1.cell? ⟨w.heap.size, 0, none⟩ = some (.int .i64 x.id) := by simp [World.cell?, hb]
  have c1 : w1.cell? ⟨w.heap.size, 1, none⟩ = some (.int .i64 x.worker) := by simp [World.cell?, hb]
  have c2 : w1.cell? ⟨w.heap.size, 2, none⟩ = some (.int .i64 x.at') := by simp [World.cell?, hb]
  clear k1 ck
  have dw : decide (x.worker < 0) = false := by simpa using hw
  go_wp2_with fail
  refine (event_least _ _ true _ hid).mono ?_
  rintro e2 w2 ⟨rfl, rfl⟩
  go_wp2_with fail
  refine (event_least _ _ true _ hat).mono ?_
  rintro e3 w3 ⟨rfl, rfl⟩
  clear c0 c1 c2 hid hw hat dw
  have HR := Lib.hid hr
  clear hr
  go_wp2_with fail
  go_loopg [6, 32] 0 (fun gh vp i wr => gh = 0 ∧ i = .int .i64 0 ∧ wr = w1)
  case atStart => exact ⟨rfl, rfl, rfl⟩
  case round =>
      obtain ⟨rfl, rfl, rfl⟩ := hrel
      have hbk := hb
      have c0 : wr.cell? ⟨w.heap.size, 0, none⟩ = some (.int .i64 x.id) := by simp [World.cell?, hbk]
      have c1 : wr.cell? ⟨w.heap.size, 1, none⟩ = some (.int .i64 x.worker) := by simp [World.cell?, hbk]
      have c2 : wr.cell? ⟨w.heap.size, 2, none⟩ = some (.int .i64 x.at') := by simp [World.cell?, hbk]
      have c3 : wr.cell? ⟨w.heap.size, 3, none⟩ = some (.int .i64 x.kind) := by simp [World.cell?, hbk]
      clear hbk
      by_cases g0 : x.from' = 0
      rotate_left
      · have d0 : (x.from' == 0) = false := by rw [beq_eq_false_iff_ne]; exact g0
        obtain rfl : r = false := by rw [← HR.out]; simp [g0]
        clear g0
        go_wp2_with (refine wpList_load_box 47 (.tmp 1) rfl rfl w.heap.size rfl 47 #[.int .i64 x.id, .int .i64 x.worker, .int .i64 x.at', .int .i64 x.kind, .int .i64 x.from', .int .i64 x.to', .int .i64 x.element, .int .i64 x.units, .int .i64 x.class', .int .i64 x.gear, .int .i64 x.code] hb event_big ?_)
        go_ret
        exact ⟨rfl, B0⟩
      · have d0 : (x.from' == 0) = true := by rw [beq_iff_eq]; exact g0
        by_cases g1 : x.to' = 0
        rotate_left
        · have d1 : (x.to' == 0) = false := by rw [beq_eq_false_iff_ne]; exact g1
          obtain rfl : r = false := by rw [← HR.out]; simp [g0, g1]
          clear g0 g1
          go_wp2_with (refine wpList_load_box 47 (.tmp 1) rfl rfl w.heap.size rfl 47 #[.int .i64 x.id, .int .i64 x.worker, .int .i64 x.at', .int .i64 x.kind, .int .i64 x.from', .int .i64 x.to', .int .i64 x.element, .int .i64 x.units, .int .i64 x.class', .int .i64 x.gear, .int .i64 x.code] hb event_big ?_)
          go_ret
          exact ⟨rfl, B0⟩
        · have d1 : (x.to' == 0) = true := by rw [beq_iff_eq]; exact g1
          by_cases g2 : x.element = 0
          rotate_left
          · have d2 : (x.element == 0) = false := by rw [beq_eq_false_iff_ne]; exact g2
            obtain rfl : r = false := by rw [← HR.out]; simp [g0, g1, g2]
            clear g0 g1 g2
            go_wp2_with (refine wpList_load_box 47 (.tmp 1) rfl rfl w.heap.size rfl 47 #[.int .i64 x.id, .int .i64 x.worker, .int .i64 x.at', .int .i64 x.kind, .int .i64 x.from', .int .i64 x.to', .int .i64 x.element, .int .i64 x.units, .int .i64 x.class', .int .i64 x.gear, .int .i64 x.code] hb event_big ?_)
            go_ret
            exact ⟨rfl, B0⟩
          · have d2 : (x.element == 0) = true := by rw [beq_iff_eq]; exact g2
            by_cases g3 : x.units = 0
            rotate_left
            · have d3 : (x.units == 0) = false := by rw [beq_eq_false_iff_ne]; exact g3
              obtain rfl : r = false := by rw [← HR.out]; simp [g0, g1, g2, g3]
              clear g0 g1 g2 g3
              go_wp2_with (refine wpList_load_box 47 (.tmp 1) rfl rfl w.heap.size rfl 47 #[.int .i64 x.id, .int .i64 x.worker, .int .i64 x.at', .int .i64 x.kind, .int .i64 x.from', .int .i64 x.to', .int .i64 x.element, .int .i64 x.units, .int .i64 x.class', .int .i64 x.gear, .int .i64 x.code] hb event_big ?_)
              go_ret
              exact ⟨rfl, B0⟩
            · have d3 : (x.units == 0) = true := by rw [beq_iff_eq]; exact g3
              by_cases g4 : x.class' = 0
              rotate_left
              · have d4 : (x.class' == 0) = false := by rw [beq_eq_false_iff_ne]; exact g4
                obtain rfl : r = false := by rw [← HR.out]; simp [g0, g1, g2, g3, g4]
                clear g0 g1 g2 g3 g4
                go_wp2_with (refine wpList_load_box 47 (.tmp 1) rfl rfl w.heap.size rfl 47 #[.int .i64 x.id, .int .i64 x.worker, .int .i64 x.at', .int .i64 x.kind, .int .i64 x.from', .int .i64 x.to', .int .i64 x.element, .int .i64 x.units, .int .i64 x.class', .int .i64 x.gear, .int .i64 x.code] hb event_big ?_)
                go_ret
                exact ⟨rfl, B0⟩
              · have d4 : (x.class' == 0) = true := by rw [beq_iff_eq]; exact g4
                by_cases g5 : x.gear = 0
                rotate_left
                · have d5 : (x.gear == 0) = false := by rw [beq_eq_false_iff_ne]; exact g5
                  obtain rfl : r = false := by rw [← HR.out]; simp [g0, g1, g2, g3, g4, g5]
                  clear g0 g1 g2 g3 g4 g5
                  go_wp2_with (refine wpList_load_box 47 (.tmp 1) rfl rfl w.heap.size rfl 47 #[.int .i64 x.id, .int .i64 x.worker, .int .i64 x.at', .int .i64 x.kind, .int .i64 x.from', .int .i64 x.to', .int .i64 x.element, .int .i64 x.units, .int .i64 x.class', .int .i64 x.gear, .int .i64 x.code] hb event_big ?_)
                  go_ret
                  exact ⟨rfl, B0⟩
                · have d5 : (x.gear == 0) = true := by rw [beq_iff_eq]; exact g5
                  by_cases g6 : x.code = 0
                  rotate_left
                  · have d6 : (x.code == 0) = false := by rw [beq_eq_false_iff_ne]; exact g6
                    obtain rfl : r = false := by rw [← HR.out]; simp [g0, g1, g2, g3, g4, g5, g6]
                    clear g0 g1 g2 g3 g4 g5 g6
                    go_wp2_with (refine wpList_load_box 47 (.tmp 1) rfl rfl w.heap.size rfl 47 #[.int .i64 x.id, .int .i64 x.worker, .int .i64 x.at', .int .i64 x.kind, .int .i64 x.from', .int .i64 x.to', .int .i64 x.element, .int .i64 x.units, .int .i64 x.class', .int .i64 x.gear, .int .i64 x.code] hb event_big ?_)
                    go_ret
                    exact ⟨rfl, B0⟩
                  · have d6 : (x.code == 0) = true := by rw [beq_iff_eq]; exact g6
                    obtain rfl : r = true := by rw [← HR.out]; simp [g0, g1, g2, g3, g4, g5, g6]
                    clear g0 g1 g2 g3 g4 g5 g6
                    go_wp2_with (refine wpList_load_box 47 (.tmp 1) rfl rfl w.heap.size rfl 47 #[.int .i64 x.id, .int .i64 x.worker, .int .i64 x.at', .int .i64 x.kind, .int .i64 x.from', .int .i64 x.to', .int .i64 x.element, .int .i64 x.units, .int .i64 x.class', .int .i64 x.gear, .int .i64 x.code] hb event_big ?_)
                    go_ret
                    exact ⟨rfl, B0⟩

/-- event.fair. -/
theorem event_fair (x : Evt) (r : Bool) (w : World) (h : EventIs x) (hr : fairP x = r) : Calls Try.prog 66 #[.agg #[.int .i64 x.id, .int .i64 x.worker, .int .i64 x.at', .int .i64 x.kind, .int .i64 x.from', .int .i64 x.to', .int .i64 x.element, .int .i64 x.units, .int .i64 x.class', .int .i64 x.gear, .int .i64 x.code]] w fun e w' => e = .returned (.bool r) ∧ Below w.heap.size w w' := by
  by_cases hn : 1 ≤ x.kind ∧ x.kind ≤ 7
  · by_cases hid : leastP x.id 100000 = true
    · have hid' : 0 ≤ x.id ∧ x.id ≤ 100000 := by simpa [leastP] using hid
      by_cases hw : x.worker < 0
      · obtain rfl : r = false := by rw [← hr]; exact fair_false (by rintro ⟨z1, z2, z3, z4, z5, z6⟩; omega)
        exact fair_worker x w h hn hid hw
      · by_cases hat : leastP x.at' 31449599 = true
        · have hat' : 0 ≤ x.at' ∧ x.at' ≤ 31449599 := by simpa [leastP] using hat
          by_cases h3 : x.kind = 3
          · refine fair_3 x r w h h3 hid hw hat ?_
            rw [← hr, Bool.eq_iff_iff]
            simp [fairP, fairE, h3]
            omega
          · by_cases h4 : x.kind = 4
            · refine fair_4 x r w h h4 hid hw hat ?_
              rw [← hr, Bool.eq_iff_iff]
              simp [fairP, fairE, h4]
              omega
            · refine fair_0 x r w h ⟨hn.1, hn.2, h3, h4⟩ hid hw hat ?_
              rw [← hr, Bool.eq_iff_iff]
              simp [fairP, fairE, h3, h4]
              omega
        · have hat' : ¬ (0 ≤ x.at' ∧ x.at' ≤ 31449599) := by simpa [leastP] using hat
          obtain rfl : r = false := by rw [← hr]; exact fair_false (by rintro ⟨z1, z2, z3, z4, z5, z6⟩; omega)
          exact fair_at x w h hn hid hw (by simpa using hat)
    · have hid' : ¬ (0 ≤ x.id ∧ x.id ≤ 100000) := by simpa [leastP] using hid
      obtain rfl : r = false := by rw [← hr]; exact fair_false (by rintro ⟨z1, z2, z3, z4, z5, z6⟩; omega)
      exact fair_id x w h hn (by simpa using hid)
  · obtain rfl : r = false := by rw [← hr]; exact fair_false (by rintro ⟨z1, z2, z3, z4, z5, z6⟩; omega)
    exact fair_no x w h hn

end Go.Proofs.Ytnjckaifgmliaaa
