/- SetupTells: THE STATEMENT: for every input the law returns true, and each argument reads behind the call as it read before. No condition. -/
import Derived.Deep.RegionHeld
import Derived.Test.YtnjckaifgmliaaaRef07P
import Derived.Test.YtnjckaifgmliaaaSetupApart
import Derived.Test.YtnjckaifgmliaaaNumUp
import Derived.ProofKit
import Derived.OpenShut
import Derived.ChangeOld
import Derived.Test.YtnjckaifgmliaaaRatio4
import Derived.Lib.SmallJoins
import Derived.Deep.Slices
import Derived.Deep.Fields
import Derived.Test.YtnjckaifgmliaaaSetupCheck
set_option linter.unusedSimpArgs false
set_option linter.unusedVariables false
-- (MERGED of several texts)

/- A REGION THAT DRAWS ITS ORDER, WHOSE LAST OPERATION WAITS FOR ALL OTHERS: what loads may be taken first even though the last one stores into their cells. Conditions: the last operation has an edge onto each other one. -/

namespace Go.Proofs.Ytnjckaifgmliaaa
open Go

section
variable {P : Program} {ops : Array Oper} {Q : Exit → Act → World → Prop} {md : Region.Mode} {S : World → Prop} {st : Nat}

/-- Whatever order is picked from here on, and S holds behind every operation but the last. -/
def wpAnyT (P : Program) (md : Region.Mode) (ops : Array Oper) (Q : Exit → Act → World → Prop) (S : World → Prop) (st : Nat) : Nat → Array Bool → Act → World → Prop
  | 0, listed, a, w => Region.ready md ops listed = [] ∧ Q .normal a w
  | fuel + 1, listed, a, w =>
    (Region.ready md ops listed = [] → Q .normal a w) ∧
    ∀ i ∈ Region.ready md ops listed, wpOp P ops Q i (fun a' w' => (i ≠ st → S w') ∧ wpAnyT P md ops Q S st fuel (listed.setIfInBounds i true) a' w') a w
theorem wpAny_of_last : ∀ (fuel : Nat) (listed : Array Bool) (a : Act) (w : World), wpAnyT P md ops Q S st fuel listed a w → wpAny P md ops Q fuel listed a w
  | 0, _, _, _, h => h
  | fuel + 1, _, _, _, h => ⟨h.1, fun i hi => wpOp_mono (fun a' w' h' => wpAny_of_last fuel _ a' w' h'.2) (h.2 i hi)⟩
/-- Does the last one wait for each other one? -/
def lastB (md : Region.Mode) (ops : Array Oper) (st : Nat) : Bool :=
  (List.range ops.size).all fun j => j == st || (match ops[st]? with | some o => o.after.any fun e => Region.binds md e && e.on == j | .none => false)
theorem lastB_spec (h : lastB md ops st = true) {i : Nat} (hi : i < ops.size) (hne : i ≠ st) {o : Oper} (ho : ops[st]? = some o) : ∃ e ∈ o.after, Region.binds md e = true ∧ e.on = i := by
  unfold lastB at h
  rw [List.all_eq_true] at h
  have h1 := h i (List.mem_range.2 hi)
  rw [ho] at h1
  simp only [Bool.or_eq_true, beq_iff_eq, hne, false_or] at h1
  rw [Array.any_eq_true'] at h1
  obtain ⟨e, he, h2⟩ := h1
  simp only [Bool.and_eq_true, beq_iff_eq] at h2
  exact ⟨e, he, h2.1, h2.2⟩
theorem wpAnyT_first {i : Nat} {oi : Oper} {v : Value} (hl : lastB md ops st = true) (hist : i ≠ st) (hi : ops[i]? = some oi) (hsel : ∀ (j : Nat) (o : Oper) cs b, ops[j]? = some o → o.op ≠ .select cs b)
    (hQ : ∀ c a w, Q (.panic c) (a.put oi.dst v) w → Q (.panic c) a w) :
    ∀ (fuel : Nat) (listed : Array Bool) (a : Act) (w : World),
      (∀ j oj, ops[j]? = some oj → j ≠ i → listed.getD j true = false → (∀ e ∈ oj.after, Region.binds md e = true → e.on ≠ i) → oi.apart ops oj = true) →
      i ∈ Region.ready md ops listed → YieldsIf P ops S oi v a → S w →
      wpAnyT P md ops Q S st fuel (listed.setIfInBounds i true) (a.put oi.dst v) w → wpAnyT P md ops Q S st (fuel + 1) listed a w := by
  intro fuel
  induction fuel with
  | zero =>
    intro listed a w _ hr hy hS H
    refine ⟨fun h => (by rw [h] at hr; cases hr), fun j hj => ?_⟩
    by_cases hji : j = i
    · subst hji; exact hy.wpOp hi hS ⟨fun _ => hS, H⟩
    · have := ready_mono hj hji
      rw [H.1] at this
      cases this
  | succ fuel ih =>
    intro listed a w hfree hr hy hS H
    refine ⟨fun h => (by rw [h] at hr; cases hr), fun j hj => ?_⟩
    by_cases hji : j = i
    · subst hji; exact hy.wpOp hi hS ⟨fun _ => hS, H⟩
    · have h1 := H.2 j (ready_mono hj hji)
      obtain ⟨hjun, oj, hoj, hall⟩ := mem_ready.1 hj
      have hnot : ∀ e ∈ oj.after, Region.binds md e = true → e.on ≠ i := fun e he hb heq => by
        have h1 := hall e he hb
        have h0 := (mem_ready.1 hr).1
        rw [heq] at h1
        rcases Nat.lt_or_ge i listed.size with h' | h'
        · simp [h'] at h0 h1; rw [h0] at h1; cases h1
        · simp [Array.getElem?_eq_none h'] at h1
      have hjst : j ≠ st := by
        rintro rfl
        obtain ⟨e, he, hb, hon⟩ := lastB_spec hl (Array.getElem?_eq_some_iff.1 hi).1 hist hoj
        exact hnot e he hb hon
      have h2 := wpOp_putIf hoj (hfree j oj hoj hji hjun hnot) (fun cs b => hsel i oi cs b hi) (fun cs b => hsel j oj cs b hoj) hQ hy h1
      have hfree' : ∀ k ok, ops[k]? = some ok → k ≠ i → (listed.setIfInBounds j true).getD k true = false →
          (∀ e ∈ ok.after, Region.binds md e = true → e.on ≠ i) → oi.apart ops ok = true := fun k ok hk hki hun hno => by
        refine hfree k ok hk hki ?_ hno
        by_cases hjk : j = k
        · subst hjk; exact hjun
        · rw [getD_set_ne true hjk] at hun; exact hun
      refine wpOp_mono (fun a' w' h3 => ⟨h3.2.1, ih (listed.setIfInBounds j true) a' w' hfree' (ready_mono hr (Ne.symm hji)) h3.1 (h3.2.1 hjst) ?_⟩) h2
      rw [Array.setIfInBounds_comm _ _ hji]
      exact h3.2.2
theorem wpAnyT_take {i : Nat} {oi : Oper} {v : Value} {fuel : Nat} {listed : Array Bool} {a : Act} {w : World} (hl : lastB md ops st = true) (hist : (i != st) = true) (hi : ops[i]? = some oi)
    (hs : Region.noSelect ops = true) (hf : Region.free md ops listed i = true) (hr : (Region.ready md ops listed).contains i = true)
    (hQ : ∀ c a w, Q (.panic c) (a.put oi.dst v) w → Q (.panic c) a w) (hy : YieldsIf P ops S oi v a) (hS : S w)
    (h : wpAnyT P md ops Q S st fuel (listed.setIfInBounds i true) (a.put oi.dst v) w) : wpAnyT P md ops Q S st (fuel + 1) listed a w :=
  wpAnyT_first hl (by simpa using hist) hi (Region.noSelect_spec hs) hQ fuel listed a w (Region.free_spec hi hf) (by simpa using hr) hy hS h
/-- One operation alone may come up, not the last. -/
theorem wpAnyT_one {i : Nat} {o : Oper} {fuel : Nat} {listed : Array Bool} {a : Act} {w : World} (hr : Region.ready md ops listed = [i]) (ho : ops[i]? = some o)
    (h : ∀ K' : Act → World → Prop, Shut (∀ a w, S w → (S w → wpAnyT P md ops Q S st fuel (listed.setIfInBounds i true) a w) → K' a w) → if Region.wanted o (yielded ops a.tmps) = true then Oper.wp P o a w K' Q else K' (a.put o.dst undef) w) :
    wpAnyT P md ops Q S st (fuel + 1) listed a w := by
  refine ⟨fun h0 => (by rw [hr] at h0; cases h0), fun j hj => ?_⟩
  rw [hr] at hj
  obtain rfl := List.mem_singleton.1 hj
  exact wpOp_step ho (fun K' hK => h K' (fun a w hS hW => hK a w ⟨fun _ => hS, hW hS⟩))
/-- The last one. -/
theorem wpAnyT_end {o : Oper} {fuel : Nat} {listed : Array Bool} {a : Act} {w : World} (hr : Region.ready md ops listed = [st]) (he : Region.ready md ops (listed.setIfInBounds st true) = []) (ho : ops[st]? = some o)
    (h : ∀ K' : Act → World → Prop, Shut (∀ a w, Q .normal a w → K' a w) → if Region.wanted o (yielded ops a.tmps) = true then Oper.wp P o a w K' Q else K' (a.put o.dst undef) w) :
    wpAnyT P md ops Q S st (fuel + 1) listed a w := by
  refine ⟨fun h0 => (by rw [hr] at h0; cases h0), fun j hj => ?_⟩
  rw [hr] at hj
  obtain rfl := List.mem_singleton.1 hj
  refine wpOp_step ho (fun K' hK => h K' (fun a w hQ' => hK a w ⟨fun h0 => absurd rfl h0, ?_⟩))
  cases fuel with
  | zero => exact ⟨he, hQ'⟩
  | succ n => exact ⟨fun _ => hQ', by rw [he]; simp⟩
/-- The beginning. -/
theorem wp_region_last {id : Nat} {a : Act} {w : World} (st : Nat) (hm : P.follows .mixedOrders = true) (hS : S w.drew)
    (h : S w.drew → wpAnyT P .any ops Q S st ops.size (Array.replicate ops.size false) a w.drew) : (Code.region id ops true).wp P Q a w :=
  wp_region_any hm (wpAny_of_last _ _ _ _ (h hS))
end
end Go.Proofs.Ytnjckaifgmliaaa

/- THE WALK of lumperref07.Read: the setup that numbers may be. -/

namespace Go.Proofs.Ytnjckaifgmliaaa
open Go.RowKit Lu

theorem own_off {w w' : World} {base S : Nat} {e : TypeId} {size : Nat} {v : Value} {n : Nat} {xs : List Value} (h : w.ownsRow base e size v n xs) (k : Off S w w') (hS : S < base) : w'.ownsRow base e size v n xs := by
  refine ⟨h.1, ?_⟩
  rcases h.2 with h0 | ⟨g, cap, cur, hv, hg, hh, hr⟩
  · exact .inl h0
  · exact .inr ⟨g, cap, cur, hv, hg, (k.block g (block_lt hh) (by omega)).trans hh, hr⟩
theorem Below.off' {B S : Nat} {V w w' : World} (k : Below B w w') (h : Off S V w) (hB : V.heap.size ≤ B) : Off S V w' :=
  ⟨k.os.trans h.os, k.tape.trans h.tape, k.output.trans h.output, Nat.le_trans h.size k.size, fun i hi hn => (k.block i (by omega)).trans (h.block i hi hn)⟩
theorem grp_old {W : World} {base K n S : Nat} {e : TypeId} {v : Value} {L : List Int} (h : W.ownsRow base e K v n (L.map (Value.int .i64))) (hS : W.heap.size ≤ S) : ∃ a c, v = .slice a n c ∧ GrpX W [S] a n K L := by
  have hl : L.length = n * K := by have := h.1; simpa using this
  rcases h.2 with ⟨rfl, rfl⟩ | ⟨g, cap, cur, rfl, hb, hg, hn, hm, hs, ht⟩
  · exact ⟨none, 0, rfl, hl, fun _ => rfl, .inl rfl⟩
  · have hlt := block_lt hg
    refine ⟨some ⟨g, 0, none⟩, cap, rfl, hl, (fun z => by cases z), .inr ⟨g, rfl, by simp; omega, hlt, fun i z hz => ?_⟩⟩
    have := h.cells (g := g) rfl i (.int .i64 z) (by rw [List.getElem?_map, hz]; rfl)
    rw [Addr.add_lit] at this
    exact this
theorem own_slice {w : World} {base : Nat} {e : TypeId} {size : Nat} {v : Value} {n : Nat} {xs : List Value} (h : w.ownsRow base e size v n xs) : ∃ a c, v = .slice a n c := by
  rcases h.2 with ⟨he, rfl⟩ | ⟨g, cap, cur, he, _⟩
  · exact ⟨_, _, he⟩
  · exact ⟨_, _, he⟩
theorem ltA {W : World} (o : Obj) {S : Nat} (h : S < W.heap.size) : S < (W.alloc o).heap.size := by simp; omega
theorem cells_at (W : World) (T : TypeId) (vs : List Value) (b : Nat) (hb : b = W.heap.size) : Cells (W.alloc (.cells vs.toArray T)) (some ⟨b, 0, none⟩) vs := by
  subst hb
  exact cells_ptrs W T vs
theorem keepAF {W : World} (o : Obj) {p : Addr} (h : W.frozen? p = false) (hp : p.block < W.heap.size) : (W.alloc o).frozen? p = false := (((Below.refl W.heap.size W).alloc (Nat.le_refl _) o).frozen hp).trans h
theorem ref7_part_is (A : Option Addr) (n c : Nat) (zs : List Int) (i j : Nat) (w : World) (h : Ints w A n zs) (hi : i ≤ 90000) (hj : j = i + 1) :
    Calls Try.prog 40 #[.slice A n c, .int .i64 (i : Int)] w fun e w' => e = .returned (.agg #[.int .i64 (atP zs i), .int .i64 (atP zs j)]) ∧ w' = w.alloc (.cells #[.int .i64 (atP zs i), .int .i64 (atP zs j)] 24) := by
  subst hj
  exact ref7_part A n c zs i w h hi
theorem ref7_at_is (A : Option Addr) (n c : Nat) (zs : List Int) (z : Int) (i : Nat) (w : World) (h : Ints w A n zs) (hi : i ≤ 100000) (hz : z = (i : Int)) :
    Calls Try.prog 38 #[.slice A n c, .int .i64 z] w fun e w' => e = .returned (.int .i64 (atP zs i)) ∧ w = w' := by
  subst hz
  exact ref7_at A n c zs i w h hi
theorem ref7_many_is (A : Option Addr) (n c : Nat) (zs : List Int) (z : Int) (i : Nat) (w : World) (h : Ints w A n zs) (hi : i ≤ 100000) (hp : ∀ z ∈ zs, 0 ≤ z) (hz : z = (i : Int)) :
    Calls Try.prog 39 #[.slice A n c, .int .i64 z] w fun e w' => e = .returned (.int .i64 (cntP zs i : Int)) ∧ w = w' := by
  subst hz
  exact ref7_many A n c zs i w h hi hp
theorem grp_own2 {W : World} {base K n : Nat} {X : List Nat} {e : TypeId} {v : Value} {L : List Int} (h : W.ownsRow base e K v n (L.map (Value.int .i64))) (hX : ∀ x ∈ X, x < base) : ∃ a c, v = .slice a n c ∧ GrpX W X a n K L := by
  have hl : L.length = n * K := by have := h.1; simpa using this
  rcases h.2 with ⟨rfl, rfl⟩ | ⟨g, cap, cur, rfl, hb, hg, hn, hm, hs, ht⟩
  · exact ⟨none, 0, rfl, hl, fun _ => rfl, .inl rfl⟩
  · refine ⟨some ⟨g, 0, none⟩, cap, rfl, hl, (fun z => by cases z), .inr ⟨g, rfl, fun hc => by have := hX g hc; omega, block_lt hg, fun i z hz => ?_⟩⟩
    have := h.cells (g := g) rfl i (.int .i64 z) (by rw [List.getElem?_map, hz]; rfl)
    rw [Addr.add_lit] at this
    exact this
theorem rd_setup {W : World} {X : List Nat} {zs : List Int} (hp : ∀ z ∈ zs, Pk z) {a1 a2 a3 a4 a5 a6 : Option Addr} {c1 c2 c3 c4 c5 c6 d1 d2 d3 d4 d5 d6 : Nat}
    (h1 : cntP zs 1 = c1) (h2 : cntP zs (q1 zs + 2) = c2) (h3 : cntP zs (q2 zs) = c3) (h4 : cntP zs (q3 zs) = c4) (h5 : cntP zs (q4 zs + 11) = c5) (h6 : cntP zs (q5 zs + 3) = c6)
    (g1 : GrpX W X a1 c1 3 (flat3i (read3 zs 2 c1))) (g2 : GrpX W X a2 c2 4 (flat4 (read4 zs (q1 zs + 3) c2))) (g3 : GrpX W X a3 c3 2 (flat2 (read2 zs (q2 zs + 1) c3))) (g4 : GrpX W X a4 c4 2 (flat2 (read2 zs (q3 zs + 1) c4)))
    (g5 : GrpX W X a5 c5 1 (read1 zs (q4 zs + 12) c5)) (g6 : GrpX W X a6 c6 2 (flat2 (read2 zs (q5 zs + 4) c6))) :
    SetupIs W (refSetup zs) ⟨a1, c1, d1, a2, c2, d2, a3, c3, d3, a4, c4, d4, a5, c5, d5, a6, c6, d6⟩ := by
  subst h1 h2 h3 h4 h5 h6
  have b1 := cntP_le zs 1
  have b2 := cntP_le zs (q1 zs + 2)
  have b3 := cntP_le zs (q2 zs)
  have b4 := cntP_le zs (q3 zs)
  have b5 := cntP_le zs (q4 zs + 11)
  have b6 := cntP_le zs (q5 zs + 3)
  exact ⟨atP_in hp _, atP_in hp _, atP_in hp _, atP_in hp _, atP_in hp _, atP_in hp _, atP_in hp _, atP_in hp _, atP_in hp _, atP_in hp _, atP_in hp _, atP_in hp _, atP_in hp _, atP_in hp _, atP_in hp _, atP_in hp _, atP_in hp _,
    ways_of g1 (read_in3 hp _ _) (Nat.le_trans b1 (by decide)), elements_of g2 (read_in4 hp _ _) (Nat.le_trans b2 (by decide)), pairs_of g3 (read_in2 hp _ _) (Nat.le_trans b3 (by decide)), pairs_of g4 (read_in2 hp _ _) (Nat.le_trans b4 (by decide)), ints_of g5 (read_in1 hp _ _) (Nat.le_trans b5 (by decide)), pairs_of g6 (read_in2 hp _ _) (Nat.le_trans b6 (by decide))⟩
/-- What Read has come to: the box of the setup, the result's, the numbers, the bytes, and the lists so far. -/
structure RdSt (w V : World) (S : Nat) (A : Option Addr) (zs : List Int) (a0 : Option Addr) (len : Nat) (bs : List Int) (cs : Array Value) (ls : List (Option Addr × Nat × Nat × List Int)) : Prop where
  box : V.heap[S]? = some (.cells cs 30)
  res : V.heap[w.heap.size]? = some (.cells #[.int .i64 0, .slice none 0 0, .int .i64 0, .int .i64 0, .slice none 0 0, .slice none 0 0, .slice none 0 0, .int .i64 0, .int .i64 0, .int .i64 0, .int .i64 0, .int .i64 0, .int .i64 0, .int .i64 0, .int .i64 0, .int .i64 0, .int .i64 0, .int .i64 0, .slice none 0 0, .int .i64 0, .int .i64 0, .int .i64 0, .slice none 0 0] 30)
  gi : GrpX V [S] A zs.length 1 zs
  row : Row8 V a0 len bs
  low : Below w.heap.size w V
  new : w.heap.size < S
  blk : ∀ b o, a0 = some ⟨b, o, none⟩ → b < w.heap.size
  lists : ∀ x ∈ ls, GrpX V [S, w.heap.size] x.1 x.2.1 x.2.2.1 x.2.2.2
section
variable {w V V' : World} {S : Nat} {A : Option Addr} {zs : List Int} {a0 : Option Addr} {len : Nat} {bs : List Int} {cs cs' : Array Value} {ls : List (Option Addr × Nat × Nat × List Int)}
theorem RdSt.off (h : RdSt w V S A zs a0 len bs cs ls) (k : Off S V V') (hb : V'.heap[S]? = some (.cells cs' 30)) : RdSt w V' S A zs a0 len bs cs' ls := by
  have h1 := h.new
  have h2 := block_lt h.box
  exact ⟨hb, (k.block _ (by omega) (by omega)).trans h.res, h.gi.off k, h.row.off k (fun b o hb => by have := h.blk b o hb; omega), h.low.trans (k.below (by omega) (by omega)), h.new, h.blk, fun x hx => (h.lists x hx).off2 (H := S) (S := S) k.two (by simp) (by simp)⟩
theorem RdSt.store (h : RdSt w V S A zs a0 len bs cs ls) (i : Nat) (v : Value) (hc : cs.setIfInBounds i v = cs') : RdSt w (V.setCell ⟨S, i, none⟩ v) S A zs a0 len bs cs' ls :=
  h.off ((Off.refl S V).setCell rfl v) (by rw [← hc]; exact heap_setCell h.box v)
theorem RdSt.below (h : RdSt w V S A zs a0 len bs cs ls) (k : Below V.heap.size V V') : RdSt w V' S A zs a0 len bs cs ls :=
  h.off (Below.off k) (box_keep k h.box (block_lt h.box))
theorem RdSt.snoc (h : RdSt w V S A zs a0 len bs cs ls) {x : Option Addr × Nat × Nat × List Int} (hx : GrpX V [S, w.heap.size] x.1 x.2.1 x.2.2.1 x.2.2.2) : RdSt w V S A zs a0 len bs cs (x :: ls) :=
  ⟨h.box, h.res, h.gi, h.row, h.low, h.new, h.blk, fun y hy => by rcases List.mem_cons.1 hy with rfl | hy; exact hx; exact h.lists y hy⟩
end

set_option maxRecDepth 100000 in
set_option maxHeartbeats 8000000 in
theorem ref7_Read (a0 : Option Addr) (len cap : Nat) (bs : List Int) (w : World) (h : Row8 w a0 len bs) (hl : len ≤ 2000) (hcap : len ≤ cap) (hblk : ∀ b o, a0 = some ⟨b, o, none⟩ → b < w.heap.size) :
    Calls Try.prog 18 #[.slice a0 len cap] w (ReadSays w bs) := by
  have k0 : Below w.heap.size w (w.alloc (.cells #[.int .i64 0, .slice none 0 0, .int .i64 0, .int .i64 0, .slice none 0 0, .slice none 0 0, .slice none 0 0, .int .i64 0, .int .i64 0, .int .i64 0, .int .i64 0, .int .i64 0, .int .i64 0, .int .i64 0, .int .i64 0, .int .i64 0, .int .i64 0, .int .i64 0, .slice none 0 0, .int .i64 0, .int .i64 0, .int .i64 0, .slice none 0 0] 30)) := by go_grown
  have hZ0 : (w.alloc (.cells #[.int .i64 0, .slice none 0 0, .int .i64 0, .int .i64 0, .slice none 0 0, .slice none 0 0, .slice none 0 0, .int .i64 0, .int .i64 0, .int .i64 0, .int .i64 0, .int .i64 0, .int .i64 0, .int .i64 0, .int .i64 0, .int .i64 0, .int .i64 0, .int .i64 0, .slice none 0 0, .int .i64 0, .int .i64 0, .int .i64 0, .slice none 0 0] 30)).heap[w.heap.size]? = some (.cells #[.int .i64 0, .slice none 0 0, .int .i64 0, .int .i64 0, .slice none 0 0, .slice none 0 0, .slice none 0 0, .int .i64 0, .int .i64 0, .int .i64 0, .int .i64 0, .int .i64 0, .int .i64 0, .int .i64 0, .int .i64 0, .int .i64 0, .int .i64 0, .int .i64 0, .slice none 0 0, .int .i64 0, .int .i64 0, .int .i64 0, .slice none 0 0] 30) := box_new w _ rfl _ _
  have HB0 := Lib.hid (h.below k0)
  have hln := h.1
  have HBLK := Lib.hid hblk
  have KEY := Lib.hid (ref7_all a0 len cap bs _ (h.below k0) hcap (by omega) (fun b o hb => by have := hblk b o hb; simp; omega))
  clear h hblk
  go_enter Try.func18, Try.ntmps18
  go_wp2_with fail
  refine KEY.out.mono ?_
  rintro e1 w1 ⟨v, zs, rfl, own1, hall, k1⟩
  obtain ⟨A, zc, rfl, hg⟩ := grp_old (S := w1.heap.size) own1 (Nat.le_refl _)
  have hpk := hall.1
  have hzl := hall.2.1
  have hin : ∀ z ∈ zs, In z := fun z hz => (hpk z hz).in64
  have hz1 := box_keep k1 hZ0 (block_lt hZ0)
  have hB1 := HB0.out.below k1
  have BB := k0.trans (k1.mono k0.size)
  have HIN := Lib.hid hin
  have HPK := Lib.hid hpk
  have HALL := Lib.hid hall
  have HI1 := Lib.hid (ints_of hg hin (by omega))
  clear own1 hall hpk hin KEY hZ0 HB0 k1
  go_wp2_with fail
  refine (ref7_at A zs.length zc zs 0 w1 HI1.out (by omega)).mono ?_
  rintro e2 w2 ⟨rfl, rfl⟩
  go_upto_region 3 with (refine wpList_store_new _ _ _ rfl 30 (.tmp 5) (.tmp 19) rfl #[.int .i64 (atP zs 0), .slice none 0 0, .int .i64 0, .int .i64 0, .slice none 0 0, .slice none 0 0, .slice none 0 0, .int .i64 0, .int .i64 0, .int .i64 0, .int .i64 0, .int .i64 0, .int .i64 0, .int .i64 0, .int .i64 0, .int .i64 0, .int .i64 0, .int .i64 0, .slice none 0 0, .int .i64 0, .int .i64 0, .int .i64 0, .slice none 0 0] w1.heap.size rfl rfl rfl rfl setup_size (by kernel_rfl) ?_)
  have hws : w.heap.size < w1.heap.size := block_lt hz1
  refine gen_code (S := fun V => RdSt w V w1.heap.size A zs a0 len bs #[.int .i64 (atP zs 0), .slice none 0 0, .int .i64 0, .int .i64 0, .slice none 0 0, .slice none 0 0, .slice none 0 0, .int .i64 0, .int .i64 0, .int .i64 0, .int .i64 0, .int .i64 0, .int .i64 0, .int .i64 0, .int .i64 0, .int .i64 0, .int .i64 0, .int .i64 0, .slice none 0 0, .int .i64 0, .int .i64 0, .int .i64 0, .slice none 0 0] []) ⟨box_new _ _ rfl _ _, box_keep (B := w1.heap.size) (by go_grown) hz1 (block_lt hz1), hg.below (by go_grown), hB1.below (by go_grown), BB.alloc BB.size _, hws, HBLK.out, fun x hx => by simp at hx⟩ (fun V hV => ?_)
  clear hz1 hg hB1 BB HI1 hws
  generalize w1.heap.size = S at *
  clear w1
  have HR := Lib.hid hV
  clear hV
  have hq1 : q1 zs ≤ 302 := by unfold q1; have := cntP_le zs 1; omega
  have hq2 : q2 zs ≤ 705 := by unfold q2; have := cntP_le zs (q1 zs + 2); omega
  have hq3 : q3 zs ≤ 906 := by unfold q3; have := cntP_le zs (q2 zs); omega
  have hq4 : q4 zs ≤ 1107 := by unfold q4; have := cntP_le zs (q3 zs); omega
  have hq5 : q5 zs ≤ 1219 := by unfold q5; have := cntP_le zs (q4 zs + 11); omega
  obtain ⟨i0, hi, hz0, hz1, hz2⟩ := info_parts info_Way
  obtain ⟨c1, hc1⟩ : ∃ c, cntP zs 1 = c := ⟨_, rfl⟩
  have hcl1 : c1 ≤ 100 := by rw [← hc1]; exact cntP_le _ _
  have HC1 := Lib.hid hc1

  clear hc1
  have hSV := block_lt HR.out.box
  go_wp2_with fail
  go_loopw [6, 7] (fun pv i wr => ∃ (k : Nat) (v : Value), k ≤ c1 ∧ pv = .int .i64 ((2 + k * 3 : Nat) : Int) ∧ i = .int .i64 (k : Int) ∧ wr.heap[S]? = some (.cells #[.int .i64 (atP zs 0), v, .int .i64 0, .int .i64 0, .slice none 0 0, .slice none 0 0, .slice none 0 0, .int .i64 0, .int .i64 0, .int .i64 0, .int .i64 0, .int .i64 0, .int .i64 0, .int .i64 0, .int .i64 0, .int .i64 0, .int .i64 0, .int .i64 0, .slice none 0 0, .int .i64 0, .int .i64 0, .int .i64 0, .slice none 0 0] 30) ∧ wr.ownsRow V.heap.size 58 3 v k ((flat3i (read3 zs (2) k)).map (Value.int .i64)) ∧ Off S V wr) (fun _ i _ => c1 - (intOf i).toNat)
  case atStart => exact ⟨0, _, by omega, rfl, rfl, HR.out.box, ⟨by simp [read3, flat3i], .inl ⟨rfl, rfl⟩⟩, Off.refl _ _⟩
  case round =>
    obtain ⟨k, v, hk, rfl, rfl, hSr, hown, hoff⟩ := hrel
    have hsz := hoff.size
    have hIr := ints_of (HR.out.gi.off hoff) HIN.out (by omega)
    have HIR := Lib.hid hIr
    have HOWN := Lib.hid hown
    have HSR := Lib.hid hSr
    have hSw : S < wr.heap.size := by omega
    clear hIr hown hSr
    by_cases hlt : k < c1
    · have HID := Lib.hid (HIR.out.below (w' := wr.drew) ((Below.refl _ _).drew))
      have gS : wr.drew.cell? ⟨S, 1, none⟩ = some v := by have := HSR.out; show wr.cell? _ = _; simp [World.cell?, this]
      have fS : wr.drew.frozen? ⟨S, 1, none⟩ = false := by have := HSR.out; show wr.frozen? _ = _; simp [World.frozen?, this]
      have hSd : S < wr.drew.heap.size := hSw
      obtain ⟨p0, hp0⟩ : ∃ p, 2 + k * 3 = p := ⟨_, rfl⟩
      have hpb : p0 ≤ 5000 := by omega
      rw [hp0]
      obtain ⟨p1, hp1⟩ : ∃ p, p0 + 1 = p := ⟨_, rfl⟩
      have u1 : IntKind.i64.wrap (p1 : Int) = (p1 : Int) := IntWalk.i64_in _ (by omega)
      have f1 : (p0 : Int) + 1 = (p1 : Int) := by omega
      have e1 : IntKind.i64.wrap ((p0 : Int) + 1) = (p1 : Int) := by rw [f1]; exact u1
      obtain ⟨p2, hp2⟩ : ∃ p, p0 + 2 = p := ⟨_, rfl⟩
      have u2 : IntKind.i64.wrap (p2 : Int) = (p2 : Int) := IntWalk.i64_in _ (by omega)
      have f2 : (p0 : Int) + 2 = (p2 : Int) := by omega
      have e2 : IntKind.i64.wrap ((p0 : Int) + 2) = (p2 : Int) := by rw [f2]; exact u2
      have HP0 := Lib.hid hp0
      clear hp0
      have w0 : IntKind.i64.wrap (p0 : Int) = (p0 : Int) := IntWalk.i64_in _ (by omega)
      have hki : (k : Int) < ((c1 : Nat) : Int) := by omega
      have hki2 : decide ((k : Int) < ((c1 : Nat) : Int)) = true := by rw [decide_eq_true_iff]; exact hki
      go_wp2_with fail
      refine (ref7_many A zs.length zc zs 1 wr HIR.out (by omega) (fun z hz => (HPK.out z hz).1)).mono ?_
      rw [HC1.out]
      rintro e3 w3 ⟨rfl, rfl⟩
      go_wp2_with fail
      refine wp_region_last (S := (fun w' => w'.cell? ⟨S, 1, none⟩ = some v ∧ w'.frozen? ⟨S, 1, none⟩ = false)) 17 (by kernel_rfl) ?_ (fun hHeld => ?_)
      · exact ⟨gS, fS⟩
      refine wpAnyT_take (i := 0) (oi := ⟨some 26, _, _, _, _, none⟩) (v := ?_) (by kernel_rfl) (by rfl) rfl (by kernel_rfl) (by kernel_rfl) (by kernel_rfl) (fun _ _ _ h => h) (Or.inl ⟨by rfl, ?_⟩) (by assumption) ?_
      rotate_left
      · intro wz hSw; (try dsimp only at hSw); go_simp; (try with_reducible rfl)
      try simp only [Act.put, List.setIfInBounds_toArray, List.set_cons_zero, List.set_cons_succ]
      refine wpAnyT_take (i := 1) (oi := ⟨some 27, _, _, _, _, none⟩) (v := ?_) (by kernel_rfl) (by rfl) rfl (by kernel_rfl) (by kernel_rfl) (by kernel_rfl) (fun _ _ _ h => h) (Or.inl ⟨by rfl, ?_⟩) (by assumption) ?_
      rotate_left
      · intro wz hSw; (try dsimp only at hSw); go_simp; (try with_reducible rfl)
      try simp only [Act.put, List.setIfInBounds_toArray, List.set_cons_zero, List.set_cons_succ]
      refine wpAnyT_take (i := 2) (oi := ⟨some 28, _, _, _, _, none⟩) (v := ?_) (by kernel_rfl) (by rfl) rfl (by kernel_rfl) (by kernel_rfl) (by kernel_rfl) (fun _ _ _ h => h) (Or.inl ⟨by rfl, ?_⟩) (by assumption) ?_
      rotate_left
      · intro wz hSw; (try dsimp only at hSw); go_simp; (try with_reducible rfl)
      try simp only [Act.put, List.setIfInBounds_toArray, List.set_cons_zero, List.set_cons_succ]
      refine wpAnyT_take (i := 3) (oi := ⟨some 29, _, _, _, _, none⟩) (v := ?_) (by kernel_rfl) (by rfl) rfl (by kernel_rfl) (by kernel_rfl) (by kernel_rfl) (fun _ _ _ h => h) (Or.inl ⟨by rfl, ?_⟩) (by assumption) ?_
      rotate_left
      · intro wz hSw; (try dsimp only at hSw); go_simp; (try with_reducible rfl)
      try simp only [Act.put, List.setIfInBounds_toArray, List.set_cons_zero, List.set_cons_succ]
      refine wpAnyT_take (i := 5) (oi := ⟨some 31, _, _, _, _, none⟩) (v := ?_) (by kernel_rfl) (by rfl) rfl (by kernel_rfl) (by kernel_rfl) (by kernel_rfl) (fun _ _ _ h => h) (Or.inl ⟨by rfl, ?_⟩) (by assumption) ?_
      rotate_left
      · intro wz hSw; (try dsimp only at hSw); go_simp; (try with_reducible rfl)
      try simp only [Act.put, List.setIfInBounds_toArray, List.set_cons_zero, List.set_cons_succ]
      refine wpAnyT_take (i := 6) (oi := ⟨some 32, _, _, _, _, none⟩) (v := ?_) (by kernel_rfl) (by rfl) rfl (by kernel_rfl) (by kernel_rfl) (by kernel_rfl) (fun _ _ _ h => h) (Or.inl ⟨by rfl, ?_⟩) (by assumption) ?_
      rotate_left
      · intro wz hSw; (try dsimp only at hSw); go_simp; (try with_reducible rfl)
      try simp only [Act.put, List.setIfInBounds_toArray, List.set_cons_zero, List.set_cons_succ]
      refine wpAnyT_take (i := 7) (oi := ⟨some 33, _, _, _, _, none⟩) (v := ?_) (by kernel_rfl) (by rfl) rfl (by kernel_rfl) (by kernel_rfl) (by kernel_rfl) (fun _ _ _ h => h) (Or.inl ⟨by rfl, ?_⟩) (by assumption) ?_
      rotate_left
      · intro wz hSw; (try dsimp only at hSw); go_simp; (try with_reducible rfl)
      try simp only [Act.put, List.setIfInBounds_toArray, List.set_cons_zero, List.set_cons_succ]
      refine wpAnyT_take (i := 9) (oi := ⟨some 35, _, _, _, _, none⟩) (v := ?_) (by kernel_rfl) (by rfl) rfl (by kernel_rfl) (by kernel_rfl) (by kernel_rfl) (fun _ _ _ h => h) (Or.inl ⟨by rfl, ?_⟩) (by assumption) ?_
      rotate_left
      · intro wz hSw; (try dsimp only at hSw); go_simp; (try with_reducible rfl)
      try simp only [Act.put, List.setIfInBounds_toArray, List.set_cons_zero, List.set_cons_succ]
      refine wpAnyT_take (i := 10) (oi := ⟨some 36, _, _, _, _, none⟩) (v := ?_) (by kernel_rfl) (by rfl) rfl (by kernel_rfl) (by kernel_rfl) (by kernel_rfl) (fun _ _ _ h => h) (Or.inl ⟨by rfl, ?_⟩) (by assumption) ?_
      rotate_left
      · intro wz hSw; (try dsimp only at hSw); go_simp; (try with_reducible rfl)
      try simp only [Act.put, List.setIfInBounds_toArray, List.set_cons_zero, List.set_cons_succ]
      refine wpAnyT_take (i := 11) (oi := ⟨some 37, _, _, _, _, none⟩) (v := ?_) (by kernel_rfl) (by rfl) rfl (by kernel_rfl) (by kernel_rfl) (by kernel_rfl) (fun _ _ _ h => h) (Or.inl ⟨by rfl, ?_⟩) (by assumption) ?_
      rotate_left
      · intro wz hSw; (try dsimp only at hSw); go_simp; (try with_reducible rfl)
      try simp only [Act.put, List.setIfInBounds_toArray, List.set_cons_zero, List.set_cons_succ]
      refine wpAnyT_one (i := 4) (o := ⟨some 30, _, _, _, _, none⟩) (by kernel_rfl) rfl (fun K hK => ?_)
      go_simp
      refine (ref7_at A zs.length zc zs p0 _ HID.out (by omega)).mono ?_
      rintro e' w' ⟨rfl, rfl⟩
      refine hK.out _ _ ?_ (fun hHeld => ?_)
      · exact ⟨gS, fS⟩
      clear hK K
      try simp only [Act.put, List.setIfInBounds_toArray, List.set_cons_zero, List.set_cons_succ]
      refine wpAnyT_one (i := 8) (o := ⟨some 34, _, _, _, _, none⟩) (by kernel_rfl) rfl (fun K hK => ?_)
      go_simp
      refine (ref7_at A zs.length zc zs p1 _ HID.out (by omega)).mono ?_
      rintro e' w' ⟨rfl, rfl⟩
      refine hK.out _ _ ?_ (fun hHeld => ?_)
      · exact ⟨gS, fS⟩
      clear hK K
      try simp only [Act.put, List.setIfInBounds_toArray, List.set_cons_zero, List.set_cons_succ]
      refine wpAnyT_one (i := 12) (o := ⟨some 38, _, _, _, _, none⟩) (by kernel_rfl) rfl (fun K hK => ?_)
      go_simp
      refine (ref7_at A zs.length zc zs p2 _ HID.out (by omega)).mono ?_
      rintro e' w' ⟨rfl, rfl⟩
      refine hK.out _ _ ?_ (fun hHeld => ?_)
      · exact ⟨gS, fS⟩
      clear hK K
      try simp only [Act.put, List.setIfInBounds_toArray, List.set_cons_zero, List.set_cons_succ]
      refine wpAnyT_take (i := 13) (oi := ⟨some 39, _, _, _, _, none⟩) (v := ?_) (by kernel_rfl) (by rfl) rfl (by kernel_rfl) (by kernel_rfl) (by kernel_rfl) (fun _ _ _ h => h) (Or.inl ⟨by rfl, ?_⟩) (by assumption) ?_
      rotate_left
      · intro wz hSw; (try dsimp only at hSw); go_simp; (try with_reducible rfl)
      try simp only [Act.put, List.setIfInBounds_toArray, List.set_cons_zero, List.set_cons_succ]
      refine wpAnyT_one (i := 14) (o := ⟨some 40, _, _, _, _, none⟩) (by kernel_rfl) rfl (fun K hK => ?_)
      go_simp
      replace gS := keepA (.cells #[.int .i64 (atP zs p0), .int .i64 (atP zs p1), .int .i64 (atP zs p2)] 58) gS
      replace fS := keepAF (.cells #[.int .i64 (atP zs p0), .int .i64 (atP zs p1), .int .i64 (atP zs p2)] 58) fS hSd
      refine hK.out _ _ ?_ (fun hHeld => ?_)
      · exact ⟨gS, fS⟩
      clear hK K
      try simp only [Act.put, List.setIfInBounds_toArray, List.set_cons_zero, List.set_cons_succ]
      refine wpAnyT_one (i := 15) (o := ⟨some 41, _, _, _, _, none⟩) (by kernel_rfl) rfl (fun K hK => ?_)
      refine step_append_cells (by rfl) (.tmp 27) (.tmp 40) 22 (by rfl) V.heap.size 58 i0 (.agg #[.int .i64 0, .int .i64 0, .int .i64 0]) 3 24 Try.underlying22 hi hz0 hz1 hz2 rfl (by decide) v k _ (by rfl) (own_below' HOWN.out (by go_grown)) (some ⟨_, 0, none⟩) 1 1 [.int .i64 (atP zs p0), .int .i64 (atP zs p1), .int .i64 (atP zs p2)] (by rfl) (by rfl) (cells_at _ _ _ _ (by first | rfl | simp)) (fun h => by cases h) (by intro u hu; simp only [List.mem_cons, List.not_mem_nil, or_false] at hu; rcases hu with rfl | rfl | rfl <;> rfl) (by unfold maxLen; omega) (by omega) (by simp; omega) ?_
      intro v' w2 own' grow'
      obtain ⟨av, dv, rfl⟩ := own_slice own'
      have Bg : Below V.heap.size wr w2 := below_own (by first | go_grown | (go_grown; omega)) (own_below' HOWN.out (by go_grown)) grow' (Nat.le_refl _) (by simp; omega)
      have hS2 := box_keep Bg HSR.out hSV
      replace gS : w2.cell? ⟨S, 1, none⟩ = some v := by show w2.cell? _ = _; simp [World.cell?, hS2]
      replace fS : w2.frozen? ⟨S, 1, none⟩ = false := by show w2.frozen? _ = _; simp [World.frozen?, hS2]
      refine hK.out _ _ ?_ (fun hHeld => ?_)
      · exact ⟨gS, fS⟩
      clear hK K
      try simp only [Act.put, List.setIfInBounds_toArray, List.set_cons_zero, List.set_cons_succ]
      refine wpAnyT_take (i := 16) (oi := ⟨some 42, _, _, _, _, none⟩) (v := ?_) (by kernel_rfl) (by rfl) rfl (by kernel_rfl) (by kernel_rfl) (by kernel_rfl) (fun _ _ _ h => h) (Or.inl ⟨by rfl, ?_⟩) (by assumption) ?_
      rotate_left
      · intro wz hSw; (try dsimp only at hSw); go_simp; (try with_reducible rfl)
      try simp only [Act.put, List.setIfInBounds_toArray, List.set_cons_zero, List.set_cons_succ]
      refine wpAnyT_end (o := ⟨none, _, _, _, _, none⟩) (by kernel_rfl) (by kernel_rfl) rfl (fun K hK => ?_)
      go_simp
      refine hK.out _ _ ?_
      clear hK K
      try simp only [Act.put, List.setIfInBounds_toArray, List.set_cons_zero, List.set_cons_succ]
      have Bo := Below.off' Bg hoff (Nat.le_refl _)
      have HOWN' := Lib.hid own'
      have HP1 := Lib.hid (And.intro hp1 hp2)
      clear own' grow' gS fS hHeld e1 u1 f1 hp1 e2 u2 f2 hp2
      go_wp2_with fail
      go_roundw
      case rel =>
        refine ⟨k + 1, .slice av (k + 1) dv, by omega, ?_, by go_num, heap_setCell hS2 _, ?_, ?_⟩
        · show Value.int .i64 _ = Value.int .i64 _
          congr 1
          have := HP0.out
          omega

        · have h1 := own_off HOWN'.out ((Off.refl S w2).setCell (p := ⟨S, 1, none⟩) rfl (.slice av (k + 1) dv)) hSV
          have h2 := HP0.out
          have h3 := HP1.out
          have h4 : (flat3i (read3 zs (2) (k + 1))) = (flat3i (read3 zs (2) k)) ++ [atP zs p0, atP zs p1, atP zs p2] := by rw [read3_snoc, h2]; first | done | simp only [Nat.add_assoc, Nat.reduceAdd, h3]
          rw [h4, List.map_append]
          exact h1
        · exact Bo.setCell rfl _
      case measure => simp [intOf]; omega
    · obtain rfl : c1 = k := by omega
      obtain ⟨a1, d1, rfl, hg1⟩ := grp_own2 (X := [S, w.heap.size]) HOWN.out (fun x hx => by have := HR.out.new; simp at hx; omega)
      have hR2 := (HR.out.off hoff HSR.out).snoc (x := (a1, c1, 3, flat3i (read3 zs (2) c1))) hg1
      clear HR
      have HR := Lib.hid hR2
      have hkn : decide ((c1 : Int) < ((c1 : Nat) : Int)) = false := by rw [decide_eq_false_iff_not]; omega
      go_wp2_with fail
      refine (ref7_many A zs.length zc zs 1 wr HIR.out (by omega) (fun z hz => (HPK.out z hz).1)).mono ?_
      rw [HC1.out]
      rintro e3 w3 ⟨rfl, rfl⟩
      clear hkn
      have hqe : 2 + c1 * 3 = q1 zs := by unfold q1; rw [HC1.out]; first | done | omega
      rw [hqe]
      clear hqe
      clear hR2 hg1 hoff HOWN HSR hsz hSV hSw HIR hlt hk hi hz0 hz1 hz2 i0
      obtain ⟨V, hV⟩ : ∃ V', V' = wr := ⟨_, rfl⟩
      subst hV
      have HI := Lib.hid (ints_of HR.out.gi HIN.out (by omega))
      go_wp2_with fail
      refine (ref7_part_is A zs.length zc zs (q1 zs) (q1 zs + 1) V HI.out (by omega) rfl).mono ?_
      rintro e' w' ⟨rfl, rfl⟩
      clear HI
      have hR2 := HR.out.below (V' := V.alloc (.cells #[.int .i64 (atP zs (q1 zs)), .int .i64 (atP zs (q1 zs + 1))] 24)) (by go_grown)
      have hbx := hR2.box
      have g2 : (V.alloc (.cells #[.int .i64 (atP zs (q1 zs)), .int .i64 (atP zs (q1 zs + 1))] 24)).cell? ⟨S, 2, none⟩ = some (.int .i64 0) := by simp [World.cell?, hbx]
      have f2 : (V.alloc (.cells #[.int .i64 (atP zs (q1 zs)), .int .i64 (atP zs (q1 zs + 1))] 24)).frozen? ⟨S, 2, none⟩ = false := by simp [World.frozen?, hbx]
      have g3 : (V.alloc (.cells #[.int .i64 (atP zs (q1 zs)), .int .i64 (atP zs (q1 zs + 1))] 24)).cell? ⟨S, 3, none⟩ = some (.int .i64 0) := by simp [World.cell?, hbx]
      have f3 : (V.alloc (.cells #[.int .i64 (atP zs (q1 zs)), .int .i64 (atP zs (q1 zs + 1))] 24)).frozen? ⟨S, 3, none⟩ = false := by simp [World.frozen?, hbx]
      go_upto_region 10 with fail
      clear g2 g3 f2 f3 hbx
      have HR2 := Lib.hid hR2
      clear hR2
      clear HR
      refine gen_code (S := fun V' => RdSt w V' S A zs a0 len bs #[.int .i64 (atP zs 0), .slice a1 c1 d1, .int .i64 (atP zs (q1 zs)), .int .i64 (atP zs (q1 zs + 1)), .slice none 0 0, .slice none 0 0, .slice none 0 0, .int .i64 0, .int .i64 0, .int .i64 0, .int .i64 0, .int .i64 0, .int .i64 0, .int .i64 0, .int .i64 0, .int .i64 0, .int .i64 0, .int .i64 0, .slice none 0 0, .int .i64 0, .int .i64 0, .int .i64 0, .slice none 0 0] ((a1, c1, 3, flat3i (read3 zs (2) c1)) :: [])) ((HR2.out.store (cs' := #[.int .i64 (atP zs 0), .slice a1 c1 d1, .int .i64 (atP zs (q1 zs)), .int .i64 0, .slice none 0 0, .slice none 0 0, .slice none 0 0, .int .i64 0, .int .i64 0, .int .i64 0, .int .i64 0, .int .i64 0, .int .i64 0, .int .i64 0, .int .i64 0, .int .i64 0, .int .i64 0, .int .i64 0, .slice none 0 0, .int .i64 0, .int .i64 0, .int .i64 0, .slice none 0 0]) 2 _ rfl).store 3 _ rfl) (fun V' hV' => ?_)
      clear HR2
      have HR := Lib.hid hV'
      clear hV'
      clear V
      obtain ⟨V, hV⟩ : ∃ V, V = V' := ⟨_, rfl⟩
      subst hV
      have HI := Lib.hid (ints_of HR.out.gi HIN.out (by omega))
      go_wp2_with fail
      refine (ref7_many_is A zs.length zc zs _ (q1 zs + 2) V HI.out (by omega) (fun z hz => (HPK.out z hz).1) (by omega)).mono ?_
      rintro e' w' ⟨rfl, rfl⟩
      clear HI
      go_wp2_with fail
      obtain ⟨i0, hi, hz0, hz1, hz2⟩ := info_parts info_Element
      obtain ⟨c2, hc2⟩ : ∃ c, cntP zs (q1 zs + 2) = c := ⟨_, rfl⟩
      have hcl2 : c2 ≤ 100 := by rw [← hc2]; exact cntP_le _ _
      have HC2 := Lib.hid hc2
      rw [hc2]
      clear hc2
      have hSV := block_lt HR.out.box
      go_wp2_with fail
      go_loopw [6, 8] (fun pv i wr => ∃ (k : Nat) (v : Value), k ≤ c2 ∧ pv = .int .i64 ((q1 zs + 3 + k * 4 : Nat) : Int) ∧ i = .int .i64 ((c2 - k : Nat) : Int) ∧ wr.heap[S]? = some (.cells #[.int .i64 (atP zs 0), .slice a1 c1 d1, .int .i64 (atP zs (q1 zs)), .int .i64 (atP zs (q1 zs + 1)), v, .slice none 0 0, .slice none 0 0, .int .i64 0, .int .i64 0, .int .i64 0, .int .i64 0, .int .i64 0, .int .i64 0, .int .i64 0, .int .i64 0, .int .i64 0, .int .i64 0, .int .i64 0, .slice none 0 0, .int .i64 0, .int .i64 0, .int .i64 0, .slice none 0 0] 30) ∧ wr.ownsRow V.heap.size 74 4 v k ((flat4 (read4 zs (q1 zs + 3) k)).map (Value.int .i64)) ∧ Off S V wr) (fun _ i _ => (intOf i).toNat)
      case atStart => exact ⟨0, _, by omega, congrArg (Value.int .i64) (by omega), by rw [Nat.sub_zero], HR.out.box, ⟨by simp [read4, flat4], .inl ⟨rfl, rfl⟩⟩, Off.refl _ _⟩
      case round =>
        obtain ⟨k, v, hk, rfl, rfl, hSr, hown, hoff⟩ := hrel
        have hsz := hoff.size
        have hIr := ints_of (HR.out.gi.off hoff) HIN.out (by omega)
        have HIR := Lib.hid hIr
        have HOWN := Lib.hid hown
        have HSR := Lib.hid hSr
        have hSw : S < wr.heap.size := by omega
        clear hIr hown hSr
        by_cases hlt : k < c2
        · have HID := Lib.hid (HIR.out.below (w' := wr.drew) ((Below.refl _ _).drew))
          have gS : wr.drew.cell? ⟨S, 4, none⟩ = some v := by have := HSR.out; show wr.cell? _ = _; simp [World.cell?, this]
          have fS : wr.drew.frozen? ⟨S, 4, none⟩ = false := by have := HSR.out; show wr.frozen? _ = _; simp [World.frozen?, this]
          have hSd : S < wr.drew.heap.size := hSw
          obtain ⟨p0, hp0⟩ : ∃ p, q1 zs + 3 + k * 4 = p := ⟨_, rfl⟩
          have hpb : p0 ≤ 5000 := by omega
          rw [hp0]
          obtain ⟨p1, hp1⟩ : ∃ p, p0 + 1 = p := ⟨_, rfl⟩
          have u1 : IntKind.i64.wrap (p1 : Int) = (p1 : Int) := IntWalk.i64_in _ (by omega)
          have f1 : (p0 : Int) + 1 = (p1 : Int) := by omega
          have e1 : IntKind.i64.wrap ((p0 : Int) + 1) = (p1 : Int) := by rw [f1]; exact u1
          obtain ⟨p2, hp2⟩ : ∃ p, p0 + 2 = p := ⟨_, rfl⟩
          have u2 : IntKind.i64.wrap (p2 : Int) = (p2 : Int) := IntWalk.i64_in _ (by omega)
          have f2 : (p0 : Int) + 2 = (p2 : Int) := by omega
          have e2 : IntKind.i64.wrap ((p0 : Int) + 2) = (p2 : Int) := by rw [f2]; exact u2
          obtain ⟨p3, hp3⟩ : ∃ p, p0 + 3 = p := ⟨_, rfl⟩
          have u3 : IntKind.i64.wrap (p3 : Int) = (p3 : Int) := IntWalk.i64_in _ (by omega)
          have f3 : (p0 : Int) + 3 = (p3 : Int) := by omega
          have e3 : IntKind.i64.wrap ((p0 : Int) + 3) = (p3 : Int) := by rw [f3]; exact u3
          have HP0 := Lib.hid hp0
          clear hp0
          have w0 : IntKind.i64.wrap (p0 : Int) = (p0 : Int) := IntWalk.i64_in _ (by omega)
          obtain ⟨m, hm⟩ : ∃ m, c2 - k = m := ⟨_, rfl⟩
          have hm0 : 0 < m := by omega
          have hm1 : (0 : Int) < (m : Int) := by omega
          have hm2 : decide ((0 : Int) < (m : Int)) = true := by rw [decide_eq_true_iff]; exact hm1
          rw [hm]
          go_wp2_with fail
          refine wp_region_last (S := (fun w' => w'.cell? ⟨S, 4, none⟩ = some v ∧ w'.frozen? ⟨S, 4, none⟩ = false)) 13 (by kernel_rfl) ?_ (fun hHeld => ?_)
          · exact ⟨gS, fS⟩
          refine wpAnyT_take (i := 0) (oi := ⟨some 59, _, _, _, _, none⟩) (v := ?_) (by kernel_rfl) (by rfl) rfl (by kernel_rfl) (by kernel_rfl) (by kernel_rfl) (fun _ _ _ h => h) (Or.inl ⟨by rfl, ?_⟩) (by assumption) ?_
          rotate_left
          · intro wz hSw; (try dsimp only at hSw); go_simp; (try with_reducible rfl)
          try simp only [Act.put, List.setIfInBounds_toArray, List.set_cons_zero, List.set_cons_succ]
          refine wpAnyT_take (i := 1) (oi := ⟨some 60, _, _, _, _, none⟩) (v := ?_) (by kernel_rfl) (by rfl) rfl (by kernel_rfl) (by kernel_rfl) (by kernel_rfl) (fun _ _ _ h => h) (Or.inl ⟨by rfl, ?_⟩) (by assumption) ?_
          rotate_left
          · intro wz hSw; (try dsimp only at hSw); go_simp; (try with_reducible rfl)
          try simp only [Act.put, List.setIfInBounds_toArray, List.set_cons_zero, List.set_cons_succ]
          refine wpAnyT_take (i := 2) (oi := ⟨some 61, _, _, _, _, none⟩) (v := ?_) (by kernel_rfl) (by rfl) rfl (by kernel_rfl) (by kernel_rfl) (by kernel_rfl) (fun _ _ _ h => h) (Or.inl ⟨by rfl, ?_⟩) (by assumption) ?_
          rotate_left
          · intro wz hSw; (try dsimp only at hSw); go_simp; (try with_reducible rfl)
          try simp only [Act.put, List.setIfInBounds_toArray, List.set_cons_zero, List.set_cons_succ]
          refine wpAnyT_take (i := 3) (oi := ⟨some 62, _, _, _, _, none⟩) (v := ?_) (by kernel_rfl) (by rfl) rfl (by kernel_rfl) (by kernel_rfl) (by kernel_rfl) (fun _ _ _ h => h) (Or.inl ⟨by rfl, ?_⟩) (by assumption) ?_
          rotate_left
          · intro wz hSw; (try dsimp only at hSw); go_simp; (try with_reducible rfl)
          try simp only [Act.put, List.setIfInBounds_toArray, List.set_cons_zero, List.set_cons_succ]
          refine wpAnyT_take (i := 5) (oi := ⟨some 64, _, _, _, _, none⟩) (v := ?_) (by kernel_rfl) (by rfl) rfl (by kernel_rfl) (by kernel_rfl) (by kernel_rfl) (fun _ _ _ h => h) (Or.inl ⟨by rfl, ?_⟩) (by assumption) ?_
          rotate_left
          · intro wz hSw; (try dsimp only at hSw); go_simp; (try with_reducible rfl)
          try simp only [Act.put, List.setIfInBounds_toArray, List.set_cons_zero, List.set_cons_succ]
          refine wpAnyT_take (i := 6) (oi := ⟨some 65, _, _, _, _, none⟩) (v := ?_) (by kernel_rfl) (by rfl) rfl (by kernel_rfl) (by kernel_rfl) (by kernel_rfl) (fun _ _ _ h => h) (Or.inl ⟨by rfl, ?_⟩) (by assumption) ?_
          rotate_left
          · intro wz hSw; (try dsimp only at hSw); go_simp; (try with_reducible rfl)
          try simp only [Act.put, List.setIfInBounds_toArray, List.set_cons_zero, List.set_cons_succ]
          refine wpAnyT_take (i := 7) (oi := ⟨some 66, _, _, _, _, none⟩) (v := ?_) (by kernel_rfl) (by rfl) rfl (by kernel_rfl) (by kernel_rfl) (by kernel_rfl) (fun _ _ _ h => h) (Or.inl ⟨by rfl, ?_⟩) (by assumption) ?_
          rotate_left
          · intro wz hSw; (try dsimp only at hSw); go_simp; (try with_reducible rfl)
          try simp only [Act.put, List.setIfInBounds_toArray, List.set_cons_zero, List.set_cons_succ]
          refine wpAnyT_one (i := 4) (o := ⟨some 63, _, _, _, _, none⟩) (by kernel_rfl) rfl (fun K hK => ?_)
          go_simp
          refine (ref7_part_is A zs.length zc zs p0 p1 _ HID.out (by omega) (by omega)).mono ?_
          rintro e' w' ⟨rfl, rfl⟩
          replace HID := Lib.hid (HID.out.below (w' := _) ((Below.refl _ _).alloc (Nat.le_refl _) (.cells #[.int .i64 (atP zs p0), .int .i64 (atP zs p1)] 24)))
          replace gS := keepA (.cells #[.int .i64 (atP zs p0), .int .i64 (atP zs p1)] 24) gS
          replace fS := keepAF (.cells #[.int .i64 (atP zs p0), .int .i64 (atP zs p1)] 24) fS hSd
          replace hSd := ltA (.cells #[.int .i64 (atP zs p0), .int .i64 (atP zs p1)] 24) hSd
          refine hK.out _ _ ?_ (fun hHeld => ?_)
          · exact ⟨gS, fS⟩
          clear hK K
          try simp only [Act.put, List.setIfInBounds_toArray, List.set_cons_zero, List.set_cons_succ]
          refine wpAnyT_one (i := 8) (o := ⟨some 67, _, _, _, _, none⟩) (by kernel_rfl) rfl (fun K hK => ?_)
          go_simp
          refine (ref7_part_is A zs.length zc zs p2 p3 _ HID.out (by omega) (by omega)).mono ?_
          rintro e' w' ⟨rfl, rfl⟩
          replace HID := Lib.hid (HID.out.below (w' := _) ((Below.refl _ _).alloc (Nat.le_refl _) (.cells #[.int .i64 (atP zs p2), .int .i64 (atP zs p3)] 24)))
          replace gS := keepA (.cells #[.int .i64 (atP zs p2), .int .i64 (atP zs p3)] 24) gS
          replace fS := keepAF (.cells #[.int .i64 (atP zs p2), .int .i64 (atP zs p3)] 24) fS hSd
          replace hSd := ltA (.cells #[.int .i64 (atP zs p2), .int .i64 (atP zs p3)] 24) hSd
          refine hK.out _ _ ?_ (fun hHeld => ?_)
          · exact ⟨gS, fS⟩
          clear hK K
          try simp only [Act.put, List.setIfInBounds_toArray, List.set_cons_zero, List.set_cons_succ]
          refine wpAnyT_take (i := 9) (oi := ⟨some 68, _, _, _, _, none⟩) (v := ?_) (by kernel_rfl) (by rfl) rfl (by kernel_rfl) (by kernel_rfl) (by kernel_rfl) (fun _ _ _ h => h) (Or.inl ⟨by rfl, ?_⟩) (by assumption) ?_
          rotate_left
          · intro wz hSw; (try dsimp only at hSw); go_simp; (try with_reducible rfl)
          try simp only [Act.put, List.setIfInBounds_toArray, List.set_cons_zero, List.set_cons_succ]
          refine wpAnyT_one (i := 10) (o := ⟨some 69, _, _, _, _, none⟩) (by kernel_rfl) rfl (fun K hK => ?_)
          go_simp
          replace gS := keepA (.cells #[.int .i64 (atP zs p0), .int .i64 (atP zs p1), .int .i64 (atP zs p2), .int .i64 (atP zs p3)] 74) gS
          replace fS := keepAF (.cells #[.int .i64 (atP zs p0), .int .i64 (atP zs p1), .int .i64 (atP zs p2), .int .i64 (atP zs p3)] 74) fS hSd
          refine hK.out _ _ ?_ (fun hHeld => ?_)
          · exact ⟨gS, fS⟩
          clear hK K
          try simp only [Act.put, List.setIfInBounds_toArray, List.set_cons_zero, List.set_cons_succ]
          refine wpAnyT_one (i := 11) (o := ⟨some 70, _, _, _, _, none⟩) (by kernel_rfl) rfl (fun K hK => ?_)
          refine step_append_cells (by rfl) (.tmp 60) (.tmp 69) 25 (by rfl) V.heap.size 74 i0 (.agg #[.int .i64 0, .int .i64 0, .int .i64 0, .int .i64 0]) 4 32 Try.underlying25 hi hz0 hz1 hz2 rfl (by decide) v k _ (by rfl) (own_below' HOWN.out (by go_grown)) (some ⟨_, 0, none⟩) 1 1 [.int .i64 (atP zs p0), .int .i64 (atP zs p1), .int .i64 (atP zs p2), .int .i64 (atP zs p3)] (by rfl) (by rfl) (cells_at _ _ _ _ (by first | rfl | simp)) (fun h => by cases h) (by intro u hu; simp only [List.mem_cons, List.not_mem_nil, or_false] at hu; rcases hu with rfl | rfl | rfl | rfl <;> rfl) (by unfold maxLen; omega) (by omega) (by simp; omega) ?_
          intro v' w2 own' grow'
          obtain ⟨av, dv, rfl⟩ := own_slice own'
          have Bg : Below V.heap.size wr w2 := below_own (by first | go_grown | (go_grown; omega)) (own_below' HOWN.out (by go_grown)) grow' (Nat.le_refl _) (by simp; omega)
          have hS2 := box_keep Bg HSR.out hSV
          replace gS : w2.cell? ⟨S, 4, none⟩ = some v := by show w2.cell? _ = _; simp [World.cell?, hS2]
          replace fS : w2.frozen? ⟨S, 4, none⟩ = false := by show w2.frozen? _ = _; simp [World.frozen?, hS2]
          refine hK.out _ _ ?_ (fun hHeld => ?_)
          · exact ⟨gS, fS⟩
          clear hK K
          try simp only [Act.put, List.setIfInBounds_toArray, List.set_cons_zero, List.set_cons_succ]
          refine wpAnyT_take (i := 12) (oi := ⟨some 71, _, _, _, _, none⟩) (v := ?_) (by kernel_rfl) (by rfl) rfl (by kernel_rfl) (by kernel_rfl) (by kernel_rfl) (fun _ _ _ h => h) (Or.inl ⟨by rfl, ?_⟩) (by assumption) ?_
          rotate_left
          · intro wz hSw; (try dsimp only at hSw); go_simp; (try with_reducible rfl)
          try simp only [Act.put, List.setIfInBounds_toArray, List.set_cons_zero, List.set_cons_succ]
          refine wpAnyT_end (o := ⟨none, _, _, _, _, none⟩) (by kernel_rfl) (by kernel_rfl) rfl (fun K hK => ?_)
          go_simp
          refine hK.out _ _ ?_
          clear hK K
          try simp only [Act.put, List.setIfInBounds_toArray, List.set_cons_zero, List.set_cons_succ]
          have Bo := Below.off' Bg hoff (Nat.le_refl _)
          have HOWN' := Lib.hid own'
          have HP1 := Lib.hid (And.intro hp1 (And.intro hp2 hp3))
          clear own' grow' gS fS hHeld e1 u1 f1 hp1 e2 u2 f2 hp2 e3 u3 f3 hp3
          go_wp2_with fail
          go_roundw
          case rel =>
            refine ⟨k + 1, .slice av (k + 1) dv, by omega, ?_, ?_, heap_setCell hS2 _, ?_, ?_⟩
            · show Value.int .i64 _ = Value.int .i64 _
              congr 1
              have := HP0.out
              omega
            · show Value.int .i64 _ = Value.int .i64 _
              congr 1
              omega
            · have h1 := own_off HOWN'.out ((Off.refl S w2).setCell (p := ⟨S, 4, none⟩) rfl (.slice av (k + 1) dv)) hSV
              have h2 := HP0.out
              have h3 := HP1.out
              have h4 : (flat4 (read4 zs (q1 zs + 3) (k + 1))) = (flat4 (read4 zs (q1 zs + 3) k)) ++ [atP zs p0, atP zs p1, atP zs p2, atP zs p3] := by rw [read4_snoc, h2]; first | done | simp only [Nat.add_assoc, Nat.reduceAdd, h3]
              rw [h4, List.map_append]
              exact h1
            · exact Bo.setCell rfl _
          case measure => simp [intOf]; omega
        · obtain rfl : c2 = k := by omega
          obtain ⟨a2, d2, rfl, hg2⟩ := grp_own2 (X := [S, w.heap.size]) HOWN.out (fun x hx => by have := HR.out.new; simp at hx; omega)
          have hR2 := (HR.out.off hoff HSR.out).snoc (x := (a2, c2, 4, flat4 (read4 zs (q1 zs + 3) c2))) hg2
          clear HR
          have HR := Lib.hid hR2
          rw [Nat.sub_self]
          have hqe : q1 zs + 3 + c2 * 4 = q2 zs := by unfold q2; rw [HC2.out]; first | done | omega
          rw [hqe]
          clear hqe
          clear hR2 hg2 hoff HOWN HSR hsz hSV hSw HIR hlt hk hi hz0 hz1 hz2 i0
          obtain ⟨V, hV⟩ : ∃ V', V' = wr := ⟨_, rfl⟩
          subst hV
          have HI := Lib.hid (ints_of HR.out.gi HIN.out (by omega))
          go_wp2_with fail
          refine (ref7_many_is A zs.length zc zs _ (q2 zs) V HI.out (by omega) (fun z hz => (HPK.out z hz).1) (by omega)).mono ?_
          rintro e' w' ⟨rfl, rfl⟩
          clear HI
          go_wp2_with fail
          obtain ⟨i0, hi, hz0, hz1, hz2⟩ := info_parts info_Ratio
          obtain ⟨c3, hc3⟩ : ∃ c, cntP zs (q2 zs) = c := ⟨_, rfl⟩
          have hcl3 : c3 ≤ 100 := by rw [← hc3]; exact cntP_le _ _
          have HC3 := Lib.hid hc3
          rw [hc3]
          clear hc3
          have hSV := block_lt HR.out.box
          go_wp2_with fail
          go_loopw [6, 9] (fun pv i wr => ∃ (k : Nat) (v : Value), k ≤ c3 ∧ pv = .int .i64 ((q2 zs + 1 + k * 2 : Nat) : Int) ∧ i = .int .i64 ((c3 - k : Nat) : Int) ∧ wr.heap[S]? = some (.cells #[.int .i64 (atP zs 0), .slice a1 c1 d1, .int .i64 (atP zs (q1 zs)), .int .i64 (atP zs (q1 zs + 1)), .slice a2 c2 d2, v, .slice none 0 0, .int .i64 0, .int .i64 0, .int .i64 0, .int .i64 0, .int .i64 0, .int .i64 0, .int .i64 0, .int .i64 0, .int .i64 0, .int .i64 0, .int .i64 0, .slice none 0 0, .int .i64 0, .int .i64 0, .int .i64 0, .slice none 0 0] 30) ∧ wr.ownsRow V.heap.size 24 2 v k ((flat2 (read2 zs (q2 zs + 1) k)).map (Value.int .i64)) ∧ Off S V wr) (fun _ i _ => (intOf i).toNat)
          case atStart => exact ⟨0, _, by omega, congrArg (Value.int .i64) (by omega), by rw [Nat.sub_zero], HR.out.box, ⟨by simp [read2, flat2], .inl ⟨rfl, rfl⟩⟩, Off.refl _ _⟩
          case round =>
            obtain ⟨k, v, hk, rfl, rfl, hSr, hown, hoff⟩ := hrel
            have hsz := hoff.size
            have hIr := ints_of (HR.out.gi.off hoff) HIN.out (by omega)
            have HIR := Lib.hid hIr
            have HOWN := Lib.hid hown
            have HSR := Lib.hid hSr
            have hSw : S < wr.heap.size := by omega
            clear hIr hown hSr
            by_cases hlt : k < c3
            · have HID := Lib.hid (HIR.out.below (w' := wr.drew) ((Below.refl _ _).drew))
              have gS : wr.drew.cell? ⟨S, 5, none⟩ = some v := by have := HSR.out; show wr.cell? _ = _; simp [World.cell?, this]
              have fS : wr.drew.frozen? ⟨S, 5, none⟩ = false := by have := HSR.out; show wr.frozen? _ = _; simp [World.frozen?, this]
              have hSd : S < wr.drew.heap.size := hSw
              obtain ⟨p0, hp0⟩ : ∃ p, q2 zs + 1 + k * 2 = p := ⟨_, rfl⟩
              have hpb : p0 ≤ 5000 := by omega
              rw [hp0]
              obtain ⟨p1, hp1⟩ : ∃ p, p0 + 1 = p := ⟨_, rfl⟩
              have u1 : IntKind.i64.wrap (p1 : Int) = (p1 : Int) := IntWalk.i64_in _ (by omega)
              have f1 : (p0 : Int) + 1 = (p1 : Int) := by omega
              have e1 : IntKind.i64.wrap ((p0 : Int) + 1) = (p1 : Int) := by rw [f1]; exact u1
              have HP0 := Lib.hid hp0
              clear hp0
              have w0 : IntKind.i64.wrap (p0 : Int) = (p0 : Int) := IntWalk.i64_in _ (by omega)
              obtain ⟨m, hm⟩ : ∃ m, c3 - k = m := ⟨_, rfl⟩
              have hm0 : 0 < m := by omega
              have hm1 : (0 : Int) < (m : Int) := by omega
              have hm2 : decide ((0 : Int) < (m : Int)) = true := by rw [decide_eq_true_iff]; exact hm1
              rw [hm]
              go_wp2_with fail
              refine wp_region_last (S := (fun w' => w'.cell? ⟨S, 5, none⟩ = some v ∧ w'.frozen? ⟨S, 5, none⟩ = false)) 8 (by kernel_rfl) ?_ (fun hHeld => ?_)
              · exact ⟨gS, fS⟩
              refine wpAnyT_take (i := 0) (oi := ⟨some 84, _, _, _, _, none⟩) (v := ?_) (by kernel_rfl) (by rfl) rfl (by kernel_rfl) (by kernel_rfl) (by kernel_rfl) (fun _ _ _ h => h) (Or.inl ⟨by rfl, ?_⟩) (by assumption) ?_
              rotate_left
              · intro wz hSw; (try dsimp only at hSw); go_simp; (try with_reducible rfl)
              try simp only [Act.put, List.setIfInBounds_toArray, List.set_cons_zero, List.set_cons_succ]
              refine wpAnyT_take (i := 1) (oi := ⟨some 85, _, _, _, _, none⟩) (v := ?_) (by kernel_rfl) (by rfl) rfl (by kernel_rfl) (by kernel_rfl) (by kernel_rfl) (fun _ _ _ h => h) (Or.inl ⟨by rfl, ?_⟩) (by assumption) ?_
              rotate_left
              · intro wz hSw; (try dsimp only at hSw); go_simp; (try with_reducible rfl)
              try simp only [Act.put, List.setIfInBounds_toArray, List.set_cons_zero, List.set_cons_succ]
              refine wpAnyT_take (i := 2) (oi := ⟨some 86, _, _, _, _, none⟩) (v := ?_) (by kernel_rfl) (by rfl) rfl (by kernel_rfl) (by kernel_rfl) (by kernel_rfl) (fun _ _ _ h => h) (Or.inl ⟨by rfl, ?_⟩) (by assumption) ?_
              rotate_left
              · intro wz hSw; (try dsimp only at hSw); go_simp; (try with_reducible rfl)
              try simp only [Act.put, List.setIfInBounds_toArray, List.set_cons_zero, List.set_cons_succ]
              refine wpAnyT_take (i := 3) (oi := ⟨some 87, _, _, _, _, none⟩) (v := ?_) (by kernel_rfl) (by rfl) rfl (by kernel_rfl) (by kernel_rfl) (by kernel_rfl) (fun _ _ _ h => h) (Or.inl ⟨by rfl, ?_⟩) (by assumption) ?_
              rotate_left
              · intro wz hSw; (try dsimp only at hSw); go_simp; (try with_reducible rfl)
              try simp only [Act.put, List.setIfInBounds_toArray, List.set_cons_zero, List.set_cons_succ]
              refine wpAnyT_one (i := 4) (o := ⟨some 88, _, _, _, _, none⟩) (by kernel_rfl) rfl (fun K hK => ?_)
              go_simp
              refine (ref7_part_is A zs.length zc zs p0 p1 _ HID.out (by omega) (by omega)).mono ?_
              rintro e' w' ⟨rfl, rfl⟩
              replace HID := Lib.hid (HID.out.below (w' := _) ((Below.refl _ _).alloc (Nat.le_refl _) (.cells #[.int .i64 (atP zs p0), .int .i64 (atP zs p1)] 24)))
              replace gS := keepA (.cells #[.int .i64 (atP zs p0), .int .i64 (atP zs p1)] 24) gS
              replace fS := keepAF (.cells #[.int .i64 (atP zs p0), .int .i64 (atP zs p1)] 24) fS hSd
              replace hSd := ltA (.cells #[.int .i64 (atP zs p0), .int .i64 (atP zs p1)] 24) hSd
              refine hK.out _ _ ?_ (fun hHeld => ?_)
              · exact ⟨gS, fS⟩
              clear hK K
              try simp only [Act.put, List.setIfInBounds_toArray, List.set_cons_zero, List.set_cons_succ]
              refine wpAnyT_one (i := 5) (o := ⟨some 89, _, _, _, _, none⟩) (by kernel_rfl) rfl (fun K hK => ?_)
              go_simp
              replace gS := keepA (.cells #[.int .i64 (atP zs p0), .int .i64 (atP zs p1)] 24) gS
              replace fS := keepAF (.cells #[.int .i64 (atP zs p0), .int .i64 (atP zs p1)] 24) fS hSd
              refine hK.out _ _ ?_ (fun hHeld => ?_)
              · exact ⟨gS, fS⟩
              clear hK K
              try simp only [Act.put, List.setIfInBounds_toArray, List.set_cons_zero, List.set_cons_succ]
              refine wpAnyT_one (i := 6) (o := ⟨some 90, _, _, _, _, none⟩) (by kernel_rfl) rfl (fun K hK => ?_)
              refine step_append_cells (by rfl) (.tmp 85) (.tmp 89) 26 (by rfl) V.heap.size 24 i0 (.agg #[.int .i64 0, .int .i64 0]) 2 16 Try.underlying26 hi hz0 hz1 hz2 rfl (by decide) v k _ (by rfl) (own_below' HOWN.out (by go_grown)) (some ⟨_, 0, none⟩) 1 1 [.int .i64 (atP zs p0), .int .i64 (atP zs p1)] (by rfl) (by rfl) (cells_at _ _ _ _ (by first | rfl | simp)) (fun h => by cases h) (by intro u hu; simp only [List.mem_cons, List.not_mem_nil, or_false] at hu; rcases hu with rfl | rfl <;> rfl) (by unfold maxLen; omega) (by omega) (by simp; omega) ?_
              intro v' w2 own' grow'
              obtain ⟨av, dv, rfl⟩ := own_slice own'
              have Bg : Below V.heap.size wr w2 := below_own (by first | go_grown | (go_grown; omega)) (own_below' HOWN.out (by go_grown)) grow' (Nat.le_refl _) (by simp; omega)
              have hS2 := box_keep Bg HSR.out hSV
              replace gS : w2.cell? ⟨S, 5, none⟩ = some v := by show w2.cell? _ = _; simp [World.cell?, hS2]
              replace fS : w2.frozen? ⟨S, 5, none⟩ = false := by show w2.frozen? _ = _; simp [World.frozen?, hS2]
              refine hK.out _ _ ?_ (fun hHeld => ?_)
              · exact ⟨gS, fS⟩
              clear hK K
              try simp only [Act.put, List.setIfInBounds_toArray, List.set_cons_zero, List.set_cons_succ]
              refine wpAnyT_take (i := 7) (oi := ⟨some 91, _, _, _, _, none⟩) (v := ?_) (by kernel_rfl) (by rfl) rfl (by kernel_rfl) (by kernel_rfl) (by kernel_rfl) (fun _ _ _ h => h) (Or.inl ⟨by rfl, ?_⟩) (by assumption) ?_
              rotate_left
              · intro wz hSw; (try dsimp only at hSw); go_simp; (try with_reducible rfl)
              try simp only [Act.put, List.setIfInBounds_toArray, List.set_cons_zero, List.set_cons_succ]
              refine wpAnyT_end (o := ⟨none, _, _, _, _, none⟩) (by kernel_rfl) (by kernel_rfl) rfl (fun K hK => ?_)
              go_simp
              refine hK.out _ _ ?_
              clear hK K
              try simp only [Act.put, List.setIfInBounds_toArray, List.set_cons_zero, List.set_cons_succ]
              have Bo := Below.off' Bg hoff (Nat.le_refl _)
              have HOWN' := Lib.hid own'
              have HP1 := Lib.hid (hp1)
              clear own' grow' gS fS hHeld e1 u1 f1 hp1
              go_wp2_with fail
              go_roundw
              case rel =>
                refine ⟨k + 1, .slice av (k + 1) dv, by omega, ?_, ?_, heap_setCell hS2 _, ?_, ?_⟩
                · show Value.int .i64 _ = Value.int .i64 _
                  congr 1
                  have := HP0.out
                  omega
                · show Value.int .i64 _ = Value.int .i64 _
                  congr 1
                  omega
                · have h1 := own_off HOWN'.out ((Off.refl S w2).setCell (p := ⟨S, 5, none⟩) rfl (.slice av (k + 1) dv)) hSV
                  have h2 := HP0.out
                  have h3 := HP1.out
                  have h4 : (flat2 (read2 zs (q2 zs + 1) (k + 1))) = (flat2 (read2 zs (q2 zs + 1) k)) ++ [atP zs p0, atP zs p1] := by rw [read2_snoc, h2]; first | done | simp only [Nat.add_assoc, Nat.reduceAdd, h3]
                  rw [h4, List.map_append]
                  exact h1
                · exact Bo.setCell rfl _
              case measure => simp [intOf]; omega
            · obtain rfl : c3 = k := by omega
              obtain ⟨a3, d3, rfl, hg3⟩ := grp_own2 (X := [S, w.heap.size]) HOWN.out (fun x hx => by have := HR.out.new; simp at hx; omega)
              have hR2 := (HR.out.off hoff HSR.out).snoc (x := (a3, c3, 2, flat2 (read2 zs (q2 zs + 1) c3))) hg3
              clear HR
              have HR := Lib.hid hR2
              rw [Nat.sub_self]
              have hqe : q2 zs + 1 + c3 * 2 = q3 zs := by unfold q3; rw [HC3.out]; first | done | omega
              rw [hqe]
              clear hqe
              clear hR2 hg3 hoff HOWN HSR hsz hSV hSw HIR hlt hk hi hz0 hz1 hz2 i0
              obtain ⟨V, hV⟩ : ∃ V', V' = wr := ⟨_, rfl⟩
              subst hV
              have HI := Lib.hid (ints_of HR.out.gi HIN.out (by omega))
              go_wp2_with fail
              refine (ref7_many_is A zs.length zc zs _ (q3 zs) V HI.out (by omega) (fun z hz => (HPK.out z hz).1) (by omega)).mono ?_
              rintro e' w' ⟨rfl, rfl⟩
              clear HI
              go_wp2_with fail
              obtain ⟨i0, hi, hz0, hz1, hz2⟩ := info_parts info_Ratio
              obtain ⟨c4, hc4⟩ : ∃ c, cntP zs (q3 zs) = c := ⟨_, rfl⟩
              have hcl4 : c4 ≤ 100 := by rw [← hc4]; exact cntP_le _ _
              have HC4 := Lib.hid hc4
              rw [hc4]
              clear hc4
              have hSV := block_lt HR.out.box
              go_wp2_with fail
              go_loopw [6, 10] (fun pv i wr => ∃ (k : Nat) (v : Value), k ≤ c4 ∧ pv = .int .i64 ((q3 zs + 1 + k * 2 : Nat) : Int) ∧ i = .int .i64 ((c4 - k : Nat) : Int) ∧ wr.heap[S]? = some (.cells #[.int .i64 (atP zs 0), .slice a1 c1 d1, .int .i64 (atP zs (q1 zs)), .int .i64 (atP zs (q1 zs + 1)), .slice a2 c2 d2, .slice a3 c3 d3, v, .int .i64 0, .int .i64 0, .int .i64 0, .int .i64 0, .int .i64 0, .int .i64 0, .int .i64 0, .int .i64 0, .int .i64 0, .int .i64 0, .int .i64 0, .slice none 0 0, .int .i64 0, .int .i64 0, .int .i64 0, .slice none 0 0] 30) ∧ wr.ownsRow V.heap.size 24 2 v k ((flat2 (read2 zs (q3 zs + 1) k)).map (Value.int .i64)) ∧ Off S V wr) (fun _ i _ => (intOf i).toNat)
              case atStart => exact ⟨0, _, by omega, congrArg (Value.int .i64) (by omega), by rw [Nat.sub_zero], HR.out.box, ⟨by simp [read2, flat2], .inl ⟨rfl, rfl⟩⟩, Off.refl _ _⟩
              case round =>
                obtain ⟨k, v, hk, rfl, rfl, hSr, hown, hoff⟩ := hrel
                have hsz := hoff.size
                have hIr := ints_of (HR.out.gi.off hoff) HIN.out (by omega)
                have HIR := Lib.hid hIr
                have HOWN := Lib.hid hown
                have HSR := Lib.hid hSr
                have hSw : S < wr.heap.size := by omega
                clear hIr hown hSr
                by_cases hlt : k < c4
                · have HID := Lib.hid (HIR.out.below (w' := wr.drew) ((Below.refl _ _).drew))
                  have gS : wr.drew.cell? ⟨S, 6, none⟩ = some v := by have := HSR.out; show wr.cell? _ = _; simp [World.cell?, this]
                  have fS : wr.drew.frozen? ⟨S, 6, none⟩ = false := by have := HSR.out; show wr.frozen? _ = _; simp [World.frozen?, this]
                  have hSd : S < wr.drew.heap.size := hSw
                  obtain ⟨p0, hp0⟩ : ∃ p, q3 zs + 1 + k * 2 = p := ⟨_, rfl⟩
                  have hpb : p0 ≤ 5000 := by omega
                  rw [hp0]
                  obtain ⟨p1, hp1⟩ : ∃ p, p0 + 1 = p := ⟨_, rfl⟩
                  have u1 : IntKind.i64.wrap (p1 : Int) = (p1 : Int) := IntWalk.i64_in _ (by omega)
                  have f1 : (p0 : Int) + 1 = (p1 : Int) := by omega
                  have e1 : IntKind.i64.wrap ((p0 : Int) + 1) = (p1 : Int) := by rw [f1]; exact u1
                  have HP0 := Lib.hid hp0
                  clear hp0
                  have w0 : IntKind.i64.wrap (p0 : Int) = (p0 : Int) := IntWalk.i64_in _ (by omega)
                  obtain ⟨m, hm⟩ : ∃ m, c4 - k = m := ⟨_, rfl⟩
                  have hm0 : 0 < m := by omega
                  have hm1 : (0 : Int) < (m : Int) := by omega
                  have hm2 : decide ((0 : Int) < (m : Int)) = true := by rw [decide_eq_true_iff]; exact hm1
                  rw [hm]
                  go_wp2_with fail
                  refine wp_region_last (S := (fun w' => w'.cell? ⟨S, 6, none⟩ = some v ∧ w'.frozen? ⟨S, 6, none⟩ = false)) 8 (by kernel_rfl) ?_ (fun hHeld => ?_)
                  · exact ⟨gS, fS⟩
                  refine wpAnyT_take (i := 0) (oi := ⟨some 104, _, _, _, _, none⟩) (v := ?_) (by kernel_rfl) (by rfl) rfl (by kernel_rfl) (by kernel_rfl) (by kernel_rfl) (fun _ _ _ h => h) (Or.inl ⟨by rfl, ?_⟩) (by assumption) ?_
                  rotate_left
                  · intro wz hSw; (try dsimp only at hSw); go_simp; (try with_reducible rfl)
                  try simp only [Act.put, List.setIfInBounds_toArray, List.set_cons_zero, List.set_cons_succ]
                  refine wpAnyT_take (i := 1) (oi := ⟨some 105, _, _, _, _, none⟩) (v := ?_) (by kernel_rfl) (by rfl) rfl (by kernel_rfl) (by kernel_rfl) (by kernel_rfl) (fun _ _ _ h => h) (Or.inl ⟨by rfl, ?_⟩) (by assumption) ?_
                  rotate_left
                  · intro wz hSw; (try dsimp only at hSw); go_simp; (try with_reducible rfl)
                  try simp only [Act.put, List.setIfInBounds_toArray, List.set_cons_zero, List.set_cons_succ]
                  refine wpAnyT_take (i := 2) (oi := ⟨some 106, _, _, _, _, none⟩) (v := ?_) (by kernel_rfl) (by rfl) rfl (by kernel_rfl) (by kernel_rfl) (by kernel_rfl) (fun _ _ _ h => h) (Or.inl ⟨by rfl, ?_⟩) (by assumption) ?_
                  rotate_left
                  · intro wz hSw; (try dsimp only at hSw); go_simp; (try with_reducible rfl)
                  try simp only [Act.put, List.setIfInBounds_toArray, List.set_cons_zero, List.set_cons_succ]
                  refine wpAnyT_take (i := 3) (oi := ⟨some 107, _, _, _, _, none⟩) (v := ?_) (by kernel_rfl) (by rfl) rfl (by kernel_rfl) (by kernel_rfl) (by kernel_rfl) (fun _ _ _ h => h) (Or.inl ⟨by rfl, ?_⟩) (by assumption) ?_
                  rotate_left
                  · intro wz hSw; (try dsimp only at hSw); go_simp; (try with_reducible rfl)
                  try simp only [Act.put, List.setIfInBounds_toArray, List.set_cons_zero, List.set_cons_succ]
                  refine wpAnyT_one (i := 4) (o := ⟨some 108, _, _, _, _, none⟩) (by kernel_rfl) rfl (fun K hK => ?_)
                  go_simp
                  refine (ref7_part_is A zs.length zc zs p0 p1 _ HID.out (by omega) (by omega)).mono ?_
                  rintro e' w' ⟨rfl, rfl⟩
                  replace HID := Lib.hid (HID.out.below (w' := _) ((Below.refl _ _).alloc (Nat.le_refl _) (.cells #[.int .i64 (atP zs p0), .int .i64 (atP zs p1)] 24)))
                  replace gS := keepA (.cells #[.int .i64 (atP zs p0), .int .i64 (atP zs p1)] 24) gS
                  replace fS := keepAF (.cells #[.int .i64 (atP zs p0), .int .i64 (atP zs p1)] 24) fS hSd
                  replace hSd := ltA (.cells #[.int .i64 (atP zs p0), .int .i64 (atP zs p1)] 24) hSd
                  refine hK.out _ _ ?_ (fun hHeld => ?_)
                  · exact ⟨gS, fS⟩
                  clear hK K
                  try simp only [Act.put, List.setIfInBounds_toArray, List.set_cons_zero, List.set_cons_succ]
                  refine wpAnyT_one (i := 5) (o := ⟨some 109, _, _, _, _, none⟩) (by kernel_rfl) rfl (fun K hK => ?_)
                  go_simp
                  replace gS := keepA (.cells #[.int .i64 (atP zs p0), .int .i64 (atP zs p1)] 24) gS
                  replace fS := keepAF (.cells #[.int .i64 (atP zs p0), .int .i64 (atP zs p1)] 24) fS hSd
                  refine hK.out _ _ ?_ (fun hHeld => ?_)
                  · exact ⟨gS, fS⟩
                  clear hK K
                  try simp only [Act.put, List.setIfInBounds_toArray, List.set_cons_zero, List.set_cons_succ]
                  refine wpAnyT_one (i := 6) (o := ⟨some 110, _, _, _, _, none⟩) (by kernel_rfl) rfl (fun K hK => ?_)
                  refine step_append_cells (by rfl) (.tmp 105) (.tmp 109) 26 (by rfl) V.heap.size 24 i0 (.agg #[.int .i64 0, .int .i64 0]) 2 16 Try.underlying26 hi hz0 hz1 hz2 rfl (by decide) v k _ (by rfl) (own_below' HOWN.out (by go_grown)) (some ⟨_, 0, none⟩) 1 1 [.int .i64 (atP zs p0), .int .i64 (atP zs p1)] (by rfl) (by rfl) (cells_at _ _ _ _ (by first | rfl | simp)) (fun h => by cases h) (by intro u hu; simp only [List.mem_cons, List.not_mem_nil, or_false] at hu; rcases hu with rfl | rfl <;> rfl) (by unfold maxLen; omega) (by omega) (by simp; omega) ?_
                  intro v' w2 own' grow'
                  obtain ⟨av, dv, rfl⟩ := own_slice own'
                  have Bg : Below V.heap.size wr w2 := below_own (by first | go_grown | (go_grown; omega)) (own_below' HOWN.out (by go_grown)) grow' (Nat.le_refl _) (by simp; omega)
                  have hS2 := box_keep Bg HSR.out hSV
                  replace gS : w2.cell? ⟨S, 6, none⟩ = some v := by show w2.cell? _ = _; simp [World.cell?, hS2]
                  replace fS : w2.frozen? ⟨S, 6, none⟩ = false := by show w2.frozen? _ = _; simp [World.frozen?, hS2]
                  refine hK.out _ _ ?_ (fun hHeld => ?_)
                  · exact ⟨gS, fS⟩
                  clear hK K
                  try simp only [Act.put, List.setIfInBounds_toArray, List.set_cons_zero, List.set_cons_succ]
                  refine wpAnyT_take (i := 7) (oi := ⟨some 111, _, _, _, _, none⟩) (v := ?_) (by kernel_rfl) (by rfl) rfl (by kernel_rfl) (by kernel_rfl) (by kernel_rfl) (fun _ _ _ h => h) (Or.inl ⟨by rfl, ?_⟩) (by assumption) ?_
                  rotate_left
                  · intro wz hSw; (try dsimp only at hSw); go_simp; (try with_reducible rfl)
                  try simp only [Act.put, List.setIfInBounds_toArray, List.set_cons_zero, List.set_cons_succ]
                  refine wpAnyT_end (o := ⟨none, _, _, _, _, none⟩) (by kernel_rfl) (by kernel_rfl) rfl (fun K hK => ?_)
                  go_simp
                  refine hK.out _ _ ?_
                  clear hK K
                  try simp only [Act.put, List.setIfInBounds_toArray, List.set_cons_zero, List.set_cons_succ]
                  have Bo := Below.off' Bg hoff (Nat.le_refl _)
                  have HOWN' := Lib.hid own'
                  have HP1 := Lib.hid (hp1)
                  clear own' grow' gS fS hHeld e1 u1 f1 hp1
                  go_wp2_with fail
                  go_roundw
                  case rel =>
                    refine ⟨k + 1, .slice av (k + 1) dv, by omega, ?_, ?_, heap_setCell hS2 _, ?_, ?_⟩
                    · show Value.int .i64 _ = Value.int .i64 _
                      congr 1
                      have := HP0.out
                      omega
                    · show Value.int .i64 _ = Value.int .i64 _
                      congr 1
                      omega
                    · have h1 := own_off HOWN'.out ((Off.refl S w2).setCell (p := ⟨S, 6, none⟩) rfl (.slice av (k + 1) dv)) hSV
                      have h2 := HP0.out
                      have h3 := HP1.out
                      have h4 : (flat2 (read2 zs (q3 zs + 1) (k + 1))) = (flat2 (read2 zs (q3 zs + 1) k)) ++ [atP zs p0, atP zs p1] := by rw [read2_snoc, h2]; first | done | simp only [Nat.add_assoc, Nat.reduceAdd, h3]
                      rw [h4, List.map_append]
                      exact h1
                    · exact Bo.setCell rfl _
                  case measure => simp [intOf]; omega
                · obtain rfl : c4 = k := by omega
                  obtain ⟨a4, d4, rfl, hg4⟩ := grp_own2 (X := [S, w.heap.size]) HOWN.out (fun x hx => by have := HR.out.new; simp at hx; omega)
                  have hR2 := (HR.out.off hoff HSR.out).snoc (x := (a4, c4, 2, flat2 (read2 zs (q3 zs + 1) c4))) hg4
                  clear HR
                  have HR := Lib.hid hR2
                  rw [Nat.sub_self]
                  have hqe : q3 zs + 1 + c4 * 2 = q4 zs := by unfold q4; rw [HC4.out]; first | done | omega
                  rw [hqe]
                  clear hqe
                  clear hR2 hg4 hoff HOWN HSR hsz hSV hSw HIR hlt hk hi hz0 hz1 hz2 i0
                  obtain ⟨V, hV⟩ : ∃ V', V' = wr := ⟨_, rfl⟩
                  subst hV
                  have HI := Lib.hid (ints_of HR.out.gi HIN.out (by omega))
                  go_wp2_with fail
                  refine (ref7_at_is A zs.length zc zs _ (q4 zs) V HI.out (by omega) (by omega)).mono ?_
                  rintro e' w' ⟨rfl, rfl⟩
                  clear HI
                  have hbx := HR.out.box
                  have g7 : V.cell? ⟨S, 7, none⟩ = some (.int .i64 0) := by simp [World.cell?, hbx]
                  have f7 : V.frozen? ⟨S, 7, none⟩ = false := by simp [World.frozen?, hbx]
                  go_upto_region 29 with fail
                  clear g7 f7 hbx
                  refine gen_code (S := fun V' => RdSt w V' S A zs a0 len bs #[.int .i64 (atP zs 0), .slice a1 c1 d1, .int .i64 (atP zs (q1 zs)), .int .i64 (atP zs (q1 zs + 1)), .slice a2 c2 d2, .slice a3 c3 d3, .slice a4 c4 d4, .int .i64 (atP zs (q4 zs)), .int .i64 0, .int .i64 0, .int .i64 0, .int .i64 0, .int .i64 0, .int .i64 0, .int .i64 0, .int .i64 0, .int .i64 0, .int .i64 0, .slice none 0 0, .int .i64 0, .int .i64 0, .int .i64 0, .slice none 0 0] ((a4, c4, 2, flat2 (read2 zs (q3 zs + 1) c4)) :: ((a3, c3, 2, flat2 (read2 zs (q2 zs + 1) c3)) :: ((a2, c2, 4, flat4 (read4 zs (q1 zs + 3) c2)) :: ((a1, c1, 3, flat3i (read3 zs (2) c1)) :: []))))) (HR.out.store 7 _ rfl) (fun V' hV' => ?_)
                  clear HR
                  have HR := Lib.hid hV'
                  clear hV'
                  clear V
                  obtain ⟨V, hV⟩ : ∃ V, V = V' := ⟨_, rfl⟩
                  subst hV
                  have HI := Lib.hid (ints_of HR.out.gi HIN.out (by omega))
                  go_wp2_with fail
                  refine (ref7_at_is A zs.length zc zs _ (q4 zs + 1) V HI.out (by omega) (by omega)).mono ?_
                  rintro e' w' ⟨rfl, rfl⟩
                  clear HI
                  have hbx := HR.out.box
                  have g8 : V.cell? ⟨S, 8, none⟩ = some (.int .i64 0) := by simp [World.cell?, hbx]
                  have f8 : V.frozen? ⟨S, 8, none⟩ = false := by simp [World.frozen?, hbx]
                  go_upto_region 30 with fail
                  clear g8 f8 hbx
                  refine gen_code (S := fun V' => RdSt w V' S A zs a0 len bs #[.int .i64 (atP zs 0), .slice a1 c1 d1, .int .i64 (atP zs (q1 zs)), .int .i64 (atP zs (q1 zs + 1)), .slice a2 c2 d2, .slice a3 c3 d3, .slice a4 c4 d4, .int .i64 (atP zs (q4 zs)), .int .i64 (atP zs (q4 zs + 1)), .int .i64 0, .int .i64 0, .int .i64 0, .int .i64 0, .int .i64 0, .int .i64 0, .int .i64 0, .int .i64 0, .int .i64 0, .slice none 0 0, .int .i64 0, .int .i64 0, .int .i64 0, .slice none 0 0] ((a4, c4, 2, flat2 (read2 zs (q3 zs + 1) c4)) :: ((a3, c3, 2, flat2 (read2 zs (q2 zs + 1) c3)) :: ((a2, c2, 4, flat4 (read4 zs (q1 zs + 3) c2)) :: ((a1, c1, 3, flat3i (read3 zs (2) c1)) :: []))))) (HR.out.store 8 _ rfl) (fun V' hV' => ?_)
                  clear HR
                  have HR := Lib.hid hV'
                  clear hV'
                  clear V
                  obtain ⟨V, hV⟩ : ∃ V, V = V' := ⟨_, rfl⟩
                  subst hV
                  have HI := Lib.hid (ints_of HR.out.gi HIN.out (by omega))
                  go_wp2_with fail
                  refine (ref7_at_is A zs.length zc zs _ (q4 zs + 2) V HI.out (by omega) (by omega)).mono ?_
                  rintro e' w' ⟨rfl, rfl⟩
                  clear HI
                  have hbx := HR.out.box
                  have g9 : V.cell? ⟨S, 9, none⟩ = some (.int .i64 0) := by simp [World.cell?, hbx]
                  have f9 : V.frozen? ⟨S, 9, none⟩ = false := by simp [World.frozen?, hbx]
                  go_upto_region 31 with fail
                  clear g9 f9 hbx
                  refine gen_code (S := fun V' => RdSt w V' S A zs a0 len bs #[.int .i64 (atP zs 0), .slice a1 c1 d1, .int .i64 (atP zs (q1 zs)), .int .i64 (atP zs (q1 zs + 1)), .slice a2 c2 d2, .slice a3 c3 d3, .slice a4 c4 d4, .int .i64 (atP zs (q4 zs)), .int .i64 (atP zs (q4 zs + 1)), .int .i64 (atP zs (q4 zs + 2)), .int .i64 0, .int .i64 0, .int .i64 0, .int .i64 0, .int .i64 0, .int .i64 0, .int .i64 0, .int .i64 0, .slice none 0 0, .int .i64 0, .int .i64 0, .int .i64 0, .slice none 0 0] ((a4, c4, 2, flat2 (read2 zs (q3 zs + 1) c4)) :: ((a3, c3, 2, flat2 (read2 zs (q2 zs + 1) c3)) :: ((a2, c2, 4, flat4 (read4 zs (q1 zs + 3) c2)) :: ((a1, c1, 3, flat3i (read3 zs (2) c1)) :: []))))) (HR.out.store 9 _ rfl) (fun V' hV' => ?_)
                  clear HR
                  have HR := Lib.hid hV'
                  clear hV'
                  clear V
                  obtain ⟨V, hV⟩ : ∃ V, V = V' := ⟨_, rfl⟩
                  subst hV
                  have HI := Lib.hid (ints_of HR.out.gi HIN.out (by omega))
                  go_wp2_with fail
                  refine (ref7_at_is A zs.length zc zs _ (q4 zs + 3) V HI.out (by omega) (by omega)).mono ?_
                  rintro e' w' ⟨rfl, rfl⟩
                  clear HI
                  have hbx := HR.out.box
                  have g10 : V.cell? ⟨S, 10, none⟩ = some (.int .i64 0) := by simp [World.cell?, hbx]
                  have f10 : V.frozen? ⟨S, 10, none⟩ = false := by simp [World.frozen?, hbx]
                  go_upto_region 32 with fail
                  clear g10 f10 hbx
                  refine gen_code (S := fun V' => RdSt w V' S A zs a0 len bs #[.int .i64 (atP zs 0), .slice a1 c1 d1, .int .i64 (atP zs (q1 zs)), .int .i64 (atP zs (q1 zs + 1)), .slice a2 c2 d2, .slice a3 c3 d3, .slice a4 c4 d4, .int .i64 (atP zs (q4 zs)), .int .i64 (atP zs (q4 zs + 1)), .int .i64 (atP zs (q4 zs + 2)), .int .i64 (atP zs (q4 zs + 3)), .int .i64 0, .int .i64 0, .int .i64 0, .int .i64 0, .int .i64 0, .int .i64 0, .int .i64 0, .slice none 0 0, .int .i64 0, .int .i64 0, .int .i64 0, .slice none 0 0] ((a4, c4, 2, flat2 (read2 zs (q3 zs + 1) c4)) :: ((a3, c3, 2, flat2 (read2 zs (q2 zs + 1) c3)) :: ((a2, c2, 4, flat4 (read4 zs (q1 zs + 3) c2)) :: ((a1, c1, 3, flat3i (read3 zs (2) c1)) :: []))))) (HR.out.store 10 _ rfl) (fun V' hV' => ?_)
                  clear HR
                  have HR := Lib.hid hV'
                  clear hV'
                  clear V
                  obtain ⟨V, hV⟩ : ∃ V, V = V' := ⟨_, rfl⟩
                  subst hV
                  have HI := Lib.hid (ints_of HR.out.gi HIN.out (by omega))
                  go_wp2_with fail
                  refine (ref7_at_is A zs.length zc zs _ (q4 zs + 4) V HI.out (by omega) (by omega)).mono ?_
                  rintro e' w' ⟨rfl, rfl⟩
                  clear HI
                  have hbx := HR.out.box
                  have g11 : V.cell? ⟨S, 11, none⟩ = some (.int .i64 0) := by simp [World.cell?, hbx]
                  have f11 : V.frozen? ⟨S, 11, none⟩ = false := by simp [World.frozen?, hbx]
                  go_upto_region 33 with fail
                  clear g11 f11 hbx
                  refine gen_code (S := fun V' => RdSt w V' S A zs a0 len bs #[.int .i64 (atP zs 0), .slice a1 c1 d1, .int .i64 (atP zs (q1 zs)), .int .i64 (atP zs (q1 zs + 1)), .slice a2 c2 d2, .slice a3 c3 d3, .slice a4 c4 d4, .int .i64 (atP zs (q4 zs)), .int .i64 (atP zs (q4 zs + 1)), .int .i64 (atP zs (q4 zs + 2)), .int .i64 (atP zs (q4 zs + 3)), .int .i64 (atP zs (q4 zs + 4)), .int .i64 0, .int .i64 0, .int .i64 0, .int .i64 0, .int .i64 0, .int .i64 0, .slice none 0 0, .int .i64 0, .int .i64 0, .int .i64 0, .slice none 0 0] ((a4, c4, 2, flat2 (read2 zs (q3 zs + 1) c4)) :: ((a3, c3, 2, flat2 (read2 zs (q2 zs + 1) c3)) :: ((a2, c2, 4, flat4 (read4 zs (q1 zs + 3) c2)) :: ((a1, c1, 3, flat3i (read3 zs (2) c1)) :: []))))) (HR.out.store 11 _ rfl) (fun V' hV' => ?_)
                  clear HR
                  have HR := Lib.hid hV'
                  clear hV'
                  clear V
                  obtain ⟨V, hV⟩ : ∃ V, V = V' := ⟨_, rfl⟩
                  subst hV
                  have HI := Lib.hid (ints_of HR.out.gi HIN.out (by omega))
                  go_wp2_with fail
                  refine (ref7_at_is A zs.length zc zs _ (q4 zs + 5) V HI.out (by omega) (by omega)).mono ?_
                  rintro e' w' ⟨rfl, rfl⟩
                  clear HI
                  have hbx := HR.out.box
                  have g12 : V.cell? ⟨S, 12, none⟩ = some (.int .i64 0) := by simp [World.cell?, hbx]
                  have f12 : V.frozen? ⟨S, 12, none⟩ = false := by simp [World.frozen?, hbx]
                  go_upto_region 34 with fail
                  clear g12 f12 hbx
                  refine gen_code (S := fun V' => RdSt w V' S A zs a0 len bs #[.int .i64 (atP zs 0), .slice a1 c1 d1, .int .i64 (atP zs (q1 zs)), .int .i64 (atP zs (q1 zs + 1)), .slice a2 c2 d2, .slice a3 c3 d3, .slice a4 c4 d4, .int .i64 (atP zs (q4 zs)), .int .i64 (atP zs (q4 zs + 1)), .int .i64 (atP zs (q4 zs + 2)), .int .i64 (atP zs (q4 zs + 3)), .int .i64 (atP zs (q4 zs + 4)), .int .i64 (atP zs (q4 zs + 5)), .int .i64 0, .int .i64 0, .int .i64 0, .int .i64 0, .int .i64 0, .slice none 0 0, .int .i64 0, .int .i64 0, .int .i64 0, .slice none 0 0] ((a4, c4, 2, flat2 (read2 zs (q3 zs + 1) c4)) :: ((a3, c3, 2, flat2 (read2 zs (q2 zs + 1) c3)) :: ((a2, c2, 4, flat4 (read4 zs (q1 zs + 3) c2)) :: ((a1, c1, 3, flat3i (read3 zs (2) c1)) :: []))))) (HR.out.store 12 _ rfl) (fun V' hV' => ?_)
                  clear HR
                  have HR := Lib.hid hV'
                  clear hV'
                  clear V
                  obtain ⟨V, hV⟩ : ∃ V, V = V' := ⟨_, rfl⟩
                  subst hV
                  have HI := Lib.hid (ints_of HR.out.gi HIN.out (by omega))
                  go_wp2_with fail
                  refine (ref7_at_is A zs.length zc zs _ (q4 zs + 6) V HI.out (by omega) (by omega)).mono ?_
                  rintro e' w' ⟨rfl, rfl⟩
                  clear HI
                  have hbx := HR.out.box
                  have g13 : V.cell? ⟨S, 13, none⟩ = some (.int .i64 0) := by simp [World.cell?, hbx]
                  have f13 : V.frozen? ⟨S, 13, none⟩ = false := by simp [World.frozen?, hbx]
                  go_upto_region 35 with fail
                  clear g13 f13 hbx
                  refine gen_code (S := fun V' => RdSt w V' S A zs a0 len bs #[.int .i64 (atP zs 0), .slice a1 c1 d1, .int .i64 (atP zs (q1 zs)), .int .i64 (atP zs (q1 zs + 1)), .slice a2 c2 d2, .slice a3 c3 d3, .slice a4 c4 d4, .int .i64 (atP zs (q4 zs)), .int .i64 (atP zs (q4 zs + 1)), .int .i64 (atP zs (q4 zs + 2)), .int .i64 (atP zs (q4 zs + 3)), .int .i64 (atP zs (q4 zs + 4)), .int .i64 (atP zs (q4 zs + 5)), .int .i64 (atP zs (q4 zs + 6)), .int .i64 0, .int .i64 0, .int .i64 0, .int .i64 0, .slice none 0 0, .int .i64 0, .int .i64 0, .int .i64 0, .slice none 0 0] ((a4, c4, 2, flat2 (read2 zs (q3 zs + 1) c4)) :: ((a3, c3, 2, flat2 (read2 zs (q2 zs + 1) c3)) :: ((a2, c2, 4, flat4 (read4 zs (q1 zs + 3) c2)) :: ((a1, c1, 3, flat3i (read3 zs (2) c1)) :: []))))) (HR.out.store 13 _ rfl) (fun V' hV' => ?_)
                  clear HR
                  have HR := Lib.hid hV'
                  clear hV'
                  clear V
                  obtain ⟨V, hV⟩ : ∃ V, V = V' := ⟨_, rfl⟩
                  subst hV
                  have HI := Lib.hid (ints_of HR.out.gi HIN.out (by omega))
                  go_wp2_with fail
                  refine (ref7_at_is A zs.length zc zs _ (q4 zs + 7) V HI.out (by omega) (by omega)).mono ?_
                  rintro e' w' ⟨rfl, rfl⟩
                  clear HI
                  have hbx := HR.out.box
                  have g14 : V.cell? ⟨S, 14, none⟩ = some (.int .i64 0) := by simp [World.cell?, hbx]
                  have f14 : V.frozen? ⟨S, 14, none⟩ = false := by simp [World.frozen?, hbx]
                  go_upto_region 36 with fail
                  clear g14 f14 hbx
                  refine gen_code (S := fun V' => RdSt w V' S A zs a0 len bs #[.int .i64 (atP zs 0), .slice a1 c1 d1, .int .i64 (atP zs (q1 zs)), .int .i64 (atP zs (q1 zs + 1)), .slice a2 c2 d2, .slice a3 c3 d3, .slice a4 c4 d4, .int .i64 (atP zs (q4 zs)), .int .i64 (atP zs (q4 zs + 1)), .int .i64 (atP zs (q4 zs + 2)), .int .i64 (atP zs (q4 zs + 3)), .int .i64 (atP zs (q4 zs + 4)), .int .i64 (atP zs (q4 zs + 5)), .int .i64 (atP zs (q4 zs + 6)), .int .i64 (atP zs (q4 zs + 7)), .int .i64 0, .int .i64 0, .int .i64 0, .slice none 0 0, .int .i64 0, .int .i64 0, .int .i64 0, .slice none 0 0] ((a4, c4, 2, flat2 (read2 zs (q3 zs + 1) c4)) :: ((a3, c3, 2, flat2 (read2 zs (q2 zs + 1) c3)) :: ((a2, c2, 4, flat4 (read4 zs (q1 zs + 3) c2)) :: ((a1, c1, 3, flat3i (read3 zs (2) c1)) :: []))))) (HR.out.store 14 _ rfl) (fun V' hV' => ?_)
                  clear HR
                  have HR := Lib.hid hV'
                  clear hV'
                  clear V
                  obtain ⟨V, hV⟩ : ∃ V, V = V' := ⟨_, rfl⟩
                  subst hV
                  have HI := Lib.hid (ints_of HR.out.gi HIN.out (by omega))
                  go_wp2_with fail
                  refine (ref7_at_is A zs.length zc zs _ (q4 zs + 8) V HI.out (by omega) (by omega)).mono ?_
                  rintro e' w' ⟨rfl, rfl⟩
                  clear HI
                  have hbx := HR.out.box
                  have g15 : V.cell? ⟨S, 15, none⟩ = some (.int .i64 0) := by simp [World.cell?, hbx]
                  have f15 : V.frozen? ⟨S, 15, none⟩ = false := by simp [World.frozen?, hbx]
                  go_upto_region 37 with fail
                  clear g15 f15 hbx
                  refine gen_code (S := fun V' => RdSt w V' S A zs a0 len bs #[.int .i64 (atP zs 0), .slice a1 c1 d1, .int .i64 (atP zs (q1 zs)), .int .i64 (atP zs (q1 zs + 1)), .slice a2 c2 d2, .slice a3 c3 d3, .slice a4 c4 d4, .int .i64 (atP zs (q4 zs)), .int .i64 (atP zs (q4 zs + 1)), .int .i64 (atP zs (q4 zs + 2)), .int .i64 (atP zs (q4 zs + 3)), .int .i64 (atP zs (q4 zs + 4)), .int .i64 (atP zs (q4 zs + 5)), .int .i64 (atP zs (q4 zs + 6)), .int .i64 (atP zs (q4 zs + 7)), .int .i64 (atP zs (q4 zs + 8)), .int .i64 0, .int .i64 0, .slice none 0 0, .int .i64 0, .int .i64 0, .int .i64 0, .slice none 0 0] ((a4, c4, 2, flat2 (read2 zs (q3 zs + 1) c4)) :: ((a3, c3, 2, flat2 (read2 zs (q2 zs + 1) c3)) :: ((a2, c2, 4, flat4 (read4 zs (q1 zs + 3) c2)) :: ((a1, c1, 3, flat3i (read3 zs (2) c1)) :: []))))) (HR.out.store 15 _ rfl) (fun V' hV' => ?_)
                  clear HR
                  have HR := Lib.hid hV'
                  clear hV'
                  clear V
                  obtain ⟨V, hV⟩ : ∃ V, V = V' := ⟨_, rfl⟩
                  subst hV
                  have HI := Lib.hid (ints_of HR.out.gi HIN.out (by omega))
                  go_wp2_with fail
                  refine (ref7_at_is A zs.length zc zs _ (q4 zs + 9) V HI.out (by omega) (by omega)).mono ?_
                  rintro e' w' ⟨rfl, rfl⟩
                  clear HI
                  have hbx := HR.out.box
                  have g16 : V.cell? ⟨S, 16, none⟩ = some (.int .i64 0) := by simp [World.cell?, hbx]
                  have f16 : V.frozen? ⟨S, 16, none⟩ = false := by simp [World.frozen?, hbx]
                  go_upto_region 38 with fail
                  clear g16 f16 hbx
                  refine gen_code (S := fun V' => RdSt w V' S A zs a0 len bs #[.int .i64 (atP zs 0), .slice a1 c1 d1, .int .i64 (atP zs (q1 zs)), .int .i64 (atP zs (q1 zs + 1)), .slice a2 c2 d2, .slice a3 c3 d3, .slice a4 c4 d4, .int .i64 (atP zs (q4 zs)), .int .i64 (atP zs (q4 zs + 1)), .int .i64 (atP zs (q4 zs + 2)), .int .i64 (atP zs (q4 zs + 3)), .int .i64 (atP zs (q4 zs + 4)), .int .i64 (atP zs (q4 zs + 5)), .int .i64 (atP zs (q4 zs + 6)), .int .i64 (atP zs (q4 zs + 7)), .int .i64 (atP zs (q4 zs + 8)), .int .i64 (atP zs (q4 zs + 9)), .int .i64 0, .slice none 0 0, .int .i64 0, .int .i64 0, .int .i64 0, .slice none 0 0] ((a4, c4, 2, flat2 (read2 zs (q3 zs + 1) c4)) :: ((a3, c3, 2, flat2 (read2 zs (q2 zs + 1) c3)) :: ((a2, c2, 4, flat4 (read4 zs (q1 zs + 3) c2)) :: ((a1, c1, 3, flat3i (read3 zs (2) c1)) :: []))))) (HR.out.store 16 _ rfl) (fun V' hV' => ?_)
                  clear HR
                  have HR := Lib.hid hV'
                  clear hV'
                  clear V
                  obtain ⟨V, hV⟩ : ∃ V, V = V' := ⟨_, rfl⟩
                  subst hV
                  have HI := Lib.hid (ints_of HR.out.gi HIN.out (by omega))
                  go_wp2_with fail
                  refine (ref7_at_is A zs.length zc zs _ (q4 zs + 10) V HI.out (by omega) (by omega)).mono ?_
                  rintro e' w' ⟨rfl, rfl⟩
                  clear HI
                  have hbx := HR.out.box
                  have g17 : V.cell? ⟨S, 17, none⟩ = some (.int .i64 0) := by simp [World.cell?, hbx]
                  have f17 : V.frozen? ⟨S, 17, none⟩ = false := by simp [World.frozen?, hbx]
                  go_upto_region 39 with fail
                  clear g17 f17 hbx
                  refine gen_code (S := fun V' => RdSt w V' S A zs a0 len bs #[.int .i64 (atP zs 0), .slice a1 c1 d1, .int .i64 (atP zs (q1 zs)), .int .i64 (atP zs (q1 zs + 1)), .slice a2 c2 d2, .slice a3 c3 d3, .slice a4 c4 d4, .int .i64 (atP zs (q4 zs)), .int .i64 (atP zs (q4 zs + 1)), .int .i64 (atP zs (q4 zs + 2)), .int .i64 (atP zs (q4 zs + 3)), .int .i64 (atP zs (q4 zs + 4)), .int .i64 (atP zs (q4 zs + 5)), .int .i64 (atP zs (q4 zs + 6)), .int .i64 (atP zs (q4 zs + 7)), .int .i64 (atP zs (q4 zs + 8)), .int .i64 (atP zs (q4 zs + 9)), .int .i64 (atP zs (q4 zs + 10)), .slice none 0 0, .int .i64 0, .int .i64 0, .int .i64 0, .slice none 0 0] ((a4, c4, 2, flat2 (read2 zs (q3 zs + 1) c4)) :: ((a3, c3, 2, flat2 (read2 zs (q2 zs + 1) c3)) :: ((a2, c2, 4, flat4 (read4 zs (q1 zs + 3) c2)) :: ((a1, c1, 3, flat3i (read3 zs (2) c1)) :: []))))) (HR.out.store 17 _ rfl) (fun V' hV' => ?_)
                  clear HR
                  have HR := Lib.hid hV'
                  clear hV'
                  clear V
                  obtain ⟨V, hV⟩ : ∃ V, V = V' := ⟨_, rfl⟩
                  subst hV
                  have HI := Lib.hid (ints_of HR.out.gi HIN.out (by omega))
                  go_wp2_with fail
                  refine (ref7_many_is A zs.length zc zs _ (q4 zs + 11) V HI.out (by omega) (fun z hz => (HPK.out z hz).1) (by omega)).mono ?_
                  rintro e' w' ⟨rfl, rfl⟩
                  clear HI
                  go_wp2_with fail
                  obtain ⟨i0, hi, hz0, hz1, hz2⟩ := info_parts infoInt
                  obtain ⟨c5, hc5⟩ : ∃ c, cntP zs (q4 zs + 11) = c := ⟨_, rfl⟩
                  have hcl5 : c5 ≤ 100 := by rw [← hc5]; exact cntP_le _ _
                  have HC5 := Lib.hid hc5
                  rw [hc5]
                  clear hc5
                  have hSV := block_lt HR.out.box
                  go_wp2_with fail
                  go_loopw [6, 11] (fun pv i wr => ∃ (k : Nat) (v : Value), k ≤ c5 ∧ pv = .int .i64 ((q4 zs + 12 + k * 1 : Nat) : Int) ∧ i = .int .i64 ((c5 - k : Nat) : Int) ∧ wr.heap[S]? = some (.cells #[.int .i64 (atP zs 0), .slice a1 c1 d1, .int .i64 (atP zs (q1 zs)), .int .i64 (atP zs (q1 zs + 1)), .slice a2 c2 d2, .slice a3 c3 d3, .slice a4 c4 d4, .int .i64 (atP zs (q4 zs)), .int .i64 (atP zs (q4 zs + 1)), .int .i64 (atP zs (q4 zs + 2)), .int .i64 (atP zs (q4 zs + 3)), .int .i64 (atP zs (q4 zs + 4)), .int .i64 (atP zs (q4 zs + 5)), .int .i64 (atP zs (q4 zs + 6)), .int .i64 (atP zs (q4 zs + 7)), .int .i64 (atP zs (q4 zs + 8)), .int .i64 (atP zs (q4 zs + 9)), .int .i64 (atP zs (q4 zs + 10)), v, .int .i64 0, .int .i64 0, .int .i64 0, .slice none 0 0] 30) ∧ wr.ownsRow V.heap.size 3 1 v k ((read1 zs (q4 zs + 12) k).map (Value.int .i64)) ∧ Off S V wr) (fun _ i _ => (intOf i).toNat)
                  case atStart => exact ⟨0, _, by omega, congrArg (Value.int .i64) (by omega), by rw [Nat.sub_zero], HR.out.box, ⟨by simp [read1], .inl ⟨rfl, rfl⟩⟩, Off.refl _ _⟩
                  case round =>
                    obtain ⟨k, v, hk, rfl, rfl, hSr, hown, hoff⟩ := hrel
                    have hsz := hoff.size
                    have hIr := ints_of (HR.out.gi.off hoff) HIN.out (by omega)
                    have HIR := Lib.hid hIr
                    have HOWN := Lib.hid hown
                    have HSR := Lib.hid hSr
                    have hSw : S < wr.heap.size := by omega
                    clear hIr hown hSr
                    by_cases hlt : k < c5
                    · have HID := Lib.hid (HIR.out.below (w' := wr.drew) ((Below.refl _ _).drew))
                      have gS : wr.drew.cell? ⟨S, 18, none⟩ = some v := by have := HSR.out; show wr.cell? _ = _; simp [World.cell?, this]
                      have fS : wr.drew.frozen? ⟨S, 18, none⟩ = false := by have := HSR.out; show wr.frozen? _ = _; simp [World.frozen?, this]
                      have hSd : S < wr.drew.heap.size := hSw
                      obtain ⟨p0, hp0⟩ : ∃ p, q4 zs + 12 + k * 1 = p := ⟨_, rfl⟩
                      have hpb : p0 ≤ 5000 := by omega
                      rw [hp0]

                      have HP0 := Lib.hid hp0
                      clear hp0
                      have w0 : IntKind.i64.wrap (p0 : Int) = (p0 : Int) := IntWalk.i64_in _ (by omega)
                      obtain ⟨m, hm⟩ : ∃ m, c5 - k = m := ⟨_, rfl⟩
                      have hm0 : 0 < m := by omega
                      have hm1 : (0 : Int) < (m : Int) := by omega
                      have hm2 : decide ((0 : Int) < (m : Int)) = true := by rw [decide_eq_true_iff]; exact hm1
                      rw [hm]
                      go_wp2_with fail
                      refine wp_region_last (S := (fun w' => w'.cell? ⟨S, 18, none⟩ = some v ∧ w'.frozen? ⟨S, 18, none⟩ = false)) 8 (by kernel_rfl) ?_ (fun hHeld => ?_)
                      · exact ⟨gS, fS⟩
                      refine wpAnyT_take (i := 0) (oi := ⟨some 178, _, _, _, _, none⟩) (v := ?_) (by kernel_rfl) (by rfl) rfl (by kernel_rfl) (by kernel_rfl) (by kernel_rfl) (fun _ _ _ h => h) (Or.inl ⟨by rfl, ?_⟩) (by assumption) ?_
                      rotate_left
                      · intro wz hSw; (try dsimp only at hSw); go_simp; (try with_reducible rfl)
                      try simp only [Act.put, List.setIfInBounds_toArray, List.set_cons_zero, List.set_cons_succ]
                      refine wpAnyT_take (i := 1) (oi := ⟨some 179, _, _, _, _, none⟩) (v := ?_) (by kernel_rfl) (by rfl) rfl (by kernel_rfl) (by kernel_rfl) (by kernel_rfl) (fun _ _ _ h => h) (Or.inl ⟨by rfl, ?_⟩) (by assumption) ?_
                      rotate_left
                      · intro wz hSw; (try dsimp only at hSw); go_simp; (try with_reducible rfl)
                      try simp only [Act.put, List.setIfInBounds_toArray, List.set_cons_zero, List.set_cons_succ]
                      refine wpAnyT_take (i := 2) (oi := ⟨some 180, _, _, _, _, none⟩) (v := ?_) (by kernel_rfl) (by rfl) rfl (by kernel_rfl) (by kernel_rfl) (by kernel_rfl) (fun _ _ _ h => h) (Or.inl ⟨by rfl, ?_⟩) (by assumption) ?_
                      rotate_left
                      · intro wz hSw; (try dsimp only at hSw); go_simp; (try with_reducible rfl)
                      try simp only [Act.put, List.setIfInBounds_toArray, List.set_cons_zero, List.set_cons_succ]
                      refine wpAnyT_take (i := 3) (oi := ⟨some 181, _, _, _, _, none⟩) (v := ?_) (by kernel_rfl) (by rfl) rfl (by kernel_rfl) (by kernel_rfl) (by kernel_rfl) (fun _ _ _ h => h) (Or.inl ⟨by rfl, ?_⟩) (by assumption) ?_
                      rotate_left
                      · intro wz hSw; (try dsimp only at hSw); go_simp; (try with_reducible rfl)
                      try simp only [Act.put, List.setIfInBounds_toArray, List.set_cons_zero, List.set_cons_succ]
                      refine wpAnyT_one (i := 4) (o := ⟨some 182, _, _, _, _, none⟩) (by kernel_rfl) rfl (fun K hK => ?_)
                      go_simp
                      refine (ref7_at A zs.length zc zs p0 _ HID.out (by omega)).mono ?_
                      rintro e' w' ⟨rfl, rfl⟩
                      refine hK.out _ _ ?_ (fun hHeld => ?_)
                      · exact ⟨gS, fS⟩
                      clear hK K
                      try simp only [Act.put, List.setIfInBounds_toArray, List.set_cons_zero, List.set_cons_succ]
                      refine wpAnyT_one (i := 5) (o := ⟨some 183, _, _, _, _, none⟩) (by kernel_rfl) rfl (fun K hK => ?_)
                      go_simp
                      replace gS := keepA (.cells #[.int .i64 (atP zs p0)] 3) gS
                      replace fS := keepAF (.cells #[.int .i64 (atP zs p0)] 3) fS hSd
                      refine hK.out _ _ ?_ (fun hHeld => ?_)
                      · exact ⟨gS, fS⟩
                      clear hK K
                      try simp only [Act.put, List.setIfInBounds_toArray, List.set_cons_zero, List.set_cons_succ]
                      refine wpAnyT_one (i := 6) (o := ⟨some 184, _, _, _, _, none⟩) (by kernel_rfl) rfl (fun K hK => ?_)
                      refine step_append_cells (by rfl) (.tmp 179) (.tmp 183) 27 (by rfl) V.heap.size 3 i0 (.int .i64 0) 1 8 Try.underlying27 hi hz0 hz1 hz2 rfl (by decide) v k _ (by rfl) (own_below' HOWN.out (by go_grown)) (some ⟨_, 0, none⟩) 1 1 [.int .i64 (atP zs p0)] (by rfl) (by rfl) (cells_at _ _ _ _ (by first | rfl | simp)) (fun h => by cases h) (by intro u hu; simp only [List.mem_cons, List.not_mem_nil, or_false] at hu; rcases hu with rfl <;> rfl) (by unfold maxLen; omega) (by omega) (by simp; omega) ?_
                      intro v' w2 own' grow'
                      obtain ⟨av, dv, rfl⟩ := own_slice own'
                      have Bg : Below V.heap.size wr w2 := below_own (by first | go_grown | (go_grown; omega)) (own_below' HOWN.out (by go_grown)) grow' (Nat.le_refl _) (by simp; omega)
                      have hS2 := box_keep Bg HSR.out hSV
                      replace gS : w2.cell? ⟨S, 18, none⟩ = some v := by show w2.cell? _ = _; simp [World.cell?, hS2]
                      replace fS : w2.frozen? ⟨S, 18, none⟩ = false := by show w2.frozen? _ = _; simp [World.frozen?, hS2]
                      refine hK.out _ _ ?_ (fun hHeld => ?_)
                      · exact ⟨gS, fS⟩
                      clear hK K
                      try simp only [Act.put, List.setIfInBounds_toArray, List.set_cons_zero, List.set_cons_succ]
                      refine wpAnyT_take (i := 7) (oi := ⟨some 185, _, _, _, _, none⟩) (v := ?_) (by kernel_rfl) (by rfl) rfl (by kernel_rfl) (by kernel_rfl) (by kernel_rfl) (fun _ _ _ h => h) (Or.inl ⟨by rfl, ?_⟩) (by assumption) ?_
                      rotate_left
                      · intro wz hSw; (try dsimp only at hSw); go_simp; (try with_reducible rfl)
                      try simp only [Act.put, List.setIfInBounds_toArray, List.set_cons_zero, List.set_cons_succ]
                      refine wpAnyT_end (o := ⟨none, _, _, _, _, none⟩) (by kernel_rfl) (by kernel_rfl) rfl (fun K hK => ?_)
                      go_simp
                      refine hK.out _ _ ?_
                      clear hK K
                      try simp only [Act.put, List.setIfInBounds_toArray, List.set_cons_zero, List.set_cons_succ]
                      have Bo := Below.off' Bg hoff (Nat.le_refl _)
                      have HOWN' := Lib.hid own'
                      have HP1 := Lib.hid (And.intro trivial trivial)
                      clear own' grow' gS fS hHeld 
                      go_wp2_with fail
                      go_roundw
                      case rel =>
                        refine ⟨k + 1, .slice av (k + 1) dv, by omega, ?_, ?_, heap_setCell hS2 _, ?_, ?_⟩
                        · show Value.int .i64 _ = Value.int .i64 _
                          congr 1
                          have := HP0.out
                          omega
                        · show Value.int .i64 _ = Value.int .i64 _
                          congr 1
                          omega
                        · have h1 := own_off HOWN'.out ((Off.refl S w2).setCell (p := ⟨S, 18, none⟩) rfl (.slice av (k + 1) dv)) hSV
                          have h2 := HP0.out
                          have h3 := HP1.out
                          have h4 : (read1 zs (q4 zs + 12) (k + 1)) = (read1 zs (q4 zs + 12) k) ++ [atP zs p0] := by rw [read1_snoc, show q4 zs + 12 + k = p0 from by omega]; first | done | simp only [Nat.add_assoc, Nat.reduceAdd, h3]
                          rw [h4, List.map_append]
                          exact h1
                        · exact Bo.setCell rfl _
                      case measure => simp [intOf]; omega
                    · obtain rfl : c5 = k := by omega
                      obtain ⟨a5, d5, rfl, hg5⟩ := grp_own2 (X := [S, w.heap.size]) HOWN.out (fun x hx => by have := HR.out.new; simp at hx; omega)
                      have hR2 := (HR.out.off hoff HSR.out).snoc (x := (a5, c5, 1, read1 zs (q4 zs + 12) c5)) hg5
                      clear HR
                      have HR := Lib.hid hR2
                      rw [Nat.sub_self]
                      have hqe : q4 zs + 12 + c5 * 1 = q5 zs := by unfold q5; rw [HC5.out]; first | done | omega
                      rw [hqe]
                      clear hqe
                      clear hR2 hg5 hoff HOWN HSR hsz hSV hSw HIR hlt hk hi hz0 hz1 hz2 i0
                      obtain ⟨V, hV⟩ : ∃ V', V' = wr := ⟨_, rfl⟩
                      subst hV
                      have HI := Lib.hid (ints_of HR.out.gi HIN.out (by omega))
                      go_wp2_with fail
                      refine (ref7_at_is A zs.length zc zs _ (q5 zs) V HI.out (by omega) (by omega)).mono ?_
                      rintro e' w' ⟨rfl, rfl⟩
                      clear HI
                      have hbx := HR.out.box
                      have g19 : V.cell? ⟨S, 19, none⟩ = some (.int .i64 0) := by simp [World.cell?, hbx]
                      have f19 : V.frozen? ⟨S, 19, none⟩ = false := by simp [World.frozen?, hbx]
                      go_upto_region 46 with fail
                      clear g19 f19 hbx
                      refine gen_code (S := fun V' => RdSt w V' S A zs a0 len bs #[.int .i64 (atP zs 0), .slice a1 c1 d1, .int .i64 (atP zs (q1 zs)), .int .i64 (atP zs (q1 zs + 1)), .slice a2 c2 d2, .slice a3 c3 d3, .slice a4 c4 d4, .int .i64 (atP zs (q4 zs)), .int .i64 (atP zs (q4 zs + 1)), .int .i64 (atP zs (q4 zs + 2)), .int .i64 (atP zs (q4 zs + 3)), .int .i64 (atP zs (q4 zs + 4)), .int .i64 (atP zs (q4 zs + 5)), .int .i64 (atP zs (q4 zs + 6)), .int .i64 (atP zs (q4 zs + 7)), .int .i64 (atP zs (q4 zs + 8)), .int .i64 (atP zs (q4 zs + 9)), .int .i64 (atP zs (q4 zs + 10)), .slice a5 c5 d5, .int .i64 (atP zs (q5 zs)), .int .i64 0, .int .i64 0, .slice none 0 0] ((a5, c5, 1, read1 zs (q4 zs + 12) c5) :: ((a4, c4, 2, flat2 (read2 zs (q3 zs + 1) c4)) :: ((a3, c3, 2, flat2 (read2 zs (q2 zs + 1) c3)) :: ((a2, c2, 4, flat4 (read4 zs (q1 zs + 3) c2)) :: ((a1, c1, 3, flat3i (read3 zs (2) c1)) :: [])))))) (HR.out.store 19 _ rfl) (fun V' hV' => ?_)
                      clear HR
                      have HR := Lib.hid hV'
                      clear hV'
                      clear V
                      obtain ⟨V, hV⟩ : ∃ V, V = V' := ⟨_, rfl⟩
                      subst hV
                      have HI := Lib.hid (ints_of HR.out.gi HIN.out (by omega))
                      go_wp2_with fail
                      refine (ref7_at_is A zs.length zc zs _ (q5 zs + 1) V HI.out (by omega) (by omega)).mono ?_
                      rintro e' w' ⟨rfl, rfl⟩
                      clear HI
                      have hbx := HR.out.box
                      have g20 : V.cell? ⟨S, 20, none⟩ = some (.int .i64 0) := by simp [World.cell?, hbx]
                      have f20 : V.frozen? ⟨S, 20, none⟩ = false := by simp [World.frozen?, hbx]
                      go_upto_region 47 with fail
                      clear g20 f20 hbx
                      refine gen_code (S := fun V' => RdSt w V' S A zs a0 len bs #[.int .i64 (atP zs 0), .slice a1 c1 d1, .int .i64 (atP zs (q1 zs)), .int .i64 (atP zs (q1 zs + 1)), .slice a2 c2 d2, .slice a3 c3 d3, .slice a4 c4 d4, .int .i64 (atP zs (q4 zs)), .int .i64 (atP zs (q4 zs + 1)), .int .i64 (atP zs (q4 zs + 2)), .int .i64 (atP zs (q4 zs + 3)), .int .i64 (atP zs (q4 zs + 4)), .int .i64 (atP zs (q4 zs + 5)), .int .i64 (atP zs (q4 zs + 6)), .int .i64 (atP zs (q4 zs + 7)), .int .i64 (atP zs (q4 zs + 8)), .int .i64 (atP zs (q4 zs + 9)), .int .i64 (atP zs (q4 zs + 10)), .slice a5 c5 d5, .int .i64 (atP zs (q5 zs)), .int .i64 (atP zs (q5 zs + 1)), .int .i64 0, .slice none 0 0] ((a5, c5, 1, read1 zs (q4 zs + 12) c5) :: ((a4, c4, 2, flat2 (read2 zs (q3 zs + 1) c4)) :: ((a3, c3, 2, flat2 (read2 zs (q2 zs + 1) c3)) :: ((a2, c2, 4, flat4 (read4 zs (q1 zs + 3) c2)) :: ((a1, c1, 3, flat3i (read3 zs (2) c1)) :: [])))))) (HR.out.store 20 _ rfl) (fun V' hV' => ?_)
                      clear HR
                      have HR := Lib.hid hV'
                      clear hV'
                      clear V
                      obtain ⟨V, hV⟩ : ∃ V, V = V' := ⟨_, rfl⟩
                      subst hV
                      have HI := Lib.hid (ints_of HR.out.gi HIN.out (by omega))
                      go_wp2_with fail
                      refine (ref7_at_is A zs.length zc zs _ (q5 zs + 2) V HI.out (by omega) (by omega)).mono ?_
                      rintro e' w' ⟨rfl, rfl⟩
                      clear HI
                      have hbx := HR.out.box
                      have g21 : V.cell? ⟨S, 21, none⟩ = some (.int .i64 0) := by simp [World.cell?, hbx]
                      have f21 : V.frozen? ⟨S, 21, none⟩ = false := by simp [World.frozen?, hbx]
                      go_upto_region 48 with fail
                      clear g21 f21 hbx
                      refine gen_code (S := fun V' => RdSt w V' S A zs a0 len bs #[.int .i64 (atP zs 0), .slice a1 c1 d1, .int .i64 (atP zs (q1 zs)), .int .i64 (atP zs (q1 zs + 1)), .slice a2 c2 d2, .slice a3 c3 d3, .slice a4 c4 d4, .int .i64 (atP zs (q4 zs)), .int .i64 (atP zs (q4 zs + 1)), .int .i64 (atP zs (q4 zs + 2)), .int .i64 (atP zs (q4 zs + 3)), .int .i64 (atP zs (q4 zs + 4)), .int .i64 (atP zs (q4 zs + 5)), .int .i64 (atP zs (q4 zs + 6)), .int .i64 (atP zs (q4 zs + 7)), .int .i64 (atP zs (q4 zs + 8)), .int .i64 (atP zs (q4 zs + 9)), .int .i64 (atP zs (q4 zs + 10)), .slice a5 c5 d5, .int .i64 (atP zs (q5 zs)), .int .i64 (atP zs (q5 zs + 1)), .int .i64 (atP zs (q5 zs + 2)), .slice none 0 0] ((a5, c5, 1, read1 zs (q4 zs + 12) c5) :: ((a4, c4, 2, flat2 (read2 zs (q3 zs + 1) c4)) :: ((a3, c3, 2, flat2 (read2 zs (q2 zs + 1) c3)) :: ((a2, c2, 4, flat4 (read4 zs (q1 zs + 3) c2)) :: ((a1, c1, 3, flat3i (read3 zs (2) c1)) :: [])))))) (HR.out.store 21 _ rfl) (fun V' hV' => ?_)
                      clear HR
                      have HR := Lib.hid hV'
                      clear hV'
                      clear V
                      obtain ⟨V, hV⟩ : ∃ V, V = V' := ⟨_, rfl⟩
                      subst hV
                      have HI := Lib.hid (ints_of HR.out.gi HIN.out (by omega))
                      go_wp2_with fail
                      refine (ref7_many_is A zs.length zc zs _ (q5 zs + 3) V HI.out (by omega) (fun z hz => (HPK.out z hz).1) (by omega)).mono ?_
                      rintro e' w' ⟨rfl, rfl⟩
                      clear HI
                      go_wp2_with fail
                      obtain ⟨i0, hi, hz0, hz1, hz2⟩ := info_parts info_Tier
                      obtain ⟨c6, hc6⟩ : ∃ c, cntP zs (q5 zs + 3) = c := ⟨_, rfl⟩
                      have hcl6 : c6 ≤ 100 := by rw [← hc6]; exact cntP_le _ _
                      have HC6 := Lib.hid hc6
                      rw [hc6]
                      clear hc6
                      have hSV := block_lt HR.out.box
                      go_wp2_with fail
                      go_loopw [6, 12] (fun pv i wr => ∃ (k : Nat) (v : Value), k ≤ c6 ∧ pv = .int .i64 ((q5 zs + 4 + k * 2 : Nat) : Int) ∧ i = .int .i64 ((c6 - k : Nat) : Int) ∧ wr.heap[S]? = some (.cells #[.int .i64 (atP zs 0), .slice a1 c1 d1, .int .i64 (atP zs (q1 zs)), .int .i64 (atP zs (q1 zs + 1)), .slice a2 c2 d2, .slice a3 c3 d3, .slice a4 c4 d4, .int .i64 (atP zs (q4 zs)), .int .i64 (atP zs (q4 zs + 1)), .int .i64 (atP zs (q4 zs + 2)), .int .i64 (atP zs (q4 zs + 3)), .int .i64 (atP zs (q4 zs + 4)), .int .i64 (atP zs (q4 zs + 5)), .int .i64 (atP zs (q4 zs + 6)), .int .i64 (atP zs (q4 zs + 7)), .int .i64 (atP zs (q4 zs + 8)), .int .i64 (atP zs (q4 zs + 9)), .int .i64 (atP zs (q4 zs + 10)), .slice a5 c5 d5, .int .i64 (atP zs (q5 zs)), .int .i64 (atP zs (q5 zs + 1)), .int .i64 (atP zs (q5 zs + 2)), v] 30) ∧ wr.ownsRow V.heap.size 76 2 v k ((flat2 (read2 zs (q5 zs + 4) k)).map (Value.int .i64)) ∧ Off S V wr) (fun _ i _ => (intOf i).toNat)
                      case atStart => exact ⟨0, _, by omega, congrArg (Value.int .i64) (by omega), by rw [Nat.sub_zero], HR.out.box, ⟨by simp [read2, flat2], .inl ⟨rfl, rfl⟩⟩, Off.refl _ _⟩
                      case round =>
                        obtain ⟨k, v, hk, rfl, rfl, hSr, hown, hoff⟩ := hrel
                        have hsz := hoff.size
                        have hIr := ints_of (HR.out.gi.off hoff) HIN.out (by omega)
                        have HIR := Lib.hid hIr
                        have HOWN := Lib.hid hown
                        have HSR := Lib.hid hSr
                        have hSw : S < wr.heap.size := by omega
                        clear hIr hown hSr
                        by_cases hlt : k < c6
                        · have HID := Lib.hid (HIR.out.below (w' := wr.drew) ((Below.refl _ _).drew))
                          have gS : wr.drew.cell? ⟨S, 22, none⟩ = some v := by have := HSR.out; show wr.cell? _ = _; simp [World.cell?, this]
                          have fS : wr.drew.frozen? ⟨S, 22, none⟩ = false := by have := HSR.out; show wr.frozen? _ = _; simp [World.frozen?, this]
                          have hSd : S < wr.drew.heap.size := hSw
                          obtain ⟨p0, hp0⟩ : ∃ p, q5 zs + 4 + k * 2 = p := ⟨_, rfl⟩
                          have hpb : p0 ≤ 5000 := by omega
                          rw [hp0]
                          obtain ⟨p1, hp1⟩ : ∃ p, p0 + 1 = p := ⟨_, rfl⟩
                          have u1 : IntKind.i64.wrap (p1 : Int) = (p1 : Int) := IntWalk.i64_in _ (by omega)
                          have f1 : (p0 : Int) + 1 = (p1 : Int) := by omega
                          have e1 : IntKind.i64.wrap ((p0 : Int) + 1) = (p1 : Int) := by rw [f1]; exact u1
                          have HP0 := Lib.hid hp0
                          clear hp0
                          have w0 : IntKind.i64.wrap (p0 : Int) = (p0 : Int) := IntWalk.i64_in _ (by omega)
                          obtain ⟨m, hm⟩ : ∃ m, c6 - k = m := ⟨_, rfl⟩
                          have hm0 : 0 < m := by omega
                          have hm1 : (0 : Int) < (m : Int) := by omega
                          have hm2 : decide ((0 : Int) < (m : Int)) = true := by rw [decide_eq_true_iff]; exact hm1
                          rw [hm]
                          go_wp2_with fail
                          refine wp_region_last (S := (fun w' => w'.cell? ⟨S, 22, none⟩ = some v ∧ w'.frozen? ⟨S, 22, none⟩ = false)) 13 (by kernel_rfl) ?_ (fun hHeld => ?_)
                          · exact ⟨gS, fS⟩
                          refine wpAnyT_take (i := 0) (oi := ⟨some 212, _, _, _, _, none⟩) (v := ?_) (by kernel_rfl) (by rfl) rfl (by kernel_rfl) (by kernel_rfl) (by kernel_rfl) (fun _ _ _ h => h) (Or.inl ⟨by rfl, ?_⟩) (by assumption) ?_
                          rotate_left
                          · intro wz hSw; (try dsimp only at hSw); go_simp; (try with_reducible rfl)
                          try simp only [Act.put, List.setIfInBounds_toArray, List.set_cons_zero, List.set_cons_succ]
                          refine wpAnyT_take (i := 1) (oi := ⟨some 213, _, _, _, _, none⟩) (v := ?_) (by kernel_rfl) (by rfl) rfl (by kernel_rfl) (by kernel_rfl) (by kernel_rfl) (fun _ _ _ h => h) (Or.inl ⟨by rfl, ?_⟩) (by assumption) ?_
                          rotate_left
                          · intro wz hSw; (try dsimp only at hSw); go_simp; (try with_reducible rfl)
                          try simp only [Act.put, List.setIfInBounds_toArray, List.set_cons_zero, List.set_cons_succ]
                          refine wpAnyT_take (i := 2) (oi := ⟨some 214, _, _, _, _, none⟩) (v := ?_) (by kernel_rfl) (by rfl) rfl (by kernel_rfl) (by kernel_rfl) (by kernel_rfl) (fun _ _ _ h => h) (Or.inl ⟨by rfl, ?_⟩) (by assumption) ?_
                          rotate_left
                          · intro wz hSw; (try dsimp only at hSw); go_simp; (try with_reducible rfl)
                          try simp only [Act.put, List.setIfInBounds_toArray, List.set_cons_zero, List.set_cons_succ]
                          refine wpAnyT_take (i := 3) (oi := ⟨some 215, _, _, _, _, none⟩) (v := ?_) (by kernel_rfl) (by rfl) rfl (by kernel_rfl) (by kernel_rfl) (by kernel_rfl) (fun _ _ _ h => h) (Or.inl ⟨by rfl, ?_⟩) (by assumption) ?_
                          rotate_left
                          · intro wz hSw; (try dsimp only at hSw); go_simp; (try with_reducible rfl)
                          try simp only [Act.put, List.setIfInBounds_toArray, List.set_cons_zero, List.set_cons_succ]
                          refine wpAnyT_take (i := 5) (oi := ⟨some 217, _, _, _, _, none⟩) (v := ?_) (by kernel_rfl) (by rfl) rfl (by kernel_rfl) (by kernel_rfl) (by kernel_rfl) (fun _ _ _ h => h) (Or.inl ⟨by rfl, ?_⟩) (by assumption) ?_
                          rotate_left
                          · intro wz hSw; (try dsimp only at hSw); go_simp; (try with_reducible rfl)
                          try simp only [Act.put, List.setIfInBounds_toArray, List.set_cons_zero, List.set_cons_succ]
                          refine wpAnyT_take (i := 6) (oi := ⟨some 218, _, _, _, _, none⟩) (v := ?_) (by kernel_rfl) (by rfl) rfl (by kernel_rfl) (by kernel_rfl) (by kernel_rfl) (fun _ _ _ h => h) (Or.inl ⟨by rfl, ?_⟩) (by assumption) ?_
                          rotate_left
                          · intro wz hSw; (try dsimp only at hSw); go_simp; (try with_reducible rfl)
                          try simp only [Act.put, List.setIfInBounds_toArray, List.set_cons_zero, List.set_cons_succ]
                          refine wpAnyT_take (i := 7) (oi := ⟨some 219, _, _, _, _, none⟩) (v := ?_) (by kernel_rfl) (by rfl) rfl (by kernel_rfl) (by kernel_rfl) (by kernel_rfl) (fun _ _ _ h => h) (Or.inl ⟨by rfl, ?_⟩) (by assumption) ?_
                          rotate_left
                          · intro wz hSw; (try dsimp only at hSw); go_simp; (try with_reducible rfl)
                          try simp only [Act.put, List.setIfInBounds_toArray, List.set_cons_zero, List.set_cons_succ]
                          refine wpAnyT_one (i := 4) (o := ⟨some 216, _, _, _, _, none⟩) (by kernel_rfl) rfl (fun K hK => ?_)
                          go_simp
                          refine (ref7_at A zs.length zc zs p0 _ HID.out (by omega)).mono ?_
                          rintro e' w' ⟨rfl, rfl⟩
                          refine hK.out _ _ ?_ (fun hHeld => ?_)
                          · exact ⟨gS, fS⟩
                          clear hK K
                          try simp only [Act.put, List.setIfInBounds_toArray, List.set_cons_zero, List.set_cons_succ]
                          refine wpAnyT_one (i := 8) (o := ⟨some 220, _, _, _, _, none⟩) (by kernel_rfl) rfl (fun K hK => ?_)
                          go_simp
                          refine (ref7_at A zs.length zc zs p1 _ HID.out (by omega)).mono ?_
                          rintro e' w' ⟨rfl, rfl⟩
                          refine hK.out _ _ ?_ (fun hHeld => ?_)
                          · exact ⟨gS, fS⟩
                          clear hK K
                          try simp only [Act.put, List.setIfInBounds_toArray, List.set_cons_zero, List.set_cons_succ]
                          refine wpAnyT_take (i := 9) (oi := ⟨some 221, _, _, _, _, none⟩) (v := ?_) (by kernel_rfl) (by rfl) rfl (by kernel_rfl) (by kernel_rfl) (by kernel_rfl) (fun _ _ _ h => h) (Or.inl ⟨by rfl, ?_⟩) (by assumption) ?_
                          rotate_left
                          · intro wz hSw; (try dsimp only at hSw); go_simp; (try with_reducible rfl)
                          try simp only [Act.put, List.setIfInBounds_toArray, List.set_cons_zero, List.set_cons_succ]
                          refine wpAnyT_one (i := 10) (o := ⟨some 222, _, _, _, _, none⟩) (by kernel_rfl) rfl (fun K hK => ?_)
                          go_simp
                          replace gS := keepA (.cells #[.int .i64 (atP zs p0), .int .i64 (atP zs p1)] 76) gS
                          replace fS := keepAF (.cells #[.int .i64 (atP zs p0), .int .i64 (atP zs p1)] 76) fS hSd
                          refine hK.out _ _ ?_ (fun hHeld => ?_)
                          · exact ⟨gS, fS⟩
                          clear hK K
                          try simp only [Act.put, List.setIfInBounds_toArray, List.set_cons_zero, List.set_cons_succ]
                          refine wpAnyT_one (i := 11) (o := ⟨some 223, _, _, _, _, none⟩) (by kernel_rfl) rfl (fun K hK => ?_)
                          refine step_append_cells (by rfl) (.tmp 213) (.tmp 222) 28 (by rfl) V.heap.size 76 i0 (.agg #[.int .i64 0, .int .i64 0]) 2 16 Try.underlying28 hi hz0 hz1 hz2 rfl (by decide) v k _ (by rfl) (own_below' HOWN.out (by go_grown)) (some ⟨_, 0, none⟩) 1 1 [.int .i64 (atP zs p0), .int .i64 (atP zs p1)] (by rfl) (by rfl) (cells_at _ _ _ _ (by first | rfl | simp)) (fun h => by cases h) (by intro u hu; simp only [List.mem_cons, List.not_mem_nil, or_false] at hu; rcases hu with rfl | rfl <;> rfl) (by unfold maxLen; omega) (by omega) (by simp; omega) ?_
                          intro v' w2 own' grow'
                          obtain ⟨av, dv, rfl⟩ := own_slice own'
                          have Bg : Below V.heap.size wr w2 := below_own (by first | go_grown | (go_grown; omega)) (own_below' HOWN.out (by go_grown)) grow' (Nat.le_refl _) (by simp; omega)
                          have hS2 := box_keep Bg HSR.out hSV
                          replace gS : w2.cell? ⟨S, 22, none⟩ = some v := by show w2.cell? _ = _; simp [World.cell?, hS2]
                          replace fS : w2.frozen? ⟨S, 22, none⟩ = false := by show w2.frozen? _ = _; simp [World.frozen?, hS2]
                          refine hK.out _ _ ?_ (fun hHeld => ?_)
                          · exact ⟨gS, fS⟩
                          clear hK K
                          try simp only [Act.put, List.setIfInBounds_toArray, List.set_cons_zero, List.set_cons_succ]
                          refine wpAnyT_take (i := 12) (oi := ⟨some 224, _, _, _, _, none⟩) (v := ?_) (by kernel_rfl) (by rfl) rfl (by kernel_rfl) (by kernel_rfl) (by kernel_rfl) (fun _ _ _ h => h) (Or.inl ⟨by rfl, ?_⟩) (by assumption) ?_
                          rotate_left
                          · intro wz hSw; (try dsimp only at hSw); go_simp; (try with_reducible rfl)
                          try simp only [Act.put, List.setIfInBounds_toArray, List.set_cons_zero, List.set_cons_succ]
                          refine wpAnyT_end (o := ⟨none, _, _, _, _, none⟩) (by kernel_rfl) (by kernel_rfl) rfl (fun K hK => ?_)
                          go_simp
                          refine hK.out _ _ ?_
                          clear hK K
                          try simp only [Act.put, List.setIfInBounds_toArray, List.set_cons_zero, List.set_cons_succ]
                          have Bo := Below.off' Bg hoff (Nat.le_refl _)
                          have HOWN' := Lib.hid own'
                          have HP1 := Lib.hid (hp1)
                          clear own' grow' gS fS hHeld e1 u1 f1 hp1
                          go_wp2_with fail
                          go_roundw
                          case rel =>
                            refine ⟨k + 1, .slice av (k + 1) dv, by omega, ?_, ?_, heap_setCell hS2 _, ?_, ?_⟩
                            · show Value.int .i64 _ = Value.int .i64 _
                              congr 1
                              have := HP0.out
                              omega
                            · show Value.int .i64 _ = Value.int .i64 _
                              congr 1
                              omega
                            · have h1 := own_off HOWN'.out ((Off.refl S w2).setCell (p := ⟨S, 22, none⟩) rfl (.slice av (k + 1) dv)) hSV
                              have h2 := HP0.out
                              have h3 := HP1.out
                              have h4 : (flat2 (read2 zs (q5 zs + 4) (k + 1))) = (flat2 (read2 zs (q5 zs + 4) k)) ++ [atP zs p0, atP zs p1] := by rw [read2_snoc, h2]; first | done | simp only [Nat.add_assoc, Nat.reduceAdd, h3]
                              rw [h4, List.map_append]
                              exact h1
                            · exact Bo.setCell rfl _
                          case measure => simp [intOf]; omega
                        · obtain rfl : c6 = k := by omega
                          obtain ⟨a6, d6, rfl, hg6⟩ := grp_own2 (X := [S, w.heap.size]) HOWN.out (fun x hx => by have := HR.out.new; simp at hx; omega)
                          have hR2 := (HR.out.off hoff HSR.out).snoc (x := (a6, c6, 2, flat2 (read2 zs (q5 zs + 4) c6))) hg6
                          clear HR
                          have HR := Lib.hid hR2
                          rw [Nat.sub_self]
                          
                          clear hR2 hg6 hoff HOWN HSR hsz hSV hSw HIR hlt hk hi hz0 hz1 hz2 i0
                          obtain ⟨V, hV⟩ : ∃ V', V' = wr := ⟨_, rfl⟩
                          subst hV
                          have g1 := HR.out.lists (a1, c1, 3, flat3i (read3 zs (2) c1)) (by simp)
                          have g2 := HR.out.lists (a2, c2, 4, flat4 (read4 zs (q1 zs + 3) c2)) (by simp)
                          have g3 := HR.out.lists (a3, c3, 2, flat2 (read2 zs (q2 zs + 1) c3)) (by simp)
                          have g4 := HR.out.lists (a4, c4, 2, flat2 (read2 zs (q3 zs + 1) c4)) (by simp)
                          have g5 := HR.out.lists (a5, c5, 1, read1 zs (q4 zs + 12) c5) (by simp)
                          have g6 := HR.out.lists (a6, c6, 2, flat2 (read2 zs (q5 zs + 4) c6)) (by simp)
                          have HG := Lib.hid (And.intro g1 (And.intro g2 (And.intro g3 (And.intro g4 (And.intro g5 g6)))))
                          clear g1 g2 g3 g4 g5 g6
                          have hset : SetupIs V (refSetup zs) ⟨a1, c1, d1, a2, c2, d2, a3, c3, d3, a4, c4, d4, a5, c5, d5, a6, c6, d6⟩ := by
                            obtain ⟨g1, g2, g3, g4, g5, g6⟩ := HG.out
                            exact rd_setup HPK.out HC1.out HC2.out HC3.out HC4.out HC5.out HC6.out g1 g2 g3 g4 g5 g6
                          have HSET := Lib.hid hset
                          clear hset
                          have HRD := Lib.hid (ref_read HR.out.row.2.2.1 HALL.out)
                          go_wp2_with (refine wpList_load_box 30 (.tmp 5) rfl rfl S rfl 30 #[.int .i64 (atP zs 0), .slice a1 c1 d1, .int .i64 (atP zs (q1 zs)), .int .i64 (atP zs (q1 zs + 1)), .slice a2 c2 d2, .slice a3 c3 d3, .slice a4 c4 d4, .int .i64 (atP zs (q4 zs)), .int .i64 (atP zs (q4 zs + 1)), .int .i64 (atP zs (q4 zs + 2)), .int .i64 (atP zs (q4 zs + 3)), .int .i64 (atP zs (q4 zs + 4)), .int .i64 (atP zs (q4 zs + 5)), .int .i64 (atP zs (q4 zs + 6)), .int .i64 (atP zs (q4 zs + 7)), .int .i64 (atP zs (q4 zs + 8)), .int .i64 (atP zs (q4 zs + 9)), .int .i64 (atP zs (q4 zs + 10)), .slice a5 c5 d5, .int .i64 (atP zs (q5 zs)), .int .i64 (atP zs (q5 zs + 1)), .int .i64 (atP zs (q5 zs + 2)), .slice a6 c6 d6] HR.out.box setup_big ?_)
                          refine (ref7_Write (refSetup zs) ⟨a1, c1, d1, a2, c2, d2, a3, c3, d3, a4, c4, d4, a5, c5, d5, a6, c6, d6⟩ V HSET.out).mono ?_
                          rintro e3 w3 ⟨wa, wn, wc, wb, er, rfl, hwp, hrow3, k3⟩
                          have HROW3 := Lib.hid hrow3
                          have HR3 := Lib.hid (HR.out.below k3)
                          have HWP := Lib.hid hwp
                          clear hrow3 hwp
                          by_cases hc : setupP (refSetup zs) = true
                          · have hw := writeP_yes hc
                            rw [HWP.out] at hw
                            simp only [Prod.mk.injEq] at hw
                            obtain ⟨hwb, rfl⟩ := hw
                            have HWB := Lib.hid hwb
                            clear hwb
                            obtain ⟨b, hb⟩ : ∃ b, decide (wb = bs) = b := ⟨_, rfl⟩
                            have hse := str_eq HROW3.out.2.2.1 HR3.out.row.2.2.1 hb
                            have hc1 := conv_row HROW3.out wc
                            have hc2 := conv_row HR3.out.row cap
                            have HC := Lib.hid hc
                            have HB := Lib.hid hb
                            clear hc hb
                            cases b
                            · go_upto_region 56 with fail
                              clear hse hc1 hc2
                              generalize Value.string (strOfNums wb) = t1
                              generalize Value.string (strOfNums bs) = t2
                              go_step
                              rename_i KB hKB
                              refine wpList_build_is rfl 30 rfl _ built_setup ?_
                              try simp only [Act.put, List.setIfInBounds_toArray, List.set_cons_zero, List.set_cons_succ]
                              refine wpList_store_block rfl 30 (.tmp 2) (.tmp 241) rfl w.heap.size _ #[.int .i64 0, .slice none 0 0, .int .i64 0, .int .i64 0, .slice none 0 0, .slice none 0 0, .slice none 0 0, .int .i64 0, .int .i64 0, .int .i64 0, .int .i64 0, .int .i64 0, .int .i64 0, .int .i64 0, .int .i64 0, .int .i64 0, .int .i64 0, .int .i64 0, .slice none 0 0, .int .i64 0, .int .i64 0, .int .i64 0, .slice none 0 0] _ HR3.out.res rfl rfl rfl setup_size (by kernel_rfl) ?_
                              intro W oW sW
                              have SW := Lib.hid sW
                              clear sW
                              simp only [Act.put]
                              refine wpList_plain rfl fun K hK => ?_
                              go_simp
                              refine hK _ _ ?_
                              refine wpList_nil ?_
                              refine hKB _ _ ?_
                              refine wp_ret ?_
                              try unfold Exit.then
                              show bodyPost _ _ _ _ _ _
                              refine bodyPost_ret (v := .tuple #[.agg #[.int .i64 0, .slice none 0 0, .int .i64 0, .int .i64 0, .slice none 0 0, .slice none 0 0, .slice none 0 0, .int .i64 0, .int .i64 0, .int .i64 0, .int .i64 0, .int .i64 0, .int .i64 0, .int .i64 0, .int .i64 0, .int .i64 0, .int .i64 0, .int .i64 0, .slice none 0 0, .int .i64 0, .int .i64 0, .int .i64 0, .slice none 0 0], .int .i64 70]) (results_two Try.results18 _ _ _ _ _ _ rfl (load_setup SW.out rfl) rfl) rfl (noSetup_says ?_ (HR3.out.low.trans (oW.below (Nat.le_refl _) HR3.out.low.size)))
                              rw [HRD.out, if_neg]
                              rintro ⟨_, z⟩
                              have := HB.out
                              rw [decide_eq_false_iff_not] at this
                              exact this (HWB.out.trans z)
                            · go_upto_region 57 with fail
                              clear hse hc1 hc2
                              generalize Value.string (strOfNums wb) = t1
                              generalize Value.string (strOfNums bs) = t2
                              go_step
                              rename_i KB hKB
                              refine wpList_load_box 30 (.tmp 5) rfl rfl S rfl 30 #[.int .i64 (atP zs 0), .slice a1 c1 d1, .int .i64 (atP zs (q1 zs)), .int .i64 (atP zs (q1 zs + 1)), .slice a2 c2 d2, .slice a3 c3 d3, .slice a4 c4 d4, .int .i64 (atP zs (q4 zs)), .int .i64 (atP zs (q4 zs + 1)), .int .i64 (atP zs (q4 zs + 2)), .int .i64 (atP zs (q4 zs + 3)), .int .i64 (atP zs (q4 zs + 4)), .int .i64 (atP zs (q4 zs + 5)), .int .i64 (atP zs (q4 zs + 6)), .int .i64 (atP zs (q4 zs + 7)), .int .i64 (atP zs (q4 zs + 8)), .int .i64 (atP zs (q4 zs + 9)), .int .i64 (atP zs (q4 zs + 10)), .slice a5 c5 d5, .int .i64 (atP zs (q5 zs)), .int .i64 (atP zs (q5 zs + 1)), .int .i64 (atP zs (q5 zs + 2)), .slice a6 c6 d6] HR3.out.box setup_big ?_
                              try simp only [Act.put, List.setIfInBounds_toArray, List.set_cons_zero, List.set_cons_succ]
                              refine wpList_store_block rfl 30 (.tmp 2) (.tmp 242) rfl w.heap.size _ #[.int .i64 (atP zs 0), .slice a1 c1 d1, .int .i64 (atP zs (q1 zs)), .int .i64 (atP zs (q1 zs + 1)), .slice a2 c2 d2, .slice a3 c3 d3, .slice a4 c4 d4, .int .i64 (atP zs (q4 zs)), .int .i64 (atP zs (q4 zs + 1)), .int .i64 (atP zs (q4 zs + 2)), .int .i64 (atP zs (q4 zs + 3)), .int .i64 (atP zs (q4 zs + 4)), .int .i64 (atP zs (q4 zs + 5)), .int .i64 (atP zs (q4 zs + 6)), .int .i64 (atP zs (q4 zs + 7)), .int .i64 (atP zs (q4 zs + 8)), .int .i64 (atP zs (q4 zs + 9)), .int .i64 (atP zs (q4 zs + 10)), .slice a5 c5 d5, .int .i64 (atP zs (q5 zs)), .int .i64 (atP zs (q5 zs + 1)), .int .i64 (atP zs (q5 zs + 2)), .slice a6 c6 d6] _ HR3.out.res rfl rfl rfl setup_size (by kernel_rfl) ?_
                              intro W oW sW
                              have SW := Lib.hid sW
                              clear sW
                              simp only [Act.put]
                              refine wpList_plain rfl fun K hK => ?_
                              go_simp
                              refine hK _ _ ?_
                              refine wpList_nil ?_
                              refine hKB _ _ ?_
                              refine wp_ret ?_
                              try unfold Exit.then
                              show bodyPost _ _ _ _ _ _
                              refine bodyPost_ret (v := .tuple #[.agg #[.int .i64 (atP zs 0), .slice a1 c1 d1, .int .i64 (atP zs (q1 zs)), .int .i64 (atP zs (q1 zs + 1)), .slice a2 c2 d2, .slice a3 c3 d3, .slice a4 c4 d4, .int .i64 (atP zs (q4 zs)), .int .i64 (atP zs (q4 zs + 1)), .int .i64 (atP zs (q4 zs + 2)), .int .i64 (atP zs (q4 zs + 3)), .int .i64 (atP zs (q4 zs + 4)), .int .i64 (atP zs (q4 zs + 5)), .int .i64 (atP zs (q4 zs + 6)), .int .i64 (atP zs (q4 zs + 7)), .int .i64 (atP zs (q4 zs + 8)), .int .i64 (atP zs (q4 zs + 9)), .int .i64 (atP zs (q4 zs + 10)), .slice a5 c5 d5, .int .i64 (atP zs (q5 zs)), .int .i64 (atP zs (q5 zs + 1)), .int .i64 (atP zs (q5 zs + 2)), .slice a6 c6 d6], .int .i64 0]) (results_two Try.results18 _ _ _ _ _ _ rfl (load_setup SW.out rfl) rfl) rfl ?_
                              refine ⟨refSetup zs, ⟨a1, c1, d1, a2, c2, d2, a3, c3, d3, a4, c4, d4, a5, c5, d5, a6, c6, d6⟩, 0, rfl, ?_, ?_, HR3.out.low.trans (oW.below (Nat.le_refl _) HR3.out.low.size)⟩
                              · rw [HRD.out, if_pos ⟨HC.out, HWB.out.symm.trans (of_decide_eq_true HB.out)⟩]
                              · obtain ⟨g1, g2, g3, g4, g5, g6⟩ := HG.out
                                have o2 : Off2 w.heap.size w.heap.size V W := ((Below.off k3).trans oW).two
                                exact rd_setup HPK.out HC1.out HC2.out HC3.out HC4.out HC5.out HC6.out (g1.off2 o2 (by simp) (by simp)) (g2.off2 o2 (by simp) (by simp)) (g3.off2 o2 (by simp) (by simp)) (g4.off2 o2 (by simp) (by simp)) (g5.off2 o2 (by simp) (by simp)) (g6.off2 o2 (by simp) (by simp))
                          · have hw := writeP_no (Bool.eq_false_iff.2 hc)
                            rw [HWP.out] at hw
                            simp only [Prod.mk.injEq] at hw
                            obtain ⟨rfl, rfl⟩ := hw
                            have HC := Lib.hid hc
                            clear hc
                            go_upto_region 56 with fail
                            go_step
                            rename_i KB hKB
                            refine wpList_build_is rfl 30 rfl _ built_setup ?_
                            try simp only [Act.put, List.setIfInBounds_toArray, List.set_cons_zero, List.set_cons_succ]
                            refine wpList_store_block rfl 30 (.tmp 2) (.tmp 241) rfl w.heap.size _ #[.int .i64 0, .slice none 0 0, .int .i64 0, .int .i64 0, .slice none 0 0, .slice none 0 0, .slice none 0 0, .int .i64 0, .int .i64 0, .int .i64 0, .int .i64 0, .int .i64 0, .int .i64 0, .int .i64 0, .int .i64 0, .int .i64 0, .int .i64 0, .int .i64 0, .slice none 0 0, .int .i64 0, .int .i64 0, .int .i64 0, .slice none 0 0] _ HR3.out.res rfl rfl rfl setup_size (by kernel_rfl) ?_
                            intro W oW sW
                            have SW := Lib.hid sW
                            clear sW
                            simp only [Act.put]
                            refine wpList_plain rfl fun K hK => ?_
                            go_simp
                            refine hK _ _ ?_
                            refine wpList_nil ?_
                            refine hKB _ _ ?_
                            refine wp_ret ?_
                            try unfold Exit.then
                            show bodyPost _ _ _ _ _ _
                            refine bodyPost_ret (v := .tuple #[.agg #[.int .i64 0, .slice none 0 0, .int .i64 0, .int .i64 0, .slice none 0 0, .slice none 0 0, .slice none 0 0, .int .i64 0, .int .i64 0, .int .i64 0, .int .i64 0, .int .i64 0, .int .i64 0, .int .i64 0, .int .i64 0, .int .i64 0, .int .i64 0, .int .i64 0, .slice none 0 0, .int .i64 0, .int .i64 0, .int .i64 0, .slice none 0 0], .int .i64 70]) (results_two Try.results18 _ _ _ _ _ _ rfl (load_setup SW.out rfl) rfl) rfl (noSetup_says ?_ (HR3.out.low.trans (oW.below (Nat.le_refl _) HR3.out.low.size)))
                            rw [HRD.out, if_neg]
                            rintro ⟨z, _⟩
                            exact HC.out z
end Go.Proofs.Ytnjckaifgmliaaa

/- THE WALK of SetupBack: setups are read as they were written. -/

namespace Go.Proofs.Ytnjckaifgmliaaa
open Go.RowKit Lu

theorem bytes_pos (s : Setup) : 0 < (manyP (numbersP s)).length := by
  apply Classical.byContradiction
  intro h
  have h1 := manyP_zero (List.eq_nil_of_length_eq_zero (by omega : (manyP (numbersP s)).length = 0))
  unfold numbersP at h1
  simp at h1
theorem noSetup_no : setupP noSetup = false := by decide +kernel
set_option maxRecDepth 100000 in
set_option maxHeartbeats 1000000 in
theorem setup_Write_no (s : Setup) (q : Slices) (w : World) (h : SetupIs w s q) (hc : setupP s = false) : Calls Try.prog 15 #[.agg #[.int .i64 s.places, .slice q.wa q.wl q.wc, .int .i64 s.pn, .int .i64 s.pd, .slice q.ea q.el q.ec, .slice q.ca q.cl q.cc, .slice q.ga q.gl q.gc, .int .i64 s.allow, .int .i64 s.unit, .int .i64 s.cap, .int .i64 s.paidBreak, .int .i64 s.autoAfter, .int .i64 s.autoBreak, .int .i64 s.dayReg, .int .i64 s.dayOver, .int .i64 s.weekReg, .int .i64 s.nightFrom, .int .i64 s.nightTo, .slice q.ra q.rl q.rc, .int .i64 s.diff, .int .i64 s.least, .int .i64 s.fault, .slice q.ta q.tl q.tc]] w fun e w' => e = .returned (.tuple #[.slice none 0 0, .int .i64 70]) ∧ Below w.heap.size w w' := by
  have hb : (w.alloc (.cells #[.int .i64 s.places, .slice q.wa q.wl q.wc, .int .i64 s.pn, .int .i64 s.pd, .slice q.ea q.el q.ec, .slice q.ca q.cl q.cc, .slice q.ga q.gl q.gc, .int .i64 s.allow, .int .i64 s.unit, .int .i64 s.cap, .int .i64 s.paidBreak, .int .i64 s.autoAfter, .int .i64 s.autoBreak, .int .i64 s.dayReg, .int .i64 s.dayOver, .int .i64 s.weekReg, .int .i64 s.nightFrom, .int .i64 s.nightTo, .slice q.ra q.rl q.rc, .int .i64 s.diff, .int .i64 s.least, .int .i64 s.fault, .slice q.ta q.tl q.tc] 30)).heap[w.heap.size]? = some (.cells #[.int .i64 s.places, .slice q.wa q.wl q.wc, .int .i64 s.pn, .int .i64 s.pd, .slice q.ea q.el q.ec, .slice q.ca q.cl q.cc, .slice q.ga q.gl q.gc, .int .i64 s.allow, .int .i64 s.unit, .int .i64 s.cap, .int .i64 s.paidBreak, .int .i64 s.autoAfter, .int .i64 s.autoBreak, .int .i64 s.dayReg, .int .i64 s.dayOver, .int .i64 s.weekReg, .int .i64 s.nightFrom, .int .i64 s.nightTo, .slice q.ra q.rl q.rc, .int .i64 s.diff, .int .i64 s.least, .int .i64 s.fault, .slice q.ta q.tl q.tc] 30) := box_new w _ rfl _ _
  have B0 : Below w.heap.size w (w.alloc (.cells #[.int .i64 s.places, .slice q.wa q.wl q.wc, .int .i64 s.pn, .int .i64 s.pd, .slice q.ea q.el q.ec, .slice q.ca q.cl q.cc, .slice q.ga q.gl q.gc, .int .i64 s.allow, .int .i64 s.unit, .int .i64 s.cap, .int .i64 s.paidBreak, .int .i64 s.autoAfter, .int .i64 s.autoBreak, .int .i64 s.dayReg, .int .i64 s.dayOver, .int .i64 s.weekReg, .int .i64 s.nightFrom, .int .i64 s.nightTo, .slice q.ra q.rl q.rc, .int .i64 s.diff, .int .i64 s.least, .int .i64 s.fault, .slice q.ta q.tl q.tc] 30)) := by go_grown
  have HC := Lib.hid hc
  clear hc
  go_enter Try.func15, Try.ntmps15
  go_wp2_with (refine wpList_load_box 30 (.tmp 1) rfl rfl w.heap.size rfl 30 #[.int .i64 s.places, .slice q.wa q.wl q.wc, .int .i64 s.pn, .int .i64 s.pd, .slice q.ea q.el q.ec, .slice q.ca q.cl q.cc, .slice q.ga q.gl q.gc, .int .i64 s.allow, .int .i64 s.unit, .int .i64 s.cap, .int .i64 s.paidBreak, .int .i64 s.autoAfter, .int .i64 s.autoBreak, .int .i64 s.dayReg, .int .i64 s.dayOver, .int .i64 s.weekReg, .int .i64 s.nightFrom, .int .i64 s.nightTo, .slice q.ra q.rl q.rc, .int .i64 s.diff, .int .i64 s.least, .int .i64 s.fault, .slice q.ta q.tl q.tc] hb setup_big ?_)
  refine (setup_Check s q false _ (h.below B0) HC.out).mono ?_
  rintro e1 w1 ⟨rfl, k1⟩
  go_wp2_with fail
  refine bodyPost_ret (v := .tuple #[.slice none 0 0, .int .i64 70]) (by simp [results, Try.results15, go_sem]) rfl ⟨rfl, B0.trans (k1.mono B0.size)⟩
set_option maxRecDepth 100000 in
set_option maxHeartbeats 8000000 in
theorem setupBack_walk (s : Setup) (q : Slices) (a0 : Option Addr) (len cap : Nat) (bs : List Int) (w : World) (hs : SetupIs w s q) (hb : Row8 w a0 len bs) (hcap : len ≤ cap) (hblk : ∀ b o, a0 = some ⟨b, o, none⟩ → b < w.heap.size) :
    Calls Try.prog 4 #[.agg #[.int .i64 s.places, .slice q.wa q.wl q.wc, .int .i64 s.pn, .int .i64 s.pd, .slice q.ea q.el q.ec, .slice q.ca q.cl q.cc, .slice q.ga q.gl q.gc, .int .i64 s.allow, .int .i64 s.unit, .int .i64 s.cap, .int .i64 s.paidBreak, .int .i64 s.autoAfter, .int .i64 s.autoBreak, .int .i64 s.dayReg, .int .i64 s.dayOver, .int .i64 s.weekReg, .int .i64 s.nightFrom, .int .i64 s.nightTo, .slice q.ra q.rl q.rc, .int .i64 s.diff, .int .i64 s.least, .int .i64 s.fault, .slice q.ta q.tl q.tc], .slice a0 len cap] w fun e w' => e = .returned (.bool true) ∧ Below w.heap.size w w' := by
  have BB : Below w.heap.size w (w.alloc (.cells #[.int .i64 s.places, .slice q.wa q.wl q.wc, .int .i64 s.pn, .int .i64 s.pd, .slice q.ea q.el q.ec, .slice q.ca q.cl q.cc, .slice q.ga q.gl q.gc, .int .i64 s.allow, .int .i64 s.unit, .int .i64 s.cap, .int .i64 s.paidBreak, .int .i64 s.autoAfter, .int .i64 s.autoBreak, .int .i64 s.dayReg, .int .i64 s.dayOver, .int .i64 s.weekReg, .int .i64 s.nightFrom, .int .i64 s.nightTo, .slice q.ra q.rl q.rc, .int .i64 s.diff, .int .i64 s.least, .int .i64 s.fault, .slice q.ta q.tl q.tc] 30)) := by go_grown
  have hA : (w.alloc (.cells #[.int .i64 s.places, .slice q.wa q.wl q.wc, .int .i64 s.pn, .int .i64 s.pd, .slice q.ea q.el q.ec, .slice q.ca q.cl q.cc, .slice q.ga q.gl q.gc, .int .i64 s.allow, .int .i64 s.unit, .int .i64 s.cap, .int .i64 s.paidBreak, .int .i64 s.autoAfter, .int .i64 s.autoBreak, .int .i64 s.dayReg, .int .i64 s.dayOver, .int .i64 s.weekReg, .int .i64 s.nightFrom, .int .i64 s.nightTo, .slice q.ra q.rl q.rc, .int .i64 s.diff, .int .i64 s.least, .int .i64 s.fault, .slice q.ta q.tl q.tc] 30)).heap[w.heap.size]? = some (.cells #[.int .i64 s.places, .slice q.wa q.wl q.wc, .int .i64 s.pn, .int .i64 s.pd, .slice q.ea q.el q.ec, .slice q.ca q.cl q.cc, .slice q.ga q.gl q.gc, .int .i64 s.allow, .int .i64 s.unit, .int .i64 s.cap, .int .i64 s.paidBreak, .int .i64 s.autoAfter, .int .i64 s.autoBreak, .int .i64 s.dayReg, .int .i64 s.dayOver, .int .i64 s.weekReg, .int .i64 s.nightFrom, .int .i64 s.nightTo, .slice q.ra q.rl q.rc, .int .i64 s.diff, .int .i64 s.least, .int .i64 s.fault, .slice q.ta q.tl q.tc] 30) := box_new w _ rfl _ _
  have HS := Lib.hid (hs.below BB)
  have HB := Lib.hid (hb.below BB)
  have HBLK := Lib.hid hblk
  have hlmax := hb.2.1
  obtain ⟨f, hf⟩ : ∃ f, fewP s = f := ⟨_, rfl⟩
  obtain ⟨cs, hcs⟩ : ∃ c, setupP s = c := ⟨_, rfl⟩
  have HF := Lib.hid hf
  have HCS := Lib.hid hcs
  have hby := hb.2.2.1
  have hrc := readP_cases bs
  have hok : ∀ y, readP bs = (y, 0) → decide (manyP (numbersP y) = bs) = true := fun y h => decide_eq_true (readP_ok hby h).2.symm
  have HRC0 := Lib.hid hrc
  have HOK := Lib.hid hok
  clear hf hcs hs hb hblk hby hrc hok
  go_enter Try.func4, Try.ntmps4
  go_wp2_with fail
  refine (awake7 _).mono ?_
  rintro e1 w1 ⟨rfl, k1⟩
  replace BB := BB.trans (k1.mono BB.size)
  replace hA := box_keep k1 hA (block_lt hA)
  replace HS := Lib.hid (HS.out.below k1)
  replace HB := Lib.hid (HB.out.below k1)
  clear k1
  obtain ⟨S0, hS0⟩ : ∃ S, w.heap.size = S := ⟨_, rfl⟩
  have HS0 := Lib.hid hS0
  rw [hS0] at hA ⊢
  clear hS0
  go_wp2_with (refine wpList_load_box 30 (.tmp 2) rfl rfl S0 rfl 30 #[.int .i64 s.places, .slice q.wa q.wl q.wc, .int .i64 s.pn, .int .i64 s.pd, .slice q.ea q.el q.ec, .slice q.ca q.cl q.cc, .slice q.ga q.gl q.gc, .int .i64 s.allow, .int .i64 s.unit, .int .i64 s.cap, .int .i64 s.paidBreak, .int .i64 s.autoAfter, .int .i64 s.autoBreak, .int .i64 s.dayReg, .int .i64 s.dayOver, .int .i64 s.weekReg, .int .i64 s.nightFrom, .int .i64 s.nightTo, .slice q.ra q.rl q.rc, .int .i64 s.diff, .int .i64 s.least, .int .i64 s.fault, .slice q.ta q.tl q.tc] hA setup_big ?_)
  refine (ref7_Few s q f w1 HS.out HF.out).mono ?_
  rintro e3 w3 ⟨rfl, k3⟩
  replace BB := BB.trans (k3.mono BB.size)
  replace hA := box_keep k3 hA (block_lt hA)
  replace HS := Lib.hid (HS.out.below k3)
  replace HB := Lib.hid (HB.out.below k3)
  clear k3
  cases f
  · go_wp2_with fail
    go_ret
    exact ⟨rfl, BB⟩
  · by_cases hl : 2000 < len
    · have yl : decide ((2000 : Int) < (len : Int)) = true := by rw [decide_eq_true_iff]; omega
      go_wp2_with fail
      go_ret
      exact ⟨rfl, BB⟩
    · have yl : decide ((2000 : Int) < (len : Int)) = false := by rw [decide_eq_false_iff_not]; omega
      rcases HRC0.out with hrc | ⟨y, hrc, hcy⟩
      · have HRC := Lib.hid hrc
        clear HOK HRC0 hrc
        cases cs
        · skip
          go_wp2_with (refine wpList_load_box 30 (.tmp 2) rfl rfl S0 rfl 30 #[.int .i64 s.places, .slice q.wa q.wl q.wc, .int .i64 s.pn, .int .i64 s.pd, .slice q.ea q.el q.ec, .slice q.ca q.cl q.cc, .slice q.ga q.gl q.gc, .int .i64 s.allow, .int .i64 s.unit, .int .i64 s.cap, .int .i64 s.paidBreak, .int .i64 s.autoAfter, .int .i64 s.autoBreak, .int .i64 s.dayReg, .int .i64 s.dayOver, .int .i64 s.weekReg, .int .i64 s.nightFrom, .int .i64 s.nightTo, .slice q.ra q.rl q.rc, .int .i64 s.diff, .int .i64 s.least, .int .i64 s.fault, .slice q.ta q.tl q.tc] hA setup_big ?_)
          refine (setup_Write_no s q w3 HS.out HCS.out).mono ?_
          rintro e4 w4 ⟨rfl, k4⟩
          replace BB := BB.trans (k4.mono BB.size)
          replace hA := box_keep k4 hA (block_lt hA)
          replace HS := Lib.hid (HS.out.below k4)
          replace HB := Lib.hid (HB.out.below k4)
          clear k4
          go_wp2_with fail
          refine (setup_Read none 0 0 [] w4 (Row8_nil _) (by omega) (by omega) (fun b o h => by cases h)).mono ?_
          rintro e5 w5 ⟨x, q4, er4, rfl, hrd, hx, k5⟩
          rw [read_nil] at hrd
          simp only [Prod.mk.injEq] at hrd
          obtain ⟨rfl, rfl⟩ := hrd
          have HXS := Lib.hid hx
          clear hx
          replace BB := BB.trans (k5.mono BB.size)
          replace hA := box_keep k5 hA (block_lt hA)
          replace HS := Lib.hid (HS.out.below k5)
          replace HB := Lib.hid (HB.out.below k5)
          clear k5
          go_upto_region 6 with (refine wpList_store_new _ _ _ rfl 30 (.tmp 8) (.tmp 33) rfl #[.int .i64 noSetup.places, .slice q4.wa q4.wl q4.wc, .int .i64 noSetup.pn, .int .i64 noSetup.pd, .slice q4.ea q4.el q4.ec, .slice q4.ca q4.cl q4.cc, .slice q4.ga q4.gl q4.gc, .int .i64 noSetup.allow, .int .i64 noSetup.unit, .int .i64 noSetup.cap, .int .i64 noSetup.paidBreak, .int .i64 noSetup.autoAfter, .int .i64 noSetup.autoBreak, .int .i64 noSetup.dayReg, .int .i64 noSetup.dayOver, .int .i64 noSetup.weekReg, .int .i64 noSetup.nightFrom, .int .i64 noSetup.nightTo, .slice q4.ra q4.rl q4.rc, .int .i64 noSetup.diff, .int .i64 noSetup.least, .int .i64 noSetup.fault, .slice q4.ta q4.tl q4.tc] w5.heap.size rfl rfl rfl rfl setup_size (by kernel_rfl) ?_)
          refine gen_code (S := fun V => V.heap[w5.heap.size]? = some (.cells #[.int .i64 noSetup.places, .slice q4.wa q4.wl q4.wc, .int .i64 noSetup.pn, .int .i64 noSetup.pd, .slice q4.ea q4.el q4.ec, .slice q4.ca q4.cl q4.cc, .slice q4.ga q4.gl q4.gc, .int .i64 noSetup.allow, .int .i64 noSetup.unit, .int .i64 noSetup.cap, .int .i64 noSetup.paidBreak, .int .i64 noSetup.autoAfter, .int .i64 noSetup.autoBreak, .int .i64 noSetup.dayReg, .int .i64 noSetup.dayOver, .int .i64 noSetup.weekReg, .int .i64 noSetup.nightFrom, .int .i64 noSetup.nightTo, .slice q4.ra q4.rl q4.rc, .int .i64 noSetup.diff, .int .i64 noSetup.least, .int .i64 noSetup.fault, .slice q4.ta q4.tl q4.tc] 30) ∧ V.heap[S0]? = some (.cells #[.int .i64 s.places, .slice q.wa q.wl q.wc, .int .i64 s.pn, .int .i64 s.pd, .slice q.ea q.el q.ec, .slice q.ca q.cl q.cc, .slice q.ga q.gl q.gc, .int .i64 s.allow, .int .i64 s.unit, .int .i64 s.cap, .int .i64 s.paidBreak, .int .i64 s.autoAfter, .int .i64 s.autoBreak, .int .i64 s.dayReg, .int .i64 s.dayOver, .int .i64 s.weekReg, .int .i64 s.nightFrom, .int .i64 s.nightTo, .slice q.ra q.rl q.rc, .int .i64 s.diff, .int .i64 s.least, .int .i64 s.fault, .slice q.ta q.tl q.tc] 30) ∧ SetupIs V s q ∧ SetupIs V noSetup q4 ∧ Row8 V a0 len bs ∧ Below w.heap.size w V) ⟨box_new _ _ rfl _ _, box_keep (B := w5.heap.size) (by go_grown) hA (block_lt hA), HS.out.below (by go_grown), HXS.out.below (by go_grown), HB.out.below (by go_grown), BB.alloc BB.size _⟩ (fun V5 hV => ?_)
          clear hA HS HXS HB BB
          generalize w5.heap.size = SX at *
          obtain ⟨hX, hA, h1, h2, h3, BB⟩ := hV
          have HS := Lib.hid h1
          have HXS := Lib.hid h2
          have HB := Lib.hid h3
          clear h1 h2 h3
          have hblk5 : ∀ b o, a0 = some ⟨b, o, none⟩ → b < V5.heap.size := fun b o h => Nat.lt_of_lt_of_le (HBLK.out b o h) BB.size
          have HBL := Lib.hid hblk5
          clear hblk5
          go_wp2_with fail
          refine (setup_Read a0 len cap bs V5 HB.out (by omega) hcap HBL.out).mono ?_
          rintro e6 w6 ⟨y6, q5, er5, rfl, hrd, hy, k6⟩
          rw [HRC.out] at hrd
          simp only [Prod.mk.injEq] at hrd
          obtain ⟨rfl, rfl⟩ := hrd
          have HYS := Lib.hid hy
          clear hy HBL
          replace BB := BB.trans (k6.mono BB.size)
          replace hA := box_keep k6 hA (block_lt hA)
          replace hX := box_keep k6 hX (block_lt hX)
          replace HS := Lib.hid (HS.out.below k6)
          replace HXS := Lib.hid (HXS.out.below k6)
          replace HB := Lib.hid (HB.out.below k6)
          clear k6
          go_upto_region 7 with (refine wpList_store_new _ _ _ rfl 30 (.tmp 10) (.tmp 38) rfl #[.int .i64 noSetup.places, .slice q5.wa q5.wl q5.wc, .int .i64 noSetup.pn, .int .i64 noSetup.pd, .slice q5.ea q5.el q5.ec, .slice q5.ca q5.cl q5.cc, .slice q5.ga q5.gl q5.gc, .int .i64 noSetup.allow, .int .i64 noSetup.unit, .int .i64 noSetup.cap, .int .i64 noSetup.paidBreak, .int .i64 noSetup.autoAfter, .int .i64 noSetup.autoBreak, .int .i64 noSetup.dayReg, .int .i64 noSetup.dayOver, .int .i64 noSetup.weekReg, .int .i64 noSetup.nightFrom, .int .i64 noSetup.nightTo, .slice q5.ra q5.rl q5.rc, .int .i64 noSetup.diff, .int .i64 noSetup.least, .int .i64 noSetup.fault, .slice q5.ta q5.tl q5.tc] w6.heap.size rfl rfl rfl rfl setup_size (by kernel_rfl) ?_)
          refine gen_code (S := fun V => V.heap[w6.heap.size]? = some (.cells #[.int .i64 noSetup.places, .slice q5.wa q5.wl q5.wc, .int .i64 noSetup.pn, .int .i64 noSetup.pd, .slice q5.ea q5.el q5.ec, .slice q5.ca q5.cl q5.cc, .slice q5.ga q5.gl q5.gc, .int .i64 noSetup.allow, .int .i64 noSetup.unit, .int .i64 noSetup.cap, .int .i64 noSetup.paidBreak, .int .i64 noSetup.autoAfter, .int .i64 noSetup.autoBreak, .int .i64 noSetup.dayReg, .int .i64 noSetup.dayOver, .int .i64 noSetup.weekReg, .int .i64 noSetup.nightFrom, .int .i64 noSetup.nightTo, .slice q5.ra q5.rl q5.rc, .int .i64 noSetup.diff, .int .i64 noSetup.least, .int .i64 noSetup.fault, .slice q5.ta q5.tl q5.tc] 30) ∧ V.heap[SX]? = some (.cells #[.int .i64 noSetup.places, .slice q4.wa q4.wl q4.wc, .int .i64 noSetup.pn, .int .i64 noSetup.pd, .slice q4.ea q4.el q4.ec, .slice q4.ca q4.cl q4.cc, .slice q4.ga q4.gl q4.gc, .int .i64 noSetup.allow, .int .i64 noSetup.unit, .int .i64 noSetup.cap, .int .i64 noSetup.paidBreak, .int .i64 noSetup.autoAfter, .int .i64 noSetup.autoBreak, .int .i64 noSetup.dayReg, .int .i64 noSetup.dayOver, .int .i64 noSetup.weekReg, .int .i64 noSetup.nightFrom, .int .i64 noSetup.nightTo, .slice q4.ra q4.rl q4.rc, .int .i64 noSetup.diff, .int .i64 noSetup.least, .int .i64 noSetup.fault, .slice q4.ta q4.tl q4.tc] 30) ∧ V.heap[S0]? = some (.cells #[.int .i64 s.places, .slice q.wa q.wl q.wc, .int .i64 s.pn, .int .i64 s.pd, .slice q.ea q.el q.ec, .slice q.ca q.cl q.cc, .slice q.ga q.gl q.gc, .int .i64 s.allow, .int .i64 s.unit, .int .i64 s.cap, .int .i64 s.paidBreak, .int .i64 s.autoAfter, .int .i64 s.autoBreak, .int .i64 s.dayReg, .int .i64 s.dayOver, .int .i64 s.weekReg, .int .i64 s.nightFrom, .int .i64 s.nightTo, .slice q.ra q.rl q.rc, .int .i64 s.diff, .int .i64 s.least, .int .i64 s.fault, .slice q.ta q.tl q.tc] 30) ∧ SetupIs V s q ∧ SetupIs V noSetup q4 ∧ SetupIs V noSetup q5 ∧ Row8 V a0 len bs ∧ Below w.heap.size w V) ⟨box_new _ _ rfl _ _, box_keep (B := w6.heap.size) (by go_grown) hX (block_lt hX), box_keep (B := w6.heap.size) (by go_grown) hA (block_lt hA), HS.out.below (by go_grown), HXS.out.below (by go_grown), HYS.out.below (by go_grown), HB.out.below (by go_grown), BB.alloc BB.size _⟩ (fun V6 hV => ?_)
          clear hA hX HS HXS HYS HB BB
          generalize w6.heap.size = SY at *
          obtain ⟨hY, hX, hA, h1, h2, h4, h3, BB⟩ := hV
          have HS := Lib.hid h1
          have HXS := Lib.hid h2
          have HYS := Lib.hid h4
          have HB := Lib.hid h3
          clear h1 h2 h3 h4
          go_wp2_with (refine wpList_load_box 30 (.tmp 10) rfl rfl SY rfl 30 #[.int .i64 noSetup.places, .slice q5.wa q5.wl q5.wc, .int .i64 noSetup.pn, .int .i64 noSetup.pd, .slice q5.ea q5.el q5.ec, .slice q5.ca q5.cl q5.cc, .slice q5.ga q5.gl q5.gc, .int .i64 noSetup.allow, .int .i64 noSetup.unit, .int .i64 noSetup.cap, .int .i64 noSetup.paidBreak, .int .i64 noSetup.autoAfter, .int .i64 noSetup.autoBreak, .int .i64 noSetup.dayReg, .int .i64 noSetup.dayOver, .int .i64 noSetup.weekReg, .int .i64 noSetup.nightFrom, .int .i64 noSetup.nightTo, .slice q5.ra q5.rl q5.rc, .int .i64 noSetup.diff, .int .i64 noSetup.least, .int .i64 noSetup.fault, .slice q5.ta q5.tl q5.tc] hY setup_big ?_)
          refine (setup_Write noSetup q5 V6 HYS.out).mono ?_
          rintro e7 w7 ⟨a7, n7, c7, B, er7, rfl, hw7, hr7, -, k7⟩
          rw [writeP_no noSetup_no] at hw7
          simp only [Prod.mk.injEq] at hw7
          obtain ⟨rfl, rfl⟩ := hw7
          have HR7 := Lib.hid hr7
          clear hr7
          replace BB := BB.trans (k7.mono BB.size)
          replace hA := box_keep k7 hA (block_lt hA)
          replace hX := box_keep k7 hX (block_lt hX)
          replace hY := box_keep k7 hY (block_lt hY)
          replace HS := Lib.hid (HS.out.below k7)
          replace HXS := Lib.hid (HXS.out.below k7)
          replace HYS := Lib.hid (HYS.out.below k7)
          replace HB := Lib.hid (HB.out.below k7)
          clear k7
          go_wp2_with (refine wpList_load_box 30 (.tmp 2) rfl rfl S0 rfl 30 #[.int .i64 s.places, .slice q.wa q.wl q.wc, .int .i64 s.pn, .int .i64 s.pd, .slice q.ea q.el q.ec, .slice q.ca q.cl q.cc, .slice q.ga q.gl q.gc, .int .i64 s.allow, .int .i64 s.unit, .int .i64 s.cap, .int .i64 s.paidBreak, .int .i64 s.autoAfter, .int .i64 s.autoBreak, .int .i64 s.dayReg, .int .i64 s.dayOver, .int .i64 s.weekReg, .int .i64 s.nightFrom, .int .i64 s.nightTo, .slice q.ra q.rl q.rc, .int .i64 s.diff, .int .i64 s.least, .int .i64 s.fault, .slice q.ta q.tl q.tc] hA setup_big ?_)
          refine (setup_Check s q false w7 HS.out HCS.out).mono ?_
          rintro e8 w8 ⟨rfl, k8⟩
          replace HR7 := Lib.hid (HR7.out.below k8)
          replace BB := BB.trans (k8.mono BB.size)
          replace hA := box_keep k8 hA (block_lt hA)
          replace hX := box_keep k8 hX (block_lt hX)
          replace hY := box_keep k8 hY (block_lt hY)
          replace HS := Lib.hid (HS.out.below k8)
          replace HXS := Lib.hid (HXS.out.below k8)
          replace HYS := Lib.hid (HYS.out.below k8)
          replace HB := Lib.hid (HB.out.below k8)
          clear k8
          have gp : w8.cell? ⟨SY, 0, none⟩ = some (.int .i64 0) := by
            have : w8.cell? ⟨SY, 0, none⟩ = some (.int .i64 noSetup.places) := by simp [World.cell?, hY]
            exact this
          go_wp2_with fail
          go_ret
          exact ⟨rfl, BB⟩
        · skip
          go_wp2_with (refine wpList_load_box 30 (.tmp 2) rfl rfl S0 rfl 30 #[.int .i64 s.places, .slice q.wa q.wl q.wc, .int .i64 s.pn, .int .i64 s.pd, .slice q.ea q.el q.ec, .slice q.ca q.cl q.cc, .slice q.ga q.gl q.gc, .int .i64 s.allow, .int .i64 s.unit, .int .i64 s.cap, .int .i64 s.paidBreak, .int .i64 s.autoAfter, .int .i64 s.autoBreak, .int .i64 s.dayReg, .int .i64 s.dayOver, .int .i64 s.weekReg, .int .i64 s.nightFrom, .int .i64 s.nightTo, .slice q.ra q.rl q.rc, .int .i64 s.diff, .int .i64 s.least, .int .i64 s.fault, .slice q.ta q.tl q.tc] hA setup_big ?_)
          refine (setup_Write s q w3 HS.out).mono ?_
          rintro e4 w4 ⟨a, n, c, A, er, rfl, hw1, hr1, hnc, k4⟩
          rw [writeP_yes HCS.out] at hw1
          simp only [Prod.mk.injEq] at hw1
          obtain ⟨rfl, rfl⟩ := hw1
          have hle := setup_bytes_le HCS.out
          have hps := bytes_pos s
          have hln := hr1.1
          have HRA := Lib.hid hr1
          have HLT := Lib.hid (row_lt hr1 (by omega))
          clear hr1
          replace BB := BB.trans (k4.mono BB.size)
          replace hA := box_keep k4 hA (block_lt hA)
          replace HS := Lib.hid (HS.out.below k4)
          replace HB := Lib.hid (HB.out.below k4)
          clear k4
          go_wp2_with fail
          refine (setup_Read a n c _ w4 HRA.out (by omega) hnc HLT.out).mono ?_
          rintro e5 w5 ⟨x, q4, er4, rfl, hrd, hx, k5⟩
          rw [write_read HCS.out] at hrd
          simp only [Prod.mk.injEq] at hrd
          obtain ⟨rfl, rfl⟩ := hrd
          clear HRA HLT
          have HXS := Lib.hid hx
          clear hx
          replace BB := BB.trans (k5.mono BB.size)
          replace hA := box_keep k5 hA (block_lt hA)
          replace HS := Lib.hid (HS.out.below k5)
          replace HB := Lib.hid (HB.out.below k5)
          clear k5
          go_upto_region 6 with (refine wpList_store_new _ _ _ rfl 30 (.tmp 8) (.tmp 33) rfl #[.int .i64 s.places, .slice q4.wa q4.wl q4.wc, .int .i64 s.pn, .int .i64 s.pd, .slice q4.ea q4.el q4.ec, .slice q4.ca q4.cl q4.cc, .slice q4.ga q4.gl q4.gc, .int .i64 s.allow, .int .i64 s.unit, .int .i64 s.cap, .int .i64 s.paidBreak, .int .i64 s.autoAfter, .int .i64 s.autoBreak, .int .i64 s.dayReg, .int .i64 s.dayOver, .int .i64 s.weekReg, .int .i64 s.nightFrom, .int .i64 s.nightTo, .slice q4.ra q4.rl q4.rc, .int .i64 s.diff, .int .i64 s.least, .int .i64 s.fault, .slice q4.ta q4.tl q4.tc] w5.heap.size rfl rfl rfl rfl setup_size (by kernel_rfl) ?_)
          refine gen_code (S := fun V => V.heap[w5.heap.size]? = some (.cells #[.int .i64 s.places, .slice q4.wa q4.wl q4.wc, .int .i64 s.pn, .int .i64 s.pd, .slice q4.ea q4.el q4.ec, .slice q4.ca q4.cl q4.cc, .slice q4.ga q4.gl q4.gc, .int .i64 s.allow, .int .i64 s.unit, .int .i64 s.cap, .int .i64 s.paidBreak, .int .i64 s.autoAfter, .int .i64 s.autoBreak, .int .i64 s.dayReg, .int .i64 s.dayOver, .int .i64 s.weekReg, .int .i64 s.nightFrom, .int .i64 s.nightTo, .slice q4.ra q4.rl q4.rc, .int .i64 s.diff, .int .i64 s.least, .int .i64 s.fault, .slice q4.ta q4.tl q4.tc] 30) ∧ V.heap[S0]? = some (.cells #[.int .i64 s.places, .slice q.wa q.wl q.wc, .int .i64 s.pn, .int .i64 s.pd, .slice q.ea q.el q.ec, .slice q.ca q.cl q.cc, .slice q.ga q.gl q.gc, .int .i64 s.allow, .int .i64 s.unit, .int .i64 s.cap, .int .i64 s.paidBreak, .int .i64 s.autoAfter, .int .i64 s.autoBreak, .int .i64 s.dayReg, .int .i64 s.dayOver, .int .i64 s.weekReg, .int .i64 s.nightFrom, .int .i64 s.nightTo, .slice q.ra q.rl q.rc, .int .i64 s.diff, .int .i64 s.least, .int .i64 s.fault, .slice q.ta q.tl q.tc] 30) ∧ SetupIs V s q ∧ SetupIs V s q4 ∧ Row8 V a0 len bs ∧ Below w.heap.size w V) ⟨box_new _ _ rfl _ _, box_keep (B := w5.heap.size) (by go_grown) hA (block_lt hA), HS.out.below (by go_grown), HXS.out.below (by go_grown), HB.out.below (by go_grown), BB.alloc BB.size _⟩ (fun V5 hV => ?_)
          clear hA HS HXS HB BB
          generalize w5.heap.size = SX at *
          obtain ⟨hX, hA, h1, h2, h3, BB⟩ := hV
          have HS := Lib.hid h1
          have HXS := Lib.hid h2
          have HB := Lib.hid h3
          clear h1 h2 h3
          have hblk5 : ∀ b o, a0 = some ⟨b, o, none⟩ → b < V5.heap.size := fun b o h => Nat.lt_of_lt_of_le (HBLK.out b o h) BB.size
          have HBL := Lib.hid hblk5
          clear hblk5
          go_wp2_with fail
          refine (setup_Read a0 len cap bs V5 HB.out (by omega) hcap HBL.out).mono ?_
          rintro e6 w6 ⟨y6, q5, er5, rfl, hrd, hy, k6⟩
          rw [HRC.out] at hrd
          simp only [Prod.mk.injEq] at hrd
          obtain ⟨rfl, rfl⟩ := hrd
          have HYS := Lib.hid hy
          clear hy HBL
          replace BB := BB.trans (k6.mono BB.size)
          replace hA := box_keep k6 hA (block_lt hA)
          replace hX := box_keep k6 hX (block_lt hX)
          replace HS := Lib.hid (HS.out.below k6)
          replace HXS := Lib.hid (HXS.out.below k6)
          replace HB := Lib.hid (HB.out.below k6)
          clear k6
          go_upto_region 7 with (refine wpList_store_new _ _ _ rfl 30 (.tmp 10) (.tmp 38) rfl #[.int .i64 noSetup.places, .slice q5.wa q5.wl q5.wc, .int .i64 noSetup.pn, .int .i64 noSetup.pd, .slice q5.ea q5.el q5.ec, .slice q5.ca q5.cl q5.cc, .slice q5.ga q5.gl q5.gc, .int .i64 noSetup.allow, .int .i64 noSetup.unit, .int .i64 noSetup.cap, .int .i64 noSetup.paidBreak, .int .i64 noSetup.autoAfter, .int .i64 noSetup.autoBreak, .int .i64 noSetup.dayReg, .int .i64 noSetup.dayOver, .int .i64 noSetup.weekReg, .int .i64 noSetup.nightFrom, .int .i64 noSetup.nightTo, .slice q5.ra q5.rl q5.rc, .int .i64 noSetup.diff, .int .i64 noSetup.least, .int .i64 noSetup.fault, .slice q5.ta q5.tl q5.tc] w6.heap.size rfl rfl rfl rfl setup_size (by kernel_rfl) ?_)
          refine gen_code (S := fun V => V.heap[w6.heap.size]? = some (.cells #[.int .i64 noSetup.places, .slice q5.wa q5.wl q5.wc, .int .i64 noSetup.pn, .int .i64 noSetup.pd, .slice q5.ea q5.el q5.ec, .slice q5.ca q5.cl q5.cc, .slice q5.ga q5.gl q5.gc, .int .i64 noSetup.allow, .int .i64 noSetup.unit, .int .i64 noSetup.cap, .int .i64 noSetup.paidBreak, .int .i64 noSetup.autoAfter, .int .i64 noSetup.autoBreak, .int .i64 noSetup.dayReg, .int .i64 noSetup.dayOver, .int .i64 noSetup.weekReg, .int .i64 noSetup.nightFrom, .int .i64 noSetup.nightTo, .slice q5.ra q5.rl q5.rc, .int .i64 noSetup.diff, .int .i64 noSetup.least, .int .i64 noSetup.fault, .slice q5.ta q5.tl q5.tc] 30) ∧ V.heap[SX]? = some (.cells #[.int .i64 s.places, .slice q4.wa q4.wl q4.wc, .int .i64 s.pn, .int .i64 s.pd, .slice q4.ea q4.el q4.ec, .slice q4.ca q4.cl q4.cc, .slice q4.ga q4.gl q4.gc, .int .i64 s.allow, .int .i64 s.unit, .int .i64 s.cap, .int .i64 s.paidBreak, .int .i64 s.autoAfter, .int .i64 s.autoBreak, .int .i64 s.dayReg, .int .i64 s.dayOver, .int .i64 s.weekReg, .int .i64 s.nightFrom, .int .i64 s.nightTo, .slice q4.ra q4.rl q4.rc, .int .i64 s.diff, .int .i64 s.least, .int .i64 s.fault, .slice q4.ta q4.tl q4.tc] 30) ∧ V.heap[S0]? = some (.cells #[.int .i64 s.places, .slice q.wa q.wl q.wc, .int .i64 s.pn, .int .i64 s.pd, .slice q.ea q.el q.ec, .slice q.ca q.cl q.cc, .slice q.ga q.gl q.gc, .int .i64 s.allow, .int .i64 s.unit, .int .i64 s.cap, .int .i64 s.paidBreak, .int .i64 s.autoAfter, .int .i64 s.autoBreak, .int .i64 s.dayReg, .int .i64 s.dayOver, .int .i64 s.weekReg, .int .i64 s.nightFrom, .int .i64 s.nightTo, .slice q.ra q.rl q.rc, .int .i64 s.diff, .int .i64 s.least, .int .i64 s.fault, .slice q.ta q.tl q.tc] 30) ∧ SetupIs V s q ∧ SetupIs V s q4 ∧ SetupIs V noSetup q5 ∧ Row8 V a0 len bs ∧ Below w.heap.size w V) ⟨box_new _ _ rfl _ _, box_keep (B := w6.heap.size) (by go_grown) hX (block_lt hX), box_keep (B := w6.heap.size) (by go_grown) hA (block_lt hA), HS.out.below (by go_grown), HXS.out.below (by go_grown), HYS.out.below (by go_grown), HB.out.below (by go_grown), BB.alloc BB.size _⟩ (fun V6 hV => ?_)
          clear hA hX HS HXS HYS HB BB
          generalize w6.heap.size = SY at *
          obtain ⟨hY, hX, hA, h1, h2, h4, h3, BB⟩ := hV
          have HS := Lib.hid h1
          have HXS := Lib.hid h2
          have HYS := Lib.hid h4
          have HB := Lib.hid h3
          clear h1 h2 h3 h4
          go_wp2_with (refine wpList_load_box 30 (.tmp 10) rfl rfl SY rfl 30 #[.int .i64 noSetup.places, .slice q5.wa q5.wl q5.wc, .int .i64 noSetup.pn, .int .i64 noSetup.pd, .slice q5.ea q5.el q5.ec, .slice q5.ca q5.cl q5.cc, .slice q5.ga q5.gl q5.gc, .int .i64 noSetup.allow, .int .i64 noSetup.unit, .int .i64 noSetup.cap, .int .i64 noSetup.paidBreak, .int .i64 noSetup.autoAfter, .int .i64 noSetup.autoBreak, .int .i64 noSetup.dayReg, .int .i64 noSetup.dayOver, .int .i64 noSetup.weekReg, .int .i64 noSetup.nightFrom, .int .i64 noSetup.nightTo, .slice q5.ra q5.rl q5.rc, .int .i64 noSetup.diff, .int .i64 noSetup.least, .int .i64 noSetup.fault, .slice q5.ta q5.tl q5.tc] hY setup_big ?_)
          refine (setup_Write noSetup q5 V6 HYS.out).mono ?_
          rintro e7 w7 ⟨a7, n7, c7, B, er7, rfl, hw7, hr7, -, k7⟩
          rw [writeP_no noSetup_no] at hw7
          simp only [Prod.mk.injEq] at hw7
          obtain ⟨rfl, rfl⟩ := hw7
          have HR7 := Lib.hid hr7
          clear hr7
          replace BB := BB.trans (k7.mono BB.size)
          replace hA := box_keep k7 hA (block_lt hA)
          replace hX := box_keep k7 hX (block_lt hX)
          replace hY := box_keep k7 hY (block_lt hY)
          replace HS := Lib.hid (HS.out.below k7)
          replace HXS := Lib.hid (HXS.out.below k7)
          replace HYS := Lib.hid (HYS.out.below k7)
          replace HB := Lib.hid (HB.out.below k7)
          clear k7
          go_wp2_with (first | (refine wpList_load_box 30 (.tmp 8) rfl rfl SX rfl 30 #[.int .i64 s.places, .slice q4.wa q4.wl q4.wc, .int .i64 s.pn, .int .i64 s.pd, .slice q4.ea q4.el q4.ec, .slice q4.ca q4.cl q4.cc, .slice q4.ga q4.gl q4.gc, .int .i64 s.allow, .int .i64 s.unit, .int .i64 s.cap, .int .i64 s.paidBreak, .int .i64 s.autoAfter, .int .i64 s.autoBreak, .int .i64 s.dayReg, .int .i64 s.dayOver, .int .i64 s.weekReg, .int .i64 s.nightFrom, .int .i64 s.nightTo, .slice q4.ra q4.rl q4.rc, .int .i64 s.diff, .int .i64 s.least, .int .i64 s.fault, .slice q4.ta q4.tl q4.tc] hX setup_big ?_) | (refine wpList_load_box 30 (.tmp 2) rfl rfl S0 rfl 30 #[.int .i64 s.places, .slice q.wa q.wl q.wc, .int .i64 s.pn, .int .i64 s.pd, .slice q.ea q.el q.ec, .slice q.ca q.cl q.cc, .slice q.ga q.gl q.gc, .int .i64 s.allow, .int .i64 s.unit, .int .i64 s.cap, .int .i64 s.paidBreak, .int .i64 s.autoAfter, .int .i64 s.autoBreak, .int .i64 s.dayReg, .int .i64 s.dayOver, .int .i64 s.weekReg, .int .i64 s.nightFrom, .int .i64 s.nightTo, .slice q.ra q.rl q.rc, .int .i64 s.diff, .int .i64 s.least, .int .i64 s.fault, .slice q.ta q.tl q.tc] hA setup_big ?_))
          refine (ref7_Same s s q4 q true w7 HXS.out HS.out HF.out HF.out (decide_eq_true rfl)).mono ?_
          rintro e8 w8 ⟨rfl, k8⟩
          replace HR7 := Lib.hid (HR7.out.below k8)
          replace BB := BB.trans (k8.mono BB.size)
          replace hA := box_keep k8 hA (block_lt hA)
          replace hX := box_keep k8 hX (block_lt hX)
          replace hY := box_keep k8 hY (block_lt hY)
          replace HS := Lib.hid (HS.out.below k8)
          replace HXS := Lib.hid (HXS.out.below k8)
          replace HYS := Lib.hid (HYS.out.below k8)
          replace HB := Lib.hid (HB.out.below k8)
          clear k8
          have gp : w8.cell? ⟨SY, 0, none⟩ = some (.int .i64 0) := by
            have : w8.cell? ⟨SY, 0, none⟩ = some (.int .i64 noSetup.places) := by simp [World.cell?, hY]
            exact this
          go_wp2_with fail
          go_ret
          exact ⟨rfl, BB⟩
      · have heb := HOK.out y hrc
        have HRC := Lib.hid hrc
        have HCY := Lib.hid hcy
        have HEB := Lib.hid heb
        clear HOK HRC0 hrc hcy heb
        cases cs
        · skip
          go_wp2_with (refine wpList_load_box 30 (.tmp 2) rfl rfl S0 rfl 30 #[.int .i64 s.places, .slice q.wa q.wl q.wc, .int .i64 s.pn, .int .i64 s.pd, .slice q.ea q.el q.ec, .slice q.ca q.cl q.cc, .slice q.ga q.gl q.gc, .int .i64 s.allow, .int .i64 s.unit, .int .i64 s.cap, .int .i64 s.paidBreak, .int .i64 s.autoAfter, .int .i64 s.autoBreak, .int .i64 s.dayReg, .int .i64 s.dayOver, .int .i64 s.weekReg, .int .i64 s.nightFrom, .int .i64 s.nightTo, .slice q.ra q.rl q.rc, .int .i64 s.diff, .int .i64 s.least, .int .i64 s.fault, .slice q.ta q.tl q.tc] hA setup_big ?_)
          refine (setup_Write_no s q w3 HS.out HCS.out).mono ?_
          rintro e4 w4 ⟨rfl, k4⟩
          replace BB := BB.trans (k4.mono BB.size)
          replace hA := box_keep k4 hA (block_lt hA)
          replace HS := Lib.hid (HS.out.below k4)
          replace HB := Lib.hid (HB.out.below k4)
          clear k4
          go_wp2_with fail
          refine (setup_Read none 0 0 [] w4 (Row8_nil _) (by omega) (by omega) (fun b o h => by cases h)).mono ?_
          rintro e5 w5 ⟨x, q4, er4, rfl, hrd, hx, k5⟩
          rw [read_nil] at hrd
          simp only [Prod.mk.injEq] at hrd
          obtain ⟨rfl, rfl⟩ := hrd
          have HXS := Lib.hid hx
          clear hx
          replace BB := BB.trans (k5.mono BB.size)
          replace hA := box_keep k5 hA (block_lt hA)
          replace HS := Lib.hid (HS.out.below k5)
          replace HB := Lib.hid (HB.out.below k5)
          clear k5
          go_upto_region 6 with (refine wpList_store_new _ _ _ rfl 30 (.tmp 8) (.tmp 33) rfl #[.int .i64 noSetup.places, .slice q4.wa q4.wl q4.wc, .int .i64 noSetup.pn, .int .i64 noSetup.pd, .slice q4.ea q4.el q4.ec, .slice q4.ca q4.cl q4.cc, .slice q4.ga q4.gl q4.gc, .int .i64 noSetup.allow, .int .i64 noSetup.unit, .int .i64 noSetup.cap, .int .i64 noSetup.paidBreak, .int .i64 noSetup.autoAfter, .int .i64 noSetup.autoBreak, .int .i64 noSetup.dayReg, .int .i64 noSetup.dayOver, .int .i64 noSetup.weekReg, .int .i64 noSetup.nightFrom, .int .i64 noSetup.nightTo, .slice q4.ra q4.rl q4.rc, .int .i64 noSetup.diff, .int .i64 noSetup.least, .int .i64 noSetup.fault, .slice q4.ta q4.tl q4.tc] w5.heap.size rfl rfl rfl rfl setup_size (by kernel_rfl) ?_)
          refine gen_code (S := fun V => V.heap[w5.heap.size]? = some (.cells #[.int .i64 noSetup.places, .slice q4.wa q4.wl q4.wc, .int .i64 noSetup.pn, .int .i64 noSetup.pd, .slice q4.ea q4.el q4.ec, .slice q4.ca q4.cl q4.cc, .slice q4.ga q4.gl q4.gc, .int .i64 noSetup.allow, .int .i64 noSetup.unit, .int .i64 noSetup.cap, .int .i64 noSetup.paidBreak, .int .i64 noSetup.autoAfter, .int .i64 noSetup.autoBreak, .int .i64 noSetup.dayReg, .int .i64 noSetup.dayOver, .int .i64 noSetup.weekReg, .int .i64 noSetup.nightFrom, .int .i64 noSetup.nightTo, .slice q4.ra q4.rl q4.rc, .int .i64 noSetup.diff, .int .i64 noSetup.least, .int .i64 noSetup.fault, .slice q4.ta q4.tl q4.tc] 30) ∧ V.heap[S0]? = some (.cells #[.int .i64 s.places, .slice q.wa q.wl q.wc, .int .i64 s.pn, .int .i64 s.pd, .slice q.ea q.el q.ec, .slice q.ca q.cl q.cc, .slice q.ga q.gl q.gc, .int .i64 s.allow, .int .i64 s.unit, .int .i64 s.cap, .int .i64 s.paidBreak, .int .i64 s.autoAfter, .int .i64 s.autoBreak, .int .i64 s.dayReg, .int .i64 s.dayOver, .int .i64 s.weekReg, .int .i64 s.nightFrom, .int .i64 s.nightTo, .slice q.ra q.rl q.rc, .int .i64 s.diff, .int .i64 s.least, .int .i64 s.fault, .slice q.ta q.tl q.tc] 30) ∧ SetupIs V s q ∧ SetupIs V noSetup q4 ∧ Row8 V a0 len bs ∧ Below w.heap.size w V) ⟨box_new _ _ rfl _ _, box_keep (B := w5.heap.size) (by go_grown) hA (block_lt hA), HS.out.below (by go_grown), HXS.out.below (by go_grown), HB.out.below (by go_grown), BB.alloc BB.size _⟩ (fun V5 hV => ?_)
          clear hA HS HXS HB BB
          generalize w5.heap.size = SX at *
          obtain ⟨hX, hA, h1, h2, h3, BB⟩ := hV
          have HS := Lib.hid h1
          have HXS := Lib.hid h2
          have HB := Lib.hid h3
          clear h1 h2 h3
          have hblk5 : ∀ b o, a0 = some ⟨b, o, none⟩ → b < V5.heap.size := fun b o h => Nat.lt_of_lt_of_le (HBLK.out b o h) BB.size
          have HBL := Lib.hid hblk5
          clear hblk5
          go_wp2_with fail
          refine (setup_Read a0 len cap bs V5 HB.out (by omega) hcap HBL.out).mono ?_
          rintro e6 w6 ⟨y6, q5, er5, rfl, hrd, hy, k6⟩
          rw [HRC.out] at hrd
          simp only [Prod.mk.injEq] at hrd
          obtain ⟨rfl, rfl⟩ := hrd
          have HYS := Lib.hid hy
          clear hy HBL
          replace BB := BB.trans (k6.mono BB.size)
          replace hA := box_keep k6 hA (block_lt hA)
          replace hX := box_keep k6 hX (block_lt hX)
          replace HS := Lib.hid (HS.out.below k6)
          replace HXS := Lib.hid (HXS.out.below k6)
          replace HB := Lib.hid (HB.out.below k6)
          clear k6
          go_upto_region 7 with (refine wpList_store_new _ _ _ rfl 30 (.tmp 10) (.tmp 38) rfl #[.int .i64 y.places, .slice q5.wa q5.wl q5.wc, .int .i64 y.pn, .int .i64 y.pd, .slice q5.ea q5.el q5.ec, .slice q5.ca q5.cl q5.cc, .slice q5.ga q5.gl q5.gc, .int .i64 y.allow, .int .i64 y.unit, .int .i64 y.cap, .int .i64 y.paidBreak, .int .i64 y.autoAfter, .int .i64 y.autoBreak, .int .i64 y.dayReg, .int .i64 y.dayOver, .int .i64 y.weekReg, .int .i64 y.nightFrom, .int .i64 y.nightTo, .slice q5.ra q5.rl q5.rc, .int .i64 y.diff, .int .i64 y.least, .int .i64 y.fault, .slice q5.ta q5.tl q5.tc] w6.heap.size rfl rfl rfl rfl setup_size (by kernel_rfl) ?_)
          refine gen_code (S := fun V => V.heap[w6.heap.size]? = some (.cells #[.int .i64 y.places, .slice q5.wa q5.wl q5.wc, .int .i64 y.pn, .int .i64 y.pd, .slice q5.ea q5.el q5.ec, .slice q5.ca q5.cl q5.cc, .slice q5.ga q5.gl q5.gc, .int .i64 y.allow, .int .i64 y.unit, .int .i64 y.cap, .int .i64 y.paidBreak, .int .i64 y.autoAfter, .int .i64 y.autoBreak, .int .i64 y.dayReg, .int .i64 y.dayOver, .int .i64 y.weekReg, .int .i64 y.nightFrom, .int .i64 y.nightTo, .slice q5.ra q5.rl q5.rc, .int .i64 y.diff, .int .i64 y.least, .int .i64 y.fault, .slice q5.ta q5.tl q5.tc] 30) ∧ V.heap[SX]? = some (.cells #[.int .i64 noSetup.places, .slice q4.wa q4.wl q4.wc, .int .i64 noSetup.pn, .int .i64 noSetup.pd, .slice q4.ea q4.el q4.ec, .slice q4.ca q4.cl q4.cc, .slice q4.ga q4.gl q4.gc, .int .i64 noSetup.allow, .int .i64 noSetup.unit, .int .i64 noSetup.cap, .int .i64 noSetup.paidBreak, .int .i64 noSetup.autoAfter, .int .i64 noSetup.autoBreak, .int .i64 noSetup.dayReg, .int .i64 noSetup.dayOver, .int .i64 noSetup.weekReg, .int .i64 noSetup.nightFrom, .int .i64 noSetup.nightTo, .slice q4.ra q4.rl q4.rc, .int .i64 noSetup.diff, .int .i64 noSetup.least, .int .i64 noSetup.fault, .slice q4.ta q4.tl q4.tc] 30) ∧ V.heap[S0]? = some (.cells #[.int .i64 s.places, .slice q.wa q.wl q.wc, .int .i64 s.pn, .int .i64 s.pd, .slice q.ea q.el q.ec, .slice q.ca q.cl q.cc, .slice q.ga q.gl q.gc, .int .i64 s.allow, .int .i64 s.unit, .int .i64 s.cap, .int .i64 s.paidBreak, .int .i64 s.autoAfter, .int .i64 s.autoBreak, .int .i64 s.dayReg, .int .i64 s.dayOver, .int .i64 s.weekReg, .int .i64 s.nightFrom, .int .i64 s.nightTo, .slice q.ra q.rl q.rc, .int .i64 s.diff, .int .i64 s.least, .int .i64 s.fault, .slice q.ta q.tl q.tc] 30) ∧ SetupIs V s q ∧ SetupIs V noSetup q4 ∧ SetupIs V y q5 ∧ Row8 V a0 len bs ∧ Below w.heap.size w V) ⟨box_new _ _ rfl _ _, box_keep (B := w6.heap.size) (by go_grown) hX (block_lt hX), box_keep (B := w6.heap.size) (by go_grown) hA (block_lt hA), HS.out.below (by go_grown), HXS.out.below (by go_grown), HYS.out.below (by go_grown), HB.out.below (by go_grown), BB.alloc BB.size _⟩ (fun V6 hV => ?_)
          clear hA hX HS HXS HYS HB BB
          generalize w6.heap.size = SY at *
          obtain ⟨hY, hX, hA, h1, h2, h4, h3, BB⟩ := hV
          have HS := Lib.hid h1
          have HXS := Lib.hid h2
          have HYS := Lib.hid h4
          have HB := Lib.hid h3
          clear h1 h2 h3 h4
          go_wp2_with (refine wpList_load_box 30 (.tmp 10) rfl rfl SY rfl 30 #[.int .i64 y.places, .slice q5.wa q5.wl q5.wc, .int .i64 y.pn, .int .i64 y.pd, .slice q5.ea q5.el q5.ec, .slice q5.ca q5.cl q5.cc, .slice q5.ga q5.gl q5.gc, .int .i64 y.allow, .int .i64 y.unit, .int .i64 y.cap, .int .i64 y.paidBreak, .int .i64 y.autoAfter, .int .i64 y.autoBreak, .int .i64 y.dayReg, .int .i64 y.dayOver, .int .i64 y.weekReg, .int .i64 y.nightFrom, .int .i64 y.nightTo, .slice q5.ra q5.rl q5.rc, .int .i64 y.diff, .int .i64 y.least, .int .i64 y.fault, .slice q5.ta q5.tl q5.tc] hY setup_big ?_)
          refine (setup_Write y q5 V6 HYS.out).mono ?_
          rintro e7 w7 ⟨a7, n7, c7, B, er7, rfl, hw7, hr7, -, k7⟩
          rw [writeP_yes HCY.out] at hw7
          simp only [Prod.mk.injEq] at hw7
          obtain ⟨rfl, rfl⟩ := hw7
          have HR7 := Lib.hid hr7
          clear hr7
          replace BB := BB.trans (k7.mono BB.size)
          replace hA := box_keep k7 hA (block_lt hA)
          replace hX := box_keep k7 hX (block_lt hX)
          replace hY := box_keep k7 hY (block_lt hY)
          replace HS := Lib.hid (HS.out.below k7)
          replace HXS := Lib.hid (HXS.out.below k7)
          replace HYS := Lib.hid (HYS.out.below k7)
          replace HB := Lib.hid (HB.out.below k7)
          clear k7
          go_wp2_with (refine wpList_load_box 30 (.tmp 2) rfl rfl S0 rfl 30 #[.int .i64 s.places, .slice q.wa q.wl q.wc, .int .i64 s.pn, .int .i64 s.pd, .slice q.ea q.el q.ec, .slice q.ca q.cl q.cc, .slice q.ga q.gl q.gc, .int .i64 s.allow, .int .i64 s.unit, .int .i64 s.cap, .int .i64 s.paidBreak, .int .i64 s.autoAfter, .int .i64 s.autoBreak, .int .i64 s.dayReg, .int .i64 s.dayOver, .int .i64 s.weekReg, .int .i64 s.nightFrom, .int .i64 s.nightTo, .slice q.ra q.rl q.rc, .int .i64 s.diff, .int .i64 s.least, .int .i64 s.fault, .slice q.ta q.tl q.tc] hA setup_big ?_)
          refine (setup_Check s q false w7 HS.out HCS.out).mono ?_
          rintro e8 w8 ⟨rfl, k8⟩
          replace HR7 := Lib.hid (HR7.out.below k8)
          replace BB := BB.trans (k8.mono BB.size)
          replace hA := box_keep k8 hA (block_lt hA)
          replace hX := box_keep k8 hX (block_lt hX)
          replace hY := box_keep k8 hY (block_lt hY)
          replace HS := Lib.hid (HS.out.below k8)
          replace HXS := Lib.hid (HXS.out.below k8)
          replace HYS := Lib.hid (HYS.out.below k8)
          replace HB := Lib.hid (HB.out.below k8)
          clear k8
          have hc1 := conv_row HR7.out c7
          have hc2 := conv_row HB.out cap
          have hse := str_eq HR7.out.2.2.1 HB.out.2.2.1 HEB.out
          go_wp2_with (refine wpList_load_box 30 (.tmp 10) rfl rfl SY rfl 30 #[.int .i64 y.places, .slice q5.wa q5.wl q5.wc, .int .i64 y.pn, .int .i64 y.pd, .slice q5.ea q5.el q5.ec, .slice q5.ca q5.cl q5.cc, .slice q5.ga q5.gl q5.gc, .int .i64 y.allow, .int .i64 y.unit, .int .i64 y.cap, .int .i64 y.paidBreak, .int .i64 y.autoAfter, .int .i64 y.autoBreak, .int .i64 y.dayReg, .int .i64 y.dayOver, .int .i64 y.weekReg, .int .i64 y.nightFrom, .int .i64 y.nightTo, .slice q5.ra q5.rl q5.rc, .int .i64 y.diff, .int .i64 y.least, .int .i64 y.fault, .slice q5.ta q5.tl q5.tc] hY setup_big ?_)
          refine (setup_Check y q5 true w8 HYS.out HCY.out).mono ?_
          rintro e9 w9 ⟨rfl, k9⟩
          go_wp2_with fail
          go_ret
          exact ⟨rfl, BB.trans (k9.mono BB.size)⟩
        · skip
          go_wp2_with (refine wpList_load_box 30 (.tmp 2) rfl rfl S0 rfl 30 #[.int .i64 s.places, .slice q.wa q.wl q.wc, .int .i64 s.pn, .int .i64 s.pd, .slice q.ea q.el q.ec, .slice q.ca q.cl q.cc, .slice q.ga q.gl q.gc, .int .i64 s.allow, .int .i64 s.unit, .int .i64 s.cap, .int .i64 s.paidBreak, .int .i64 s.autoAfter, .int .i64 s.autoBreak, .int .i64 s.dayReg, .int .i64 s.dayOver, .int .i64 s.weekReg, .int .i64 s.nightFrom, .int .i64 s.nightTo, .slice q.ra q.rl q.rc, .int .i64 s.diff, .int .i64 s.least, .int .i64 s.fault, .slice q.ta q.tl q.tc] hA setup_big ?_)
          refine (setup_Write s q w3 HS.out).mono ?_
          rintro e4 w4 ⟨a, n, c, A, er, rfl, hw1, hr1, hnc, k4⟩
          rw [writeP_yes HCS.out] at hw1
          simp only [Prod.mk.injEq] at hw1
          obtain ⟨rfl, rfl⟩ := hw1
          have hle := setup_bytes_le HCS.out
          have hps := bytes_pos s
          have hln := hr1.1
          have HRA := Lib.hid hr1
          have HLT := Lib.hid (row_lt hr1 (by omega))
          clear hr1
          replace BB := BB.trans (k4.mono BB.size)
          replace hA := box_keep k4 hA (block_lt hA)
          replace HS := Lib.hid (HS.out.below k4)
          replace HB := Lib.hid (HB.out.below k4)
          clear k4
          go_wp2_with fail
          refine (setup_Read a n c _ w4 HRA.out (by omega) hnc HLT.out).mono ?_
          rintro e5 w5 ⟨x, q4, er4, rfl, hrd, hx, k5⟩
          rw [write_read HCS.out] at hrd
          simp only [Prod.mk.injEq] at hrd
          obtain ⟨rfl, rfl⟩ := hrd
          clear HRA HLT
          have HXS := Lib.hid hx
          clear hx
          replace BB := BB.trans (k5.mono BB.size)
          replace hA := box_keep k5 hA (block_lt hA)
          replace HS := Lib.hid (HS.out.below k5)
          replace HB := Lib.hid (HB.out.below k5)
          clear k5
          go_upto_region 6 with (refine wpList_store_new _ _ _ rfl 30 (.tmp 8) (.tmp 33) rfl #[.int .i64 s.places, .slice q4.wa q4.wl q4.wc, .int .i64 s.pn, .int .i64 s.pd, .slice q4.ea q4.el q4.ec, .slice q4.ca q4.cl q4.cc, .slice q4.ga q4.gl q4.gc, .int .i64 s.allow, .int .i64 s.unit, .int .i64 s.cap, .int .i64 s.paidBreak, .int .i64 s.autoAfter, .int .i64 s.autoBreak, .int .i64 s.dayReg, .int .i64 s.dayOver, .int .i64 s.weekReg, .int .i64 s.nightFrom, .int .i64 s.nightTo, .slice q4.ra q4.rl q4.rc, .int .i64 s.diff, .int .i64 s.least, .int .i64 s.fault, .slice q4.ta q4.tl q4.tc] w5.heap.size rfl rfl rfl rfl setup_size (by kernel_rfl) ?_)
          refine gen_code (S := fun V => V.heap[w5.heap.size]? = some (.cells #[.int .i64 s.places, .slice q4.wa q4.wl q4.wc, .int .i64 s.pn, .int .i64 s.pd, .slice q4.ea q4.el q4.ec, .slice q4.ca q4.cl q4.cc, .slice q4.ga q4.gl q4.gc, .int .i64 s.allow, .int .i64 s.unit, .int .i64 s.cap, .int .i64 s.paidBreak, .int .i64 s.autoAfter, .int .i64 s.autoBreak, .int .i64 s.dayReg, .int .i64 s.dayOver, .int .i64 s.weekReg, .int .i64 s.nightFrom, .int .i64 s.nightTo, .slice q4.ra q4.rl q4.rc, .int .i64 s.diff, .int .i64 s.least, .int .i64 s.fault, .slice q4.ta q4.tl q4.tc] 30) ∧ V.heap[S0]? = some (.cells #[.int .i64 s.places, .slice q.wa q.wl q.wc, .int .i64 s.pn, .int .i64 s.pd, .slice q.ea q.el q.ec, .slice q.ca q.cl q.cc, .slice q.ga q.gl q.gc, .int .i64 s.allow, .int .i64 s.unit, .int .i64 s.cap, .int .i64 s.paidBreak, .int .i64 s.autoAfter, .int .i64 s.autoBreak, .int .i64 s.dayReg, .int .i64 s.dayOver, .int .i64 s.weekReg, .int .i64 s.nightFrom, .int .i64 s.nightTo, .slice q.ra q.rl q.rc, .int .i64 s.diff, .int .i64 s.least, .int .i64 s.fault, .slice q.ta q.tl q.tc] 30) ∧ SetupIs V s q ∧ SetupIs V s q4 ∧ Row8 V a0 len bs ∧ Below w.heap.size w V) ⟨box_new _ _ rfl _ _, box_keep (B := w5.heap.size) (by go_grown) hA (block_lt hA), HS.out.below (by go_grown), HXS.out.below (by go_grown), HB.out.below (by go_grown), BB.alloc BB.size _⟩ (fun V5 hV => ?_)
          clear hA HS HXS HB BB
          generalize w5.heap.size = SX at *
          obtain ⟨hX, hA, h1, h2, h3, BB⟩ := hV
          have HS := Lib.hid h1
          have HXS := Lib.hid h2
          have HB := Lib.hid h3
          clear h1 h2 h3
          have hblk5 : ∀ b o, a0 = some ⟨b, o, none⟩ → b < V5.heap.size := fun b o h => Nat.lt_of_lt_of_le (HBLK.out b o h) BB.size
          have HBL := Lib.hid hblk5
          clear hblk5
          go_wp2_with fail
          refine (setup_Read a0 len cap bs V5 HB.out (by omega) hcap HBL.out).mono ?_
          rintro e6 w6 ⟨y6, q5, er5, rfl, hrd, hy, k6⟩
          rw [HRC.out] at hrd
          simp only [Prod.mk.injEq] at hrd
          obtain ⟨rfl, rfl⟩ := hrd
          have HYS := Lib.hid hy
          clear hy HBL
          replace BB := BB.trans (k6.mono BB.size)
          replace hA := box_keep k6 hA (block_lt hA)
          replace hX := box_keep k6 hX (block_lt hX)
          replace HS := Lib.hid (HS.out.below k6)
          replace HXS := Lib.hid (HXS.out.below k6)
          replace HB := Lib.hid (HB.out.below k6)
          clear k6
          go_upto_region 7 with (refine wpList_store_new _ _ _ rfl 30 (.tmp 10) (.tmp 38) rfl #[.int .i64 y.places, .slice q5.wa q5.wl q5.wc, .int .i64 y.pn, .int .i64 y.pd, .slice q5.ea q5.el q5.ec, .slice q5.ca q5.cl q5.cc, .slice q5.ga q5.gl q5.gc, .int .i64 y.allow, .int .i64 y.unit, .int .i64 y.cap, .int .i64 y.paidBreak, .int .i64 y.autoAfter, .int .i64 y.autoBreak, .int .i64 y.dayReg, .int .i64 y.dayOver, .int .i64 y.weekReg, .int .i64 y.nightFrom, .int .i64 y.nightTo, .slice q5.ra q5.rl q5.rc, .int .i64 y.diff, .int .i64 y.least, .int .i64 y.fault, .slice q5.ta q5.tl q5.tc] w6.heap.size rfl rfl rfl rfl setup_size (by kernel_rfl) ?_)
          refine gen_code (S := fun V => V.heap[w6.heap.size]? = some (.cells #[.int .i64 y.places, .slice q5.wa q5.wl q5.wc, .int .i64 y.pn, .int .i64 y.pd, .slice q5.ea q5.el q5.ec, .slice q5.ca q5.cl q5.cc, .slice q5.ga q5.gl q5.gc, .int .i64 y.allow, .int .i64 y.unit, .int .i64 y.cap, .int .i64 y.paidBreak, .int .i64 y.autoAfter, .int .i64 y.autoBreak, .int .i64 y.dayReg, .int .i64 y.dayOver, .int .i64 y.weekReg, .int .i64 y.nightFrom, .int .i64 y.nightTo, .slice q5.ra q5.rl q5.rc, .int .i64 y.diff, .int .i64 y.least, .int .i64 y.fault, .slice q5.ta q5.tl q5.tc] 30) ∧ V.heap[SX]? = some (.cells #[.int .i64 s.places, .slice q4.wa q4.wl q4.wc, .int .i64 s.pn, .int .i64 s.pd, .slice q4.ea q4.el q4.ec, .slice q4.ca q4.cl q4.cc, .slice q4.ga q4.gl q4.gc, .int .i64 s.allow, .int .i64 s.unit, .int .i64 s.cap, .int .i64 s.paidBreak, .int .i64 s.autoAfter, .int .i64 s.autoBreak, .int .i64 s.dayReg, .int .i64 s.dayOver, .int .i64 s.weekReg, .int .i64 s.nightFrom, .int .i64 s.nightTo, .slice q4.ra q4.rl q4.rc, .int .i64 s.diff, .int .i64 s.least, .int .i64 s.fault, .slice q4.ta q4.tl q4.tc] 30) ∧ V.heap[S0]? = some (.cells #[.int .i64 s.places, .slice q.wa q.wl q.wc, .int .i64 s.pn, .int .i64 s.pd, .slice q.ea q.el q.ec, .slice q.ca q.cl q.cc, .slice q.ga q.gl q.gc, .int .i64 s.allow, .int .i64 s.unit, .int .i64 s.cap, .int .i64 s.paidBreak, .int .i64 s.autoAfter, .int .i64 s.autoBreak, .int .i64 s.dayReg, .int .i64 s.dayOver, .int .i64 s.weekReg, .int .i64 s.nightFrom, .int .i64 s.nightTo, .slice q.ra q.rl q.rc, .int .i64 s.diff, .int .i64 s.least, .int .i64 s.fault, .slice q.ta q.tl q.tc] 30) ∧ SetupIs V s q ∧ SetupIs V s q4 ∧ SetupIs V y q5 ∧ Row8 V a0 len bs ∧ Below w.heap.size w V) ⟨box_new _ _ rfl _ _, box_keep (B := w6.heap.size) (by go_grown) hX (block_lt hX), box_keep (B := w6.heap.size) (by go_grown) hA (block_lt hA), HS.out.below (by go_grown), HXS.out.below (by go_grown), HYS.out.below (by go_grown), HB.out.below (by go_grown), BB.alloc BB.size _⟩ (fun V6 hV => ?_)
          clear hA hX HS HXS HYS HB BB
          generalize w6.heap.size = SY at *
          obtain ⟨hY, hX, hA, h1, h2, h4, h3, BB⟩ := hV
          have HS := Lib.hid h1
          have HXS := Lib.hid h2
          have HYS := Lib.hid h4
          have HB := Lib.hid h3
          clear h1 h2 h3 h4
          go_wp2_with (refine wpList_load_box 30 (.tmp 10) rfl rfl SY rfl 30 #[.int .i64 y.places, .slice q5.wa q5.wl q5.wc, .int .i64 y.pn, .int .i64 y.pd, .slice q5.ea q5.el q5.ec, .slice q5.ca q5.cl q5.cc, .slice q5.ga q5.gl q5.gc, .int .i64 y.allow, .int .i64 y.unit, .int .i64 y.cap, .int .i64 y.paidBreak, .int .i64 y.autoAfter, .int .i64 y.autoBreak, .int .i64 y.dayReg, .int .i64 y.dayOver, .int .i64 y.weekReg, .int .i64 y.nightFrom, .int .i64 y.nightTo, .slice q5.ra q5.rl q5.rc, .int .i64 y.diff, .int .i64 y.least, .int .i64 y.fault, .slice q5.ta q5.tl q5.tc] hY setup_big ?_)
          refine (setup_Write y q5 V6 HYS.out).mono ?_
          rintro e7 w7 ⟨a7, n7, c7, B, er7, rfl, hw7, hr7, -, k7⟩
          rw [writeP_yes HCY.out] at hw7
          simp only [Prod.mk.injEq] at hw7
          obtain ⟨rfl, rfl⟩ := hw7
          have HR7 := Lib.hid hr7
          clear hr7
          replace BB := BB.trans (k7.mono BB.size)
          replace hA := box_keep k7 hA (block_lt hA)
          replace hX := box_keep k7 hX (block_lt hX)
          replace hY := box_keep k7 hY (block_lt hY)
          replace HS := Lib.hid (HS.out.below k7)
          replace HXS := Lib.hid (HXS.out.below k7)
          replace HYS := Lib.hid (HYS.out.below k7)
          replace HB := Lib.hid (HB.out.below k7)
          clear k7
          go_wp2_with (first | (refine wpList_load_box 30 (.tmp 8) rfl rfl SX rfl 30 #[.int .i64 s.places, .slice q4.wa q4.wl q4.wc, .int .i64 s.pn, .int .i64 s.pd, .slice q4.ea q4.el q4.ec, .slice q4.ca q4.cl q4.cc, .slice q4.ga q4.gl q4.gc, .int .i64 s.allow, .int .i64 s.unit, .int .i64 s.cap, .int .i64 s.paidBreak, .int .i64 s.autoAfter, .int .i64 s.autoBreak, .int .i64 s.dayReg, .int .i64 s.dayOver, .int .i64 s.weekReg, .int .i64 s.nightFrom, .int .i64 s.nightTo, .slice q4.ra q4.rl q4.rc, .int .i64 s.diff, .int .i64 s.least, .int .i64 s.fault, .slice q4.ta q4.tl q4.tc] hX setup_big ?_) | (refine wpList_load_box 30 (.tmp 2) rfl rfl S0 rfl 30 #[.int .i64 s.places, .slice q.wa q.wl q.wc, .int .i64 s.pn, .int .i64 s.pd, .slice q.ea q.el q.ec, .slice q.ca q.cl q.cc, .slice q.ga q.gl q.gc, .int .i64 s.allow, .int .i64 s.unit, .int .i64 s.cap, .int .i64 s.paidBreak, .int .i64 s.autoAfter, .int .i64 s.autoBreak, .int .i64 s.dayReg, .int .i64 s.dayOver, .int .i64 s.weekReg, .int .i64 s.nightFrom, .int .i64 s.nightTo, .slice q.ra q.rl q.rc, .int .i64 s.diff, .int .i64 s.least, .int .i64 s.fault, .slice q.ta q.tl q.tc] hA setup_big ?_))
          refine (ref7_Same s s q4 q true w7 HXS.out HS.out HF.out HF.out (decide_eq_true rfl)).mono ?_
          rintro e8 w8 ⟨rfl, k8⟩
          replace HR7 := Lib.hid (HR7.out.below k8)
          replace BB := BB.trans (k8.mono BB.size)
          replace hA := box_keep k8 hA (block_lt hA)
          replace hX := box_keep k8 hX (block_lt hX)
          replace hY := box_keep k8 hY (block_lt hY)
          replace HS := Lib.hid (HS.out.below k8)
          replace HXS := Lib.hid (HXS.out.below k8)
          replace HYS := Lib.hid (HYS.out.below k8)
          replace HB := Lib.hid (HB.out.below k8)
          clear k8
          have hc1 := conv_row HR7.out c7
          have hc2 := conv_row HB.out cap
          have hse := str_eq HR7.out.2.2.1 HB.out.2.2.1 HEB.out
          go_wp2_with (refine wpList_load_box 30 (.tmp 10) rfl rfl SY rfl 30 #[.int .i64 y.places, .slice q5.wa q5.wl q5.wc, .int .i64 y.pn, .int .i64 y.pd, .slice q5.ea q5.el q5.ec, .slice q5.ca q5.cl q5.cc, .slice q5.ga q5.gl q5.gc, .int .i64 y.allow, .int .i64 y.unit, .int .i64 y.cap, .int .i64 y.paidBreak, .int .i64 y.autoAfter, .int .i64 y.autoBreak, .int .i64 y.dayReg, .int .i64 y.dayOver, .int .i64 y.weekReg, .int .i64 y.nightFrom, .int .i64 y.nightTo, .slice q5.ra q5.rl q5.rc, .int .i64 y.diff, .int .i64 y.least, .int .i64 y.fault, .slice q5.ta q5.tl q5.tc] hY setup_big ?_)
          refine (setup_Check y q5 true w8 HYS.out HCY.out).mono ?_
          rintro e9 w9 ⟨rfl, k9⟩
          go_wp2_with fail
          go_ret
          exact ⟨rfl, BB.trans (k9.mono BB.size)⟩
end Go.Proofs.Ytnjckaifgmliaaa

/- THE WALK of SetupTells: whether a setup may be, its bytes, and the setup of bytes, are what the document says. -/

namespace Go.Proofs.Ytnjckaifgmliaaa
open Go.RowKit Lu

set_option maxRecDepth 100000 in
set_option maxHeartbeats 8000000 in
theorem setupTells_walk (s : Setup) (q : Slices) (a0 : Option Addr) (len cap : Nat) (bs : List Int) (w : World) (hs : SetupIs w s q) (hb : Row8 w a0 len bs) (hcap : len ≤ cap) (hblk : ∀ b o, a0 = some ⟨b, o, none⟩ → b < w.heap.size) :
    Calls Try.prog 3 #[.agg #[.int .i64 s.places, .slice q.wa q.wl q.wc, .int .i64 s.pn, .int .i64 s.pd, .slice q.ea q.el q.ec, .slice q.ca q.cl q.cc, .slice q.ga q.gl q.gc, .int .i64 s.allow, .int .i64 s.unit, .int .i64 s.cap, .int .i64 s.paidBreak, .int .i64 s.autoAfter, .int .i64 s.autoBreak, .int .i64 s.dayReg, .int .i64 s.dayOver, .int .i64 s.weekReg, .int .i64 s.nightFrom, .int .i64 s.nightTo, .slice q.ra q.rl q.rc, .int .i64 s.diff, .int .i64 s.least, .int .i64 s.fault, .slice q.ta q.tl q.tc], .slice a0 len cap] w fun e w' => e = .returned (.bool true) ∧ Below w.heap.size w w' := by
  have BB : Below w.heap.size w (w.alloc (.cells #[.int .i64 s.places, .slice q.wa q.wl q.wc, .int .i64 s.pn, .int .i64 s.pd, .slice q.ea q.el q.ec, .slice q.ca q.cl q.cc, .slice q.ga q.gl q.gc, .int .i64 s.allow, .int .i64 s.unit, .int .i64 s.cap, .int .i64 s.paidBreak, .int .i64 s.autoAfter, .int .i64 s.autoBreak, .int .i64 s.dayReg, .int .i64 s.dayOver, .int .i64 s.weekReg, .int .i64 s.nightFrom, .int .i64 s.nightTo, .slice q.ra q.rl q.rc, .int .i64 s.diff, .int .i64 s.least, .int .i64 s.fault, .slice q.ta q.tl q.tc] 30)) := by go_grown
  have hA : (w.alloc (.cells #[.int .i64 s.places, .slice q.wa q.wl q.wc, .int .i64 s.pn, .int .i64 s.pd, .slice q.ea q.el q.ec, .slice q.ca q.cl q.cc, .slice q.ga q.gl q.gc, .int .i64 s.allow, .int .i64 s.unit, .int .i64 s.cap, .int .i64 s.paidBreak, .int .i64 s.autoAfter, .int .i64 s.autoBreak, .int .i64 s.dayReg, .int .i64 s.dayOver, .int .i64 s.weekReg, .int .i64 s.nightFrom, .int .i64 s.nightTo, .slice q.ra q.rl q.rc, .int .i64 s.diff, .int .i64 s.least, .int .i64 s.fault, .slice q.ta q.tl q.tc] 30)).heap[w.heap.size]? = some (.cells #[.int .i64 s.places, .slice q.wa q.wl q.wc, .int .i64 s.pn, .int .i64 s.pd, .slice q.ea q.el q.ec, .slice q.ca q.cl q.cc, .slice q.ga q.gl q.gc, .int .i64 s.allow, .int .i64 s.unit, .int .i64 s.cap, .int .i64 s.paidBreak, .int .i64 s.autoAfter, .int .i64 s.autoBreak, .int .i64 s.dayReg, .int .i64 s.dayOver, .int .i64 s.weekReg, .int .i64 s.nightFrom, .int .i64 s.nightTo, .slice q.ra q.rl q.rc, .int .i64 s.diff, .int .i64 s.least, .int .i64 s.fault, .slice q.ta q.tl q.tc] 30) := box_new w _ rfl _ _
  have HS := Lib.hid (hs.below BB)
  have HB := Lib.hid (hb.below BB)
  have HBLK := Lib.hid hblk
  have hlmax := hb.2.1
  obtain ⟨f, hf⟩ : ∃ f, fewP s = f := ⟨_, rfl⟩
  obtain ⟨cs, hcs⟩ : ∃ c, setupP s = c := ⟨_, rfl⟩
  have HF := Lib.hid hf
  have HCS := Lib.hid hcs
  have hfx : fewP (readP bs).1 = true := by
    rcases readP_cases bs with h | ⟨y, h, hy⟩
    · rw [h]; decide +kernel
    · rw [h]; exact few_of hy
  obtain ⟨⟨x, g⟩, hrc⟩ : ∃ p, readP bs = p := ⟨_, rfl⟩
  rw [hrc] at hfx
  have HFX := Lib.hid hfx
  have HRC := Lib.hid hrc
  clear hf hcs hs hb hblk hfx hrc
  go_enter Try.func3, Try.ntmps3
  go_wp2_with fail
  refine (awake7 _).mono ?_
  rintro e1 w1 ⟨rfl, k1⟩
  replace BB := BB.trans (k1.mono BB.size)
  replace hA := box_keep k1 hA (block_lt hA)
  replace HS := Lib.hid (HS.out.below k1)
  replace HB := Lib.hid (HB.out.below k1)
  clear k1
  obtain ⟨S0, hS0⟩ : ∃ S, w.heap.size = S := ⟨_, rfl⟩
  have HS0 := Lib.hid hS0
  rw [hS0] at hA ⊢
  clear hS0
  go_wp2_with (refine wpList_load_box 30 (.tmp 2) rfl rfl S0 rfl 30 #[.int .i64 s.places, .slice q.wa q.wl q.wc, .int .i64 s.pn, .int .i64 s.pd, .slice q.ea q.el q.ec, .slice q.ca q.cl q.cc, .slice q.ga q.gl q.gc, .int .i64 s.allow, .int .i64 s.unit, .int .i64 s.cap, .int .i64 s.paidBreak, .int .i64 s.autoAfter, .int .i64 s.autoBreak, .int .i64 s.dayReg, .int .i64 s.dayOver, .int .i64 s.weekReg, .int .i64 s.nightFrom, .int .i64 s.nightTo, .slice q.ra q.rl q.rc, .int .i64 s.diff, .int .i64 s.least, .int .i64 s.fault, .slice q.ta q.tl q.tc] hA setup_big ?_)
  refine (ref7_Few s q f w1 HS.out HF.out).mono ?_
  rintro e3 w3 ⟨rfl, k3⟩
  replace BB := BB.trans (k3.mono BB.size)
  replace hA := box_keep k3 hA (block_lt hA)
  replace HS := Lib.hid (HS.out.below k3)
  replace HB := Lib.hid (HB.out.below k3)
  clear k3
  cases f
  · go_wp2_with fail
    go_ret
    exact ⟨rfl, BB⟩
  · by_cases hl : 2000 < len
    · have yl : decide ((2000 : Int) < (len : Int)) = true := by rw [decide_eq_true_iff]; omega
      go_wp2_with fail
      go_ret
      exact ⟨rfl, BB⟩
    · have yl : decide ((2000 : Int) < (len : Int)) = false := by rw [decide_eq_false_iff_not]; omega
      go_wp2_with (refine wpList_load_box 30 (.tmp 2) rfl rfl S0 rfl 30 #[.int .i64 s.places, .slice q.wa q.wl q.wc, .int .i64 s.pn, .int .i64 s.pd, .slice q.ea q.el q.ec, .slice q.ca q.cl q.cc, .slice q.ga q.gl q.gc, .int .i64 s.allow, .int .i64 s.unit, .int .i64 s.cap, .int .i64 s.paidBreak, .int .i64 s.autoAfter, .int .i64 s.autoBreak, .int .i64 s.dayReg, .int .i64 s.dayOver, .int .i64 s.weekReg, .int .i64 s.nightFrom, .int .i64 s.nightTo, .slice q.ra q.rl q.rc, .int .i64 s.diff, .int .i64 s.least, .int .i64 s.fault, .slice q.ta q.tl q.tc] hA setup_big ?_)
      refine (setup_Write s q w3 HS.out).mono ?_
      rintro e4 w4 ⟨a, n, c, A, er, rfl, hw1, hr1, hnc, k4⟩
      have HW1 := Lib.hid hw1
      have HRA := Lib.hid hr1
      clear hw1 hr1
      replace BB := BB.trans (k4.mono BB.size)
      replace hA := box_keep k4 hA (block_lt hA)
      replace HS := Lib.hid (HS.out.below k4)
      replace HB := Lib.hid (HB.out.below k4)
      clear k4
      go_wp2_with (refine wpList_load_box 30 (.tmp 2) rfl rfl S0 rfl 30 #[.int .i64 s.places, .slice q.wa q.wl q.wc, .int .i64 s.pn, .int .i64 s.pd, .slice q.ea q.el q.ec, .slice q.ca q.cl q.cc, .slice q.ga q.gl q.gc, .int .i64 s.allow, .int .i64 s.unit, .int .i64 s.cap, .int .i64 s.paidBreak, .int .i64 s.autoAfter, .int .i64 s.autoBreak, .int .i64 s.dayReg, .int .i64 s.dayOver, .int .i64 s.weekReg, .int .i64 s.nightFrom, .int .i64 s.nightTo, .slice q.ra q.rl q.rc, .int .i64 s.diff, .int .i64 s.least, .int .i64 s.fault, .slice q.ta q.tl q.tc] hA setup_big ?_)
      refine (ref7_Write s q w4 HS.out).mono ?_
      rintro e5 w5 ⟨a2, n2, c2, A2, er2, rfl, hw2, hr2, k5⟩
      rw [HW1.out] at hw2
      simp only [Prod.mk.injEq] at hw2
      obtain ⟨rfl, rfl⟩ := hw2
      have HRV := Lib.hid hr2
      clear hr2
      replace BB := BB.trans (k5.mono BB.size)
      replace hA := box_keep k5 hA (block_lt hA)
      replace HS := Lib.hid (HS.out.below k5)
      replace HB := Lib.hid (HB.out.below k5)
      replace HRA := Lib.hid (HRA.out.below k5)
      clear k5
      have hblk5 : ∀ b o, a0 = some ⟨b, o, none⟩ → b < w5.heap.size := fun b o h => Nat.lt_of_lt_of_le (HBLK.out b o h) BB.size
      have HBL := Lib.hid hblk5
      clear hblk5
      go_wp2_with fail
      refine (setup_Read a0 len cap bs w5 HB.out (by omega) hcap HBL.out).mono ?_
      rintro e6 w6 ⟨x6, q4, er4, rfl, hrd, hx, k6⟩
      rw [HRC.out] at hrd
      simp only [Prod.mk.injEq] at hrd
      obtain ⟨rfl, rfl⟩ := hrd
      have HXS := Lib.hid hx
      clear hx HBL
      replace BB := BB.trans (k6.mono BB.size)
      replace hA := box_keep k6 hA (block_lt hA)
      replace HS := Lib.hid (HS.out.below k6)
      replace HB := Lib.hid (HB.out.below k6)
      replace HRA := Lib.hid (HRA.out.below k6)
      replace HRV := Lib.hid (HRV.out.below k6)
      clear k6
      go_upto_region 7 with (refine wpList_store_new _ _ _ rfl 30 (.tmp 10) (.tmp 37) rfl #[.int .i64 x.places, .slice q4.wa q4.wl q4.wc, .int .i64 x.pn, .int .i64 x.pd, .slice q4.ea q4.el q4.ec, .slice q4.ca q4.cl q4.cc, .slice q4.ga q4.gl q4.gc, .int .i64 x.allow, .int .i64 x.unit, .int .i64 x.cap, .int .i64 x.paidBreak, .int .i64 x.autoAfter, .int .i64 x.autoBreak, .int .i64 x.dayReg, .int .i64 x.dayOver, .int .i64 x.weekReg, .int .i64 x.nightFrom, .int .i64 x.nightTo, .slice q4.ra q4.rl q4.rc, .int .i64 x.diff, .int .i64 x.least, .int .i64 x.fault, .slice q4.ta q4.tl q4.tc] w6.heap.size rfl rfl rfl rfl setup_size (by kernel_rfl) ?_)
      refine gen_code (S := fun V => V.heap[w6.heap.size]? = some (.cells #[.int .i64 x.places, .slice q4.wa q4.wl q4.wc, .int .i64 x.pn, .int .i64 x.pd, .slice q4.ea q4.el q4.ec, .slice q4.ca q4.cl q4.cc, .slice q4.ga q4.gl q4.gc, .int .i64 x.allow, .int .i64 x.unit, .int .i64 x.cap, .int .i64 x.paidBreak, .int .i64 x.autoAfter, .int .i64 x.autoBreak, .int .i64 x.dayReg, .int .i64 x.dayOver, .int .i64 x.weekReg, .int .i64 x.nightFrom, .int .i64 x.nightTo, .slice q4.ra q4.rl q4.rc, .int .i64 x.diff, .int .i64 x.least, .int .i64 x.fault, .slice q4.ta q4.tl q4.tc] 30) ∧ V.heap[S0]? = some (.cells #[.int .i64 s.places, .slice q.wa q.wl q.wc, .int .i64 s.pn, .int .i64 s.pd, .slice q.ea q.el q.ec, .slice q.ca q.cl q.cc, .slice q.ga q.gl q.gc, .int .i64 s.allow, .int .i64 s.unit, .int .i64 s.cap, .int .i64 s.paidBreak, .int .i64 s.autoAfter, .int .i64 s.autoBreak, .int .i64 s.dayReg, .int .i64 s.dayOver, .int .i64 s.weekReg, .int .i64 s.nightFrom, .int .i64 s.nightTo, .slice q.ra q.rl q.rc, .int .i64 s.diff, .int .i64 s.least, .int .i64 s.fault, .slice q.ta q.tl q.tc] 30) ∧ SetupIs V s q ∧ SetupIs V x q4 ∧ Row8 V a0 len bs ∧ Row8 V a n A ∧ Row8 V a2 n2 A ∧ Below w.heap.size w V) ⟨box_new _ _ rfl _ _, box_keep (B := w6.heap.size) (by go_grown) hA (block_lt hA), HS.out.below (by go_grown), HXS.out.below (by go_grown), HB.out.below (by go_grown), HRA.out.below (by go_grown), HRV.out.below (by go_grown), BB.alloc BB.size _⟩ (fun V5 hV => ?_)
      clear hA HS HXS HB HRA HRV BB
      generalize w6.heap.size = SX at *
      obtain ⟨hX, hA, h1, h2, h3, h4, h5, BB⟩ := hV
      have HS := Lib.hid h1
      have HXS := Lib.hid h2
      have HB := Lib.hid h3
      have HRA := Lib.hid h4
      have HRV := Lib.hid h5
      clear h1 h2 h3 h4 h5
      have hblk5 : ∀ b o, a0 = some ⟨b, o, none⟩ → b < V5.heap.size := fun b o h => Nat.lt_of_lt_of_le (HBLK.out b o h) BB.size
      have HBL := Lib.hid hblk5
      clear hblk5
      go_wp2_with fail
      refine (ref7_Read a0 len cap bs V5 HB.out (by omega) hcap HBL.out).mono ?_
      rintro e6 w7 ⟨y6, q5, er5, rfl, hrd, hy, k6⟩
      rw [HRC.out] at hrd
      simp only [Prod.mk.injEq] at hrd
      obtain ⟨rfl, rfl⟩ := hrd
      have HYS := Lib.hid hy
      clear hy HBL
      replace BB := BB.trans (k6.mono BB.size)
      replace hA := box_keep k6 hA (block_lt hA)
      replace hX := box_keep k6 hX (block_lt hX)
      replace HS := Lib.hid (HS.out.below k6)
      replace HXS := Lib.hid (HXS.out.below k6)
      replace HB := Lib.hid (HB.out.below k6)
      replace HRA := Lib.hid (HRA.out.below k6)
      replace HRV := Lib.hid (HRV.out.below k6)
      clear k6
      go_upto_region 8 with (refine wpList_store_new _ _ _ rfl 30 (.tmp 12) (.tmp 42) rfl #[.int .i64 x.places, .slice q5.wa q5.wl q5.wc, .int .i64 x.pn, .int .i64 x.pd, .slice q5.ea q5.el q5.ec, .slice q5.ca q5.cl q5.cc, .slice q5.ga q5.gl q5.gc, .int .i64 x.allow, .int .i64 x.unit, .int .i64 x.cap, .int .i64 x.paidBreak, .int .i64 x.autoAfter, .int .i64 x.autoBreak, .int .i64 x.dayReg, .int .i64 x.dayOver, .int .i64 x.weekReg, .int .i64 x.nightFrom, .int .i64 x.nightTo, .slice q5.ra q5.rl q5.rc, .int .i64 x.diff, .int .i64 x.least, .int .i64 x.fault, .slice q5.ta q5.tl q5.tc] w7.heap.size rfl rfl rfl rfl setup_size (by kernel_rfl) ?_)
      refine gen_code (S := fun V => V.heap[w7.heap.size]? = some (.cells #[.int .i64 x.places, .slice q5.wa q5.wl q5.wc, .int .i64 x.pn, .int .i64 x.pd, .slice q5.ea q5.el q5.ec, .slice q5.ca q5.cl q5.cc, .slice q5.ga q5.gl q5.gc, .int .i64 x.allow, .int .i64 x.unit, .int .i64 x.cap, .int .i64 x.paidBreak, .int .i64 x.autoAfter, .int .i64 x.autoBreak, .int .i64 x.dayReg, .int .i64 x.dayOver, .int .i64 x.weekReg, .int .i64 x.nightFrom, .int .i64 x.nightTo, .slice q5.ra q5.rl q5.rc, .int .i64 x.diff, .int .i64 x.least, .int .i64 x.fault, .slice q5.ta q5.tl q5.tc] 30) ∧ V.heap[SX]? = some (.cells #[.int .i64 x.places, .slice q4.wa q4.wl q4.wc, .int .i64 x.pn, .int .i64 x.pd, .slice q4.ea q4.el q4.ec, .slice q4.ca q4.cl q4.cc, .slice q4.ga q4.gl q4.gc, .int .i64 x.allow, .int .i64 x.unit, .int .i64 x.cap, .int .i64 x.paidBreak, .int .i64 x.autoAfter, .int .i64 x.autoBreak, .int .i64 x.dayReg, .int .i64 x.dayOver, .int .i64 x.weekReg, .int .i64 x.nightFrom, .int .i64 x.nightTo, .slice q4.ra q4.rl q4.rc, .int .i64 x.diff, .int .i64 x.least, .int .i64 x.fault, .slice q4.ta q4.tl q4.tc] 30) ∧ V.heap[S0]? = some (.cells #[.int .i64 s.places, .slice q.wa q.wl q.wc, .int .i64 s.pn, .int .i64 s.pd, .slice q.ea q.el q.ec, .slice q.ca q.cl q.cc, .slice q.ga q.gl q.gc, .int .i64 s.allow, .int .i64 s.unit, .int .i64 s.cap, .int .i64 s.paidBreak, .int .i64 s.autoAfter, .int .i64 s.autoBreak, .int .i64 s.dayReg, .int .i64 s.dayOver, .int .i64 s.weekReg, .int .i64 s.nightFrom, .int .i64 s.nightTo, .slice q.ra q.rl q.rc, .int .i64 s.diff, .int .i64 s.least, .int .i64 s.fault, .slice q.ta q.tl q.tc] 30) ∧ SetupIs V s q ∧ SetupIs V x q4 ∧ SetupIs V x q5 ∧ Row8 V a n A ∧ Row8 V a2 n2 A ∧ Below w.heap.size w V) ⟨box_new _ _ rfl _ _, box_keep (B := w7.heap.size) (by go_grown) hX (block_lt hX), box_keep (B := w7.heap.size) (by go_grown) hA (block_lt hA), HS.out.below (by go_grown), HXS.out.below (by go_grown), HYS.out.below (by go_grown), HRA.out.below (by go_grown), HRV.out.below (by go_grown), BB.alloc BB.size _⟩ (fun V6 hV => ?_)
      clear hA hX HS HXS HYS HB HRA HRV BB
      generalize w7.heap.size = SY at *
      obtain ⟨hY, hX, hA, h1, h2, h3, h4, h5, BB⟩ := hV
      have HS := Lib.hid (h1.below (w' := V6.drew) ((Below.refl _ _).drew))
      have HXS := Lib.hid (h2.below (w' := V6.drew) ((Below.refl _ _).drew))
      have HYS := Lib.hid (h3.below (w' := V6.drew) ((Below.refl _ _).drew))
      have HRA := Lib.hid (h4.below (w' := V6.drew) ((Below.refl _ _).drew))
      have HRV := Lib.hid (h5.below (w' := V6.drew) ((Below.refl _ _).drew))
      have hc1 := conv_row HRA.out c
      have hc2 := conv_row HRV.out c2
      have hse := str_eq HRA.out.2.2.1 HRV.out.2.2.1 (b := true) (decide_eq_true rfl)
      clear h1 h2 h3 h4 h5
      replace hA : V6.drew.heap[S0]? = _ := hA
      replace hX : V6.drew.heap[SX]? = _ := hX
      replace hY : V6.drew.heap[SY]? = _ := hY
      replace BB : Below w.heap.size w V6.drew := BB.drew
      refine wp_region_held_drew (S := (fun w' => w'.heap[S0]? = some (.cells #[.int .i64 s.places, .slice q.wa q.wl q.wc, .int .i64 s.pn, .int .i64 s.pd, .slice q.ea q.el q.ec, .slice q.ca q.cl q.cc, .slice q.ga q.gl q.gc, .int .i64 s.allow, .int .i64 s.unit, .int .i64 s.cap, .int .i64 s.paidBreak, .int .i64 s.autoAfter, .int .i64 s.autoBreak, .int .i64 s.dayReg, .int .i64 s.dayOver, .int .i64 s.weekReg, .int .i64 s.nightFrom, .int .i64 s.nightTo, .slice q.ra q.rl q.rc, .int .i64 s.diff, .int .i64 s.least, .int .i64 s.fault, .slice q.ta q.tl q.tc] 30) ∧ w'.heap[SX]? = some (.cells #[.int .i64 x.places, .slice q4.wa q4.wl q4.wc, .int .i64 x.pn, .int .i64 x.pd, .slice q4.ea q4.el q4.ec, .slice q4.ca q4.cl q4.cc, .slice q4.ga q4.gl q4.gc, .int .i64 x.allow, .int .i64 x.unit, .int .i64 x.cap, .int .i64 x.paidBreak, .int .i64 x.autoAfter, .int .i64 x.autoBreak, .int .i64 x.dayReg, .int .i64 x.dayOver, .int .i64 x.weekReg, .int .i64 x.nightFrom, .int .i64 x.nightTo, .slice q4.ra q4.rl q4.rc, .int .i64 x.diff, .int .i64 x.least, .int .i64 x.fault, .slice q4.ta q4.tl q4.tc] 30) ∧ w'.heap[SY]? = some (.cells #[.int .i64 x.places, .slice q5.wa q5.wl q5.wc, .int .i64 x.pn, .int .i64 x.pd, .slice q5.ea q5.el q5.ec, .slice q5.ca q5.cl q5.cc, .slice q5.ga q5.gl q5.gc, .int .i64 x.allow, .int .i64 x.unit, .int .i64 x.cap, .int .i64 x.paidBreak, .int .i64 x.autoAfter, .int .i64 x.autoBreak, .int .i64 x.dayReg, .int .i64 x.dayOver, .int .i64 x.weekReg, .int .i64 x.nightFrom, .int .i64 x.nightTo, .slice q5.ra q5.rl q5.rc, .int .i64 x.diff, .int .i64 x.least, .int .i64 x.fault, .slice q5.ta q5.tl q5.tc] 30) ∧ (convert 31 9 (.slice a n c)).run Try.prog w' = .ok (.string (strOfNums A)) w' ∧ (convert 31 9 (.slice a2 n2 c2)).run Try.prog w' = .ok (.string (strOfNums A)) w')) (by kernel_rfl) ?_ (fun hHeld => ?_)
      · exact ⟨hA, hX, hY, hc1, hc2⟩
      refine wpAnyH_take (i := 0) (oi := ⟨some 44, _, _, _, _, none⟩) (v := ?_) rfl (by kernel_rfl) (by kernel_rfl) (by kernel_rfl) (fun _ _ _ h => h) (Or.inl ⟨by rfl, ?_⟩) (by assumption) ?_
      rotate_left
      · intro wz hSw; (try dsimp only at hSw); go_simp; (try with_reducible rfl)
      try simp only [Act.put, List.setIfInBounds_toArray, List.set_cons_zero, List.set_cons_succ]
      refine wpAnyH_take (i := 1) (oi := ⟨some 45, _, _, _, _, none⟩) (v := ?_) rfl (by kernel_rfl) (by kernel_rfl) (by kernel_rfl) (fun _ _ _ h => h) (Or.inl ⟨by rfl, ?_⟩) (by assumption) ?_
      rotate_left
      · intro wz hSw; (try dsimp only at hSw); go_simp; (try with_reducible rfl)
      try simp only [Act.put, List.setIfInBounds_toArray, List.set_cons_zero, List.set_cons_succ]
      refine wpAnyH_take (i := 2) (oi := ⟨some 46, _, _, _, _, some (1, true)⟩) (v := ?_) rfl (by kernel_rfl) (by kernel_rfl) (by kernel_rfl) (fun _ _ _ h => h) (Or.inl ⟨by rfl, ?_⟩) (by assumption) ?_
      rotate_left
      · intro wz hSw; (try dsimp only at hSw); go_simp; (try with_reducible rfl)
      try simp only [Act.put, List.setIfInBounds_toArray, List.set_cons_zero, List.set_cons_succ]
      refine wpAnyH_take (i := 3) (oi := ⟨some 47, _, _, _, _, some (1, true)⟩) (v := ?_) rfl (by kernel_rfl) (by kernel_rfl) (by kernel_rfl) (fun _ _ _ h => h) (Or.inl ⟨by rfl, ?_⟩) (by assumption) ?_
      rotate_left
      · intro wz hSw; (try dsimp only at hSw); go_simp; (try with_reducible rfl)
      try simp only [Act.put, List.setIfInBounds_toArray, List.set_cons_zero, List.set_cons_succ]
      refine wpAnyH_take (i := 4) (oi := ⟨some 48, _, _, _, _, some (1, true)⟩) (v := ?_) rfl (by kernel_rfl) (by kernel_rfl) (by kernel_rfl) (fun _ _ _ h => h) (Or.inl ⟨by rfl, ?_⟩) (by assumption) ?_
      rotate_left
      · intro wz hSw; (try dsimp only at hSw); go_simp; (try with_reducible rfl)
      try simp only [Act.put, List.setIfInBounds_toArray, List.set_cons_zero, List.set_cons_succ]
      refine wpAnyH_take (i := 5) (oi := ⟨some 49, _, _, _, _, some (1, true)⟩) (v := ?_) rfl (by kernel_rfl) (by kernel_rfl) (by kernel_rfl) (fun _ _ _ h => h) (Or.inl ⟨by rfl, ?_⟩) (by assumption) ?_
      rotate_left
      · intro wz hSw; (try dsimp only at hSw); go_simp; (try with_reducible rfl)
      try simp only [Act.put, List.setIfInBounds_toArray, List.set_cons_zero, List.set_cons_succ]
      refine wpAnyH_take (i := 6) (oi := ⟨some 50, _, _, _, _, some (1, true)⟩) (v := ?_) rfl (by kernel_rfl) (by kernel_rfl) (by kernel_rfl) (fun _ _ _ h => h) (Or.inl ⟨by rfl, ?_⟩) (by assumption) ?_
      rotate_left
      · intro wz hSw; (try dsimp only at hSw); go_simp; (try with_reducible rfl)
      try simp only [Act.put, List.setIfInBounds_toArray, List.set_cons_zero, List.set_cons_succ]
      refine wpAnyH_take (i := 7) (oi := ⟨some 51, _, _, _, _, none⟩) (v := ?_) rfl (by kernel_rfl) (by kernel_rfl) (by kernel_rfl) (fun _ _ _ h => h) (Or.inl ⟨by rfl, ?_⟩) (by assumption) ?_
      rotate_left
      · intro wz hSw; (try dsimp only at hSw); go_simp; (try with_reducible rfl)
      try simp only [Act.put, List.setIfInBounds_toArray, List.set_cons_zero, List.set_cons_succ]
      refine wpAnyH_take (i := 8) (oi := ⟨some 52, _, _, _, _, none⟩) (v := ?_) rfl (by kernel_rfl) (by kernel_rfl) (by kernel_rfl) (fun _ _ _ h => h) (Or.inl ⟨by rfl, ?_⟩) (by assumption) ?_
      rotate_left
      · intro wz hSw; (try dsimp only at hSw); go_simp; (try with_reducible rfl)
      try simp only [Act.put, List.setIfInBounds_toArray, List.set_cons_zero, List.set_cons_succ]
      refine wpAnyH_take (i := 9) (oi := ⟨some 53, _, _, _, _, some (8, true)⟩) (v := ?_) rfl (by kernel_rfl) (by kernel_rfl) (by kernel_rfl) (fun _ _ _ h => h) (Or.inl ⟨by rfl, ?_⟩) (by assumption) ?_
      rotate_left
      · intro wz hSw; (try dsimp only at hSw); go_simp; (try with_reducible rfl)
      try simp only [Act.put, List.setIfInBounds_toArray, List.set_cons_zero, List.set_cons_succ]
      refine wpAnyH_take (i := 10) (oi := ⟨some 54, _, _, _, _, some (8, true)⟩) (v := ?_) rfl (by kernel_rfl) (by kernel_rfl) (by kernel_rfl) (fun _ _ _ h => h) (Or.inl ⟨by rfl, ?_⟩) (by assumption) ?_
      rotate_left
      · intro wz hSw; (try dsimp only at hSw); go_simp; (try with_reducible rfl)
      try simp only [Act.put, List.setIfInBounds_toArray, List.set_cons_zero, List.set_cons_succ]
      refine wpAnyH_take (i := 11) (oi := ⟨some 55, _, _, _, _, some (8, true)⟩) (v := ?_) rfl (by kernel_rfl) (by kernel_rfl) (by kernel_rfl) (fun _ _ _ h => h) (Or.inl ⟨by rfl, ?_⟩) (by assumption) ?_
      rotate_left
      · intro wz hSw; (try dsimp only at hSw); go_simp; (try with_reducible rfl)
      try simp only [Act.put, List.setIfInBounds_toArray, List.set_cons_zero, List.set_cons_succ]
      refine wpAnyH_take (i := 12) (oi := ⟨some 56, _, _, _, _, none⟩) (v := ?_) rfl (by kernel_rfl) (by kernel_rfl) (by kernel_rfl) (fun _ _ _ h => h) (Or.inl ⟨by rfl, ?_⟩) (by assumption) ?_
      rotate_left
      · intro wz hSw; (try dsimp only at hSw); go_simp; (try with_reducible rfl)
      try simp only [Act.put, List.setIfInBounds_toArray, List.set_cons_zero, List.set_cons_succ]
      refine wpAnyH_take (i := 13) (oi := ⟨some 57, _, _, _, _, none⟩) (v := ?_) rfl (by kernel_rfl) (by kernel_rfl) (by kernel_rfl) (fun _ _ _ h => h) (Or.inl ⟨by rfl, ?_⟩) (by assumption) ?_
      rotate_left
      · intro wz hSw; (try dsimp only at hSw); go_simp; (try with_reducible rfl)
      try simp only [Act.put, List.setIfInBounds_toArray, List.set_cons_zero, List.set_cons_succ]
      refine wpAnyH_take (i := 14) (oi := ⟨some 58, _, _, _, _, some (13, true)⟩) (v := _) rfl (by kernel_rfl) (by kernel_rfl) (by kernel_rfl) (fun _ _ _ h => h) (Or.inl ⟨by rfl, runs_load_box 30 (.tmp 10) rfl SX rfl 30 _ (fun _ h => h.2.1) setup_big⟩) (by assumption) ?_
      try simp only [Act.put, List.setIfInBounds_toArray, List.set_cons_zero, List.set_cons_succ]
      refine wpAnyH_take (i := 15) (oi := ⟨some 59, _, _, _, _, some (13, true)⟩) (v := _) rfl (by kernel_rfl) (by kernel_rfl) (by kernel_rfl) (fun _ _ _ h => h) (Or.inl ⟨by rfl, runs_load_box 30 (.tmp 12) rfl SY rfl 30 _ (fun _ h => h.2.2.1) setup_big⟩) (by assumption) ?_
      try simp only [Act.put, List.setIfInBounds_toArray, List.set_cons_zero, List.set_cons_succ]
      refine wpAnyH_ready (rs := [16]) (by kernel_rfl) (by simp) ?_
      refine AllReadyH.cons (o := ⟨some 60, _, _, _, _, some (13, true)⟩) rfl (fun K hK => ?_) AllReadyH.nil
      go_simp
      refine (ref7_Same x x q4 q5 true _ HXS.out HYS.out HFX.out HFX.out (decide_eq_true rfl)).mono ?_
      rintro e8 w8 ⟨rfl, k8⟩
      replace hA := box_keep k8 hA (block_lt hA)
      replace hX := box_keep k8 hX (block_lt hX)
      replace hY := box_keep k8 hY (block_lt hY)
      replace HS := Lib.hid (HS.out.below k8)
      replace HXS := Lib.hid (HXS.out.below k8)
      replace HYS := Lib.hid (HYS.out.below k8)
      replace HRA := Lib.hid (HRA.out.below k8)
      replace HRV := Lib.hid (HRV.out.below k8)
      replace hc1 := conv_row HRA.out c
      replace hc2 := conv_row HRV.out c2
      replace BB := BB.trans (k8.mono BB.size)
      clear k8
      refine hK.out _ _ ?_ (fun hHeld => ?_)
      · exact ⟨hA, hX, hY, hc1, hc2⟩
      clear hK K
      try simp only [Act.put, List.setIfInBounds_toArray, List.set_cons_zero, List.set_cons_succ]
      refine wpAnyH_take (i := 17) (oi := ⟨some 61, _, _, _, _, none⟩) (v := ?_) rfl (by kernel_rfl) (by kernel_rfl) (by kernel_rfl) (fun _ _ _ h => h) (Or.inl ⟨by rfl, ?_⟩) (by assumption) ?_
      rotate_left
      · intro wz hSw; (try dsimp only at hSw); go_simp; (try with_reducible rfl)
      try simp only [Act.put, List.setIfInBounds_toArray, List.set_cons_zero, List.set_cons_succ]
      refine wpAnyH_take (i := 18) (oi := ⟨some 62, _, _, _, _, none⟩) (v := ?_) rfl (by kernel_rfl) (by kernel_rfl) (by kernel_rfl) (fun _ _ _ h => h) (Or.inl ⟨by rfl, ?_⟩) (by assumption) ?_
      rotate_left
      · intro wz hSw; (try dsimp only at hSw); go_simp; (try with_reducible rfl)
      try simp only [Act.put, List.setIfInBounds_toArray, List.set_cons_zero, List.set_cons_succ]
      refine wpAnyH_take (i := 19) (oi := ⟨some 63, _, _, _, _, some (18, true)⟩) (v := ?_) rfl (by kernel_rfl) (by kernel_rfl) (by kernel_rfl) (fun _ _ _ h => h) (Or.inl ⟨by rfl, ?_⟩) (by assumption) ?_
      rotate_left
      · intro wz hSw; (try dsimp only at hSw); go_simp; (try with_reducible rfl)
      try simp only [Act.put, List.setIfInBounds_toArray, List.set_cons_zero, List.set_cons_succ]
      refine wpAnyH_take (i := 20) (oi := ⟨some 64, _, _, _, _, some (18, true)⟩) (v := ?_) rfl (by kernel_rfl) (by kernel_rfl) (by kernel_rfl) (fun _ _ _ h => h) (Or.inl ⟨by rfl, ?_⟩) (by assumption) ?_
      rotate_left
      · intro wz hSw; (try dsimp only at hSw); go_simp; (try with_reducible rfl)
      try simp only [Act.put, List.setIfInBounds_toArray, List.set_cons_zero, List.set_cons_succ]
      refine wpAnyH_take (i := 21) (oi := ⟨some 65, _, _, _, _, some (18, true)⟩) (v := ?_) rfl (by kernel_rfl) (by kernel_rfl) (by kernel_rfl) (fun _ _ _ h => h) (Or.inl ⟨by rfl, ?_⟩) (by assumption) ?_
      rotate_left
      · intro wz hSw; (try dsimp only at hSw); go_simp; (try with_reducible rfl)
      try simp only [Act.put, List.setIfInBounds_toArray, List.set_cons_zero, List.set_cons_succ]
      refine wpAnyH_take (i := 22) (oi := ⟨some 66, _, _, _, _, none⟩) (v := ?_) rfl (by kernel_rfl) (by kernel_rfl) (by kernel_rfl) (fun _ _ _ h => h) (Or.inl ⟨by rfl, ?_⟩) (by assumption) ?_
      rotate_left
      · intro wz hSw; (try dsimp only at hSw); go_simp; (try with_reducible rfl)
      try simp only [Act.put, List.setIfInBounds_toArray, List.set_cons_zero, List.set_cons_succ]
      refine wpAnyH_take (i := 23) (oi := ⟨some 67, _, _, _, _, none⟩) (v := ?_) rfl (by kernel_rfl) (by kernel_rfl) (by kernel_rfl) (fun _ _ _ h => h) (Or.inl ⟨by rfl, ?_⟩) (by assumption) ?_
      rotate_left
      · intro wz hSw; (try dsimp only at hSw); go_simp; (try with_reducible rfl)
      try simp only [Act.put, List.setIfInBounds_toArray, List.set_cons_zero, List.set_cons_succ]
      refine wpAnyH_take (i := 24) (oi := ⟨some 68, _, _, _, _, some (23, true)⟩) (v := _) rfl (by kernel_rfl) (by kernel_rfl) (by kernel_rfl) (fun _ _ _ h => h) (Or.inl ⟨by rfl, runs_load_box 30 (.tmp 2) rfl S0 rfl 30 _ (fun _ h => h.1) setup_big⟩) (by assumption) ?_
      try simp only [Act.put, List.setIfInBounds_toArray, List.set_cons_zero, List.set_cons_succ]
      refine wpAnyH_take (i := 26) (oi := ⟨some 70, _, _, _, _, some (23, true)⟩) (v := _) rfl (by kernel_rfl) (by kernel_rfl) (by kernel_rfl) (fun _ _ _ h => h) (Or.inl ⟨by rfl, runs_load_box 30 (.tmp 2) rfl S0 rfl 30 _ (fun _ h => h.1) setup_big⟩) (by assumption) ?_
      try simp only [Act.put, List.setIfInBounds_toArray, List.set_cons_zero, List.set_cons_succ]
      refine wpAnyH_ready (rs := [25]) (by kernel_rfl) (by simp) ?_
      refine AllReadyH.cons (o := ⟨some 69, _, _, _, _, some (23, true)⟩) rfl (fun K hK => ?_) AllReadyH.nil
      go_simp
      refine (setup_Check s q cs _ HS.out HCS.out).mono ?_
      rintro e9 w9 ⟨rfl, k9⟩
      replace hA := box_keep k9 hA (block_lt hA)
      replace hX := box_keep k9 hX (block_lt hX)
      replace hY := box_keep k9 hY (block_lt hY)
      replace HS := Lib.hid (HS.out.below k9)
      replace HXS := Lib.hid (HXS.out.below k9)
      replace HYS := Lib.hid (HYS.out.below k9)
      replace HRA := Lib.hid (HRA.out.below k9)
      replace HRV := Lib.hid (HRV.out.below k9)
      replace hc1 := conv_row HRA.out c
      replace hc2 := conv_row HRV.out c2
      replace BB := BB.trans (k9.mono BB.size)
      clear k9
      refine hK.out _ _ ?_ (fun hHeld => ?_)
      · exact ⟨hA, hX, hY, hc1, hc2⟩
      clear hK K
      try simp only [Act.put, List.setIfInBounds_toArray, List.set_cons_zero, List.set_cons_succ]
      refine wpAnyH_ready (rs := [27]) (by kernel_rfl) (by simp) ?_
      refine AllReadyH.cons (o := ⟨some 71, _, _, _, _, some (23, true)⟩) rfl (fun K hK => ?_) AllReadyH.nil
      go_simp
      refine (ref7_Check s q cs _ HS.out HCS.out).mono ?_
      rintro e10 w10 ⟨rfl, k10⟩
      replace hA := box_keep k10 hA (block_lt hA)
      replace hX := box_keep k10 hX (block_lt hX)
      replace hY := box_keep k10 hY (block_lt hY)
      replace HS := Lib.hid (HS.out.below k10)
      replace HXS := Lib.hid (HXS.out.below k10)
      replace HYS := Lib.hid (HYS.out.below k10)
      replace HRA := Lib.hid (HRA.out.below k10)
      replace HRV := Lib.hid (HRV.out.below k10)
      replace hc1 := conv_row HRA.out c
      replace hc2 := conv_row HRV.out c2
      replace BB := BB.trans (k10.mono BB.size)
      clear k10
      refine hK.out _ _ ?_ (fun hHeld => ?_)
      · exact ⟨hA, hX, hY, hc1, hc2⟩
      clear hK K
      try simp only [Act.put, List.setIfInBounds_toArray, List.set_cons_zero, List.set_cons_succ]
      refine wpAnyH_take (i := 28) (oi := ⟨some 72, _, _, _, _, some (23, true)⟩) (v := ?_) rfl (by kernel_rfl) (by kernel_rfl) (by kernel_rfl) (fun _ _ _ h => h) (Or.inl ⟨by rfl, ?_⟩) (by assumption) ?_
      rotate_left
      · intro wz hSw; (try dsimp only at hSw); go_simp; (try with_reducible rfl)
      try simp only [Act.put, List.setIfInBounds_toArray, List.set_cons_zero, List.set_cons_succ]
      refine wpAnyH_take (i := 29) (oi := ⟨some 73, _, _, _, _, none⟩) (v := ?_) rfl (by kernel_rfl) (by kernel_rfl) (by kernel_rfl) (fun _ _ _ h => h) (Or.inl ⟨by rfl, ?_⟩) (by assumption) ?_
      rotate_left
      · intro wz hSw; (try dsimp only at hSw); go_simp; (try with_reducible rfl)
      try simp only [Act.put, List.setIfInBounds_toArray, List.set_cons_zero, List.set_cons_succ]
      refine wpAnyH_take (i := 30) (oi := ⟨some 4, _, _, _, _, none⟩) (v := ?_) rfl (by kernel_rfl) (by kernel_rfl) (by kernel_rfl) (fun _ _ _ h => h) (Or.inl ⟨by rfl, ?_⟩) (by assumption) ?_
      rotate_left
      · intro wz hSw; (try dsimp only at hSw); go_simp; (try with_reducible rfl)
      try simp only [Act.put, List.setIfInBounds_toArray, List.set_cons_zero, List.set_cons_succ]
      refine wpAnyH_done (by kernel_rfl) ?_ _
      go_wp2_with fail
      go_ret
      exact ⟨rfl, BB⟩
end Go.Proofs.Ytnjckaifgmliaaa

/- WHAT THE STATEMENTS' FRAMES SHARE: arguments opened into what the walks are told. -/

namespace Go.Proofs.Ytnjckaifgmliaaa
open Go.ChangeShapes Go.WideShapes Go.ChangeAt Go.RowKit Lu

theorem own : ownKnob Try.prog.godebug = none := by kernel_rfl
theorem laidOut : laidOutB Try.prog = true := by kernel_rfl

theorem in_i64 {x : Int} (h : (Lit.int .i64 x).wf = true) : In x := by
  simp [Lit.wf, IntKind.min, IntKind.max, IntKind.signed, IntKind.bits] at h
  exact ⟨by omega, by omega⟩
/-- A slice of ints that came in. -/
theorem open_Ints {H : Type} {enc : TypeId × Value → H} {W : World} {base : Nat} {sp : Nat → Bool} {held : Bool} {a : Option Addr} {len cap : Nat} {d : DataW H} {p : List MemPlace}
    (h : DataW.Trod enc Try.prog W base sp held 27 (.slice a len cap) d p) : ∃ zs, Ints W a len zs := by
  obtain ⟨fuel, hf⟩ := h
  rcases open_ints Try.underlying27 Try.underlying3 (by kernel_rfl) hf with ⟨hcs, _⟩ | ⟨x, l, c, zs, hcs, _, hl, hm, hz, _, hcell, hwz⟩
  · simp [Value.cells] at hcs
    obtain ⟨rfl, rfl, rfl⟩ := hcs
    exact ⟨[], rfl, by decide, by simp, Or.inl rfl⟩
  · simp [Value.cells] at hcs
    obtain ⟨rfl, rfl, rfl⟩ := hcs
    unfold maxLen at hm
    have hz' : len ≤ zs.length := by rw [hz]; split <;> omega
    refine ⟨zs.take len, by rw [List.length_take]; omega, by omega, fun z hz => in_i64 (hwz z (List.mem_of_mem_take hz)), ?_⟩
    by_cases h0 : len = 0
    · exact Or.inl h0
    · right
      obtain ⟨b, off, spot⟩ := x
      have hc := hcell 0 (by omega)
      have hspot : spot = none := by simpa [Addr.add] using World.cell?_spot hc
      subst hspot
      refine ⟨b, off, rfl, fun i hi => ?_⟩
      have := hcell i (by omega)
      rw [Addr.add_lit] at this
      rw [this, List.getD_eq_getElem?_getD, List.getD_eq_getElem?_getD, List.getElem?_take, if_pos hi]

theorem in_i32 {x : Int} (h : (Lit.int .i32 x).wf = true) : -2147483648 ≤ x ∧ x ≤ 2147483647 := by
  simp [Lit.wf, IntKind.min, IntKind.max, IntKind.signed, IntKind.bits] at h
  exact ⟨by omega, by omega⟩
theorem in_u16 {x : Int} (h : (Lit.int .u16 x).wf = true) : 0 ≤ x ∧ x ≤ 65535 := by
  simp [Lit.wf, IntKind.min, IntKind.max, IntKind.signed, IntKind.bits] at h
  exact ⟨by omega, by omega⟩
theorem in_u8 {x : Int} (h : (Lit.int .u8 x).wf = true) : 0 ≤ x ∧ x ≤ 255 := by
  simp [Lit.wf, IntKind.min, IntKind.max, IntKind.signed, IntKind.bits] at h
  exact ⟨by omega, by omega⟩
theorem in_u32 {x : Int} (h : (Lit.int .u32 x).wf = true) : 0 ≤ x ∧ x ≤ 4294967295 := by
  simp [Lit.wf, IntKind.min, IntKind.max, IntKind.signed, IntKind.bits] at h
  exact ⟨by omega, by omega⟩
end Go.Proofs.Ytnjckaifgmliaaa

/- WHAT THE STATEMENTS' FRAMES SHARE: ratios that came in. -/

namespace Go.Proofs.Ytnjckaifgmliaaa
open Go.ChangeShapes Go.WideShapes Go.ChangeAt Go.RowKit Go.Joins Go.Deep Lu

theorem cellsInt : Try.prog.cellsOf 3 = 1 := by kernel_rfl
theorem cellsRatio : Try.prog.cellsOf 24 = 2 := by kernel_rfl
set_option maxRecDepth 100000 in
/-- A ratio that came in. -/
theorem open_Ratio {H : Type} {enc : TypeId × Value → H} {W : World} {b0 base : Nat} {sp : Nat → Bool} {held : Bool} {r : Reach} {v : Value} {d : DataW H} {p : List MemPlace}
    (hv : Value.okWide Try.prog W r b0 24 v) (h : DataW.Trod enc Try.prog W base sp held 24 v d p) : ∃ n m, v = .agg #[.int .i64 n, .int .i64 m] ∧ In n ∧ In m := by
  obtain ⟨c0, c1, y0, y1, m, rfl, _, _, hy0, hy1⟩ := open_agg2 Try.underlying24 (by kernel_rfl) cellsRatio hv h
  obtain ⟨a, e0, _, wa⟩ := DataW.trod_int Try.underlying3 hy0
  obtain ⟨b, e1, _, wb⟩ := DataW.trod_int Try.underlying3 hy1
  simp at e0 e1
  subst e0 e1
  exact ⟨a, b, rfl, in_i64 wa, in_i64 wb⟩
set_option maxRecDepth 100000 in
/-- A slice of ratios that came in. -/
theorem open_Ratios {H : Type} {enc : TypeId × Value → H} {W : World} {base : Nat} {sp : Nat → Bool} {held : Bool} {a : Option Addr} {len cap : Nat} {d : DataW H} {p : List MemPlace}
    (h : DataW.Trod enc Try.prog W base sp held 26 (.slice a len cap) d p) : ∃ rs, Ratios W a len rs := by
  obtain ⟨fuel, hf⟩ := h
  rcases open_slice Try.underlying26 hf with ⟨hcs, _⟩ | ⟨x, l, c, m, n, D, Pl, hcs, hb, hl, hm, hmm, hx, hi⟩
  · simp [Value.cells] at hcs
    obtain ⟨rfl, rfl, rfl⟩ := hcs
    exact ⟨[], rfl, by decide, by simp, Or.inl rfl⟩
  · simp [Value.cells] at hcs
    obtain ⟨rfl, rfl, rfl⟩ := hcs
    unfold maxLen at hm
    have hlm : len ≤ m := by rw [hmm]; split <;> omega
    have each : ∀ i, ∃ r : Int × Int, i < len → In r.1 ∧ In r.2 ∧ W.cell? (x.add (i * 2)) = some (.int .i64 r.1) ∧ W.cell? (x.add (i * 2 + 1)) = some (.int .i64 r.2) := by
      intro i
      by_cases hlt : i < len
      · obtain ⟨cs, hc, ht⟩ := hi i (by omega)
        rw [cellsRatio] at hc
        obtain ⟨ys, k, _, _, hlen, hyl, hfs⟩ := DataW.trod_struct Try.underlying24 ht
        obtain ⟨_, hcl, hat⟩ := World.cells?_some hc
        match cs, hcl with
        | [c0, c1], _ =>
          have f0 : DataW.trod enc Try.prog W base sp held k 3 [c0] = ys[0]? := by have := hfs 0 _ rfl; simpa [cellsInt] using this
          have f1 : DataW.trod enc Try.prog W base sp held k 3 [c1] = ys[1]? := by have := hfs 1 _ rfl; simpa [cellsInt] using this
          have g0 : ys[0]? = some (ys[0]'(by rw [hyl]; decide)) := List.getElem?_eq_getElem _
          have g1 : ys[1]? = some (ys[1]'(by rw [hyl]; decide)) := List.getElem?_eq_getElem _
          rw [g0] at f0
          rw [g1] at f1
          obtain ⟨u, e0, _, wu⟩ := DataW.trod_int Try.underlying3 f0
          obtain ⟨v, e1, _, wv⟩ := DataW.trod_int Try.underlying3 f1
          simp at e0 e1
          subst e0 e1
          refine ⟨(u, v), fun _ => ⟨in_i64 wu, in_i64 wv, ?_, ?_⟩⟩
          · have := hat 0 (by decide)
            rw [add_add] at this
            exact this
          · have := hat 1 (by decide)
            rw [add_add] at this
            exact this
      · exact ⟨(0, 0), fun h => absurd h hlt⟩
    obtain ⟨f, hf'⟩ := Classical.axiomOfChoice each
    have hget : ∀ i, i < len → ((List.range len).map f).getD i (0, 0) = f i := by
      intro i hlt
      rw [List.getD_eq_getElem?_getD, List.getElem?_map, List.getElem?_range hlt]
      rfl
    refine ⟨(List.range len).map f, by simp, by omega, ?_, ?_⟩
    · intro r hr
      obtain ⟨i, hi', rfl⟩ := List.mem_map.1 hr
      have := hf' i (List.mem_range.1 hi')
      exact ⟨this.1, this.2.1⟩
    · by_cases h0 : len = 0
      · exact Or.inl h0
      · right
        obtain ⟨b, off, spot⟩ := x
        have hc := (hf' 0 (by omega)).2.2.1
        have hspot : spot = none := by simpa [Addr.add] using World.cell?_spot hc
        subst hspot
        have hblk : b < W.heap.size := by
          have := World.block_lt_of_cell? W _ hc
          simpa [Addr.add] using this
        refine ⟨b, off, rfl, hblk, fun i hlt => ?_⟩
        have := hf' i hlt
        rw [hget i hlt]
        rw [Addr.add_lit, Addr.add_lit] at this
        exact ⟨this.2.2.1, by rw [Nat.add_assoc]; exact this.2.2.2⟩
end Go.Proofs.Ytnjckaifgmliaaa

/- WHAT THE STATEMENTS' FRAMES SHARE: a setup that came in; seven seconds that came in. -/

namespace Go.Proofs.Ytnjckaifgmliaaa
open Go.ChangeShapes Go.WideShapes Go.ChangeAt Go.RowKit Go.Joins Go.Deep Lu

theorem slice_of {H : Type} {enc : TypeId × Value → H} {W : World} {base fuel : Nat} {sp : Nat → Bool} {held : Bool} {t e : TypeId} {c : Value} {x : DataW H × List MemPlace} (ht : Try.prog.underlying t = some (.slice e))
    (h : DataW.trod enc Try.prog W base sp held fuel t [c] = some x) : ∃ a len cap, c = .slice a len cap := by
  rcases open_slice ht h with ⟨hcs, _⟩ | ⟨a, len, cap, m, n, D, Pl, hcs, _⟩
  · exact ⟨none, 0, 0, by simpa using hcs⟩
  · exact ⟨some a, len, cap, by simpa using hcs⟩


theorem ratio_cells {H : Type} {enc : TypeId × Value → H} {W : World} {base fuel : Nat} {sp : Nat → Bool} {held : Bool} {c0 c1 : Value} {x : DataW H × List MemPlace}
    (h : DataW.trod enc Try.prog W base sp held fuel 24 [c0, c1] = some x) : ∃ u v : Int, c0 = .int .i64 u ∧ c1 = .int .i64 v ∧ (Lit.int .i64 u).wf = true ∧ (Lit.int .i64 v).wf = true := by
  obtain ⟨ys, k, _, _, hlen, hyl, hfs⟩ := DataW.trod_struct Try.underlying24 h
  have f0 : DataW.trod enc Try.prog W base sp held k 3 [c0] = ys[0]? := by have := hfs 0 _ rfl; simpa [cellsInt] using this
  have f1 : DataW.trod enc Try.prog W base sp held k 3 [c1] = ys[1]? := by have := hfs 1 _ rfl; simpa [cellsInt] using this
  have g0 : ys[0]? = some (ys[0]'(by rw [hyl]; decide)) := List.getElem?_eq_getElem _
  have g1 : ys[1]? = some (ys[1]'(by rw [hyl]; decide)) := List.getElem?_eq_getElem _
  rw [g0] at f0
  rw [g1] at f1
  obtain ⟨u, e0, _, wu⟩ := DataW.trod_int Try.underlying3 f0
  obtain ⟨v, e1, _, wv⟩ := DataW.trod_int Try.underlying3 f1
  simp at e0 e1
  exact ⟨u, v, e0, e1, wu, wv⟩


theorem cells_Ways : Try.prog.cellsOf 58 = 3 := by kernel_rfl
set_option maxRecDepth 100000 in
theorem open_Ways {H : Type} {enc : TypeId × Value → H} {W : World} {base : Nat} {sp : Nat → Bool} {held : Bool} {a : Option Addr} {len cap : Nat} {d : DataW H} {p : List MemPlace}
    (h : DataW.Trod enc Try.prog W base sp held 22 (.slice a len cap) d p) : ∃ rs, Recs3 W a len rs := by
  obtain ⟨fuel, hf⟩ := h
  rcases open_slice Try.underlying22 hf with ⟨hcs, _⟩ | ⟨x, l, c, m, n, D, Pl, hcs, hb, hl, hm, hmm, hx, hi⟩
  · simp [Value.cells] at hcs
    obtain ⟨rfl, rfl, rfl⟩ := hcs
    exact ⟨[], rfl, by decide, by simp, Or.inl rfl⟩
  · simp [Value.cells] at hcs
    obtain ⟨rfl, rfl, rfl⟩ := hcs
    unfold maxLen at hm
    have hlm : len ≤ m := by rw [hmm]; split <;> omega
    have each : ∀ i, ∃ r : Int × Int × Int, i < len → In r.1 ∧ In r.2.1 ∧ In r.2.2 ∧ W.cell? (x.add (i * 3)) = some (.int .i64 r.1) ∧ W.cell? (x.add (i * 3 + 1)) = some (.int .i64 r.2.1) ∧ W.cell? (x.add (i * 3 + 2)) = some (.int .i64 r.2.2) := by
      intro i
      by_cases hlt : i < len
      · obtain ⟨cs, hc, ht⟩ := hi i (by omega)
        rw [cells_Ways] at hc
        obtain ⟨ys, k, _, _, hlen, hyl, hfs⟩ := DataW.trod_struct Try.underlying58 ht
        obtain ⟨_, hcl, hat⟩ := World.cells?_some hc
        match cs, hcl with
        | [c0, c1, c2], _ =>
          have f0 : DataW.trod enc Try.prog W base sp held k 3 [c0] = ys[0]? := by have := hfs 0 _ rfl; simpa [cellsInt, cellsRatio] using this
          have g0 : ys[0]? = some (ys[0]'(by rw [hyl]; decide)) := List.getElem?_eq_getElem _
          rw [g0] at f0
          obtain ⟨u0, e0, _, w0⟩ := DataW.trod_int Try.underlying3 f0
          have f1 : DataW.trod enc Try.prog W base sp held k 3 [c1] = ys[1]? := by have := hfs 1 _ rfl; simpa [cellsInt, cellsRatio] using this
          have g1 : ys[1]? = some (ys[1]'(by rw [hyl]; decide)) := List.getElem?_eq_getElem _
          rw [g1] at f1
          obtain ⟨u1, e1, _, w1⟩ := DataW.trod_int Try.underlying3 f1
          have f2 : DataW.trod enc Try.prog W base sp held k 3 [c2] = ys[2]? := by have := hfs 2 _ rfl; simpa [cellsInt, cellsRatio] using this
          have g2 : ys[2]? = some (ys[2]'(by rw [hyl]; decide)) := List.getElem?_eq_getElem _
          rw [g2] at f2
          obtain ⟨u2, e2, _, w2⟩ := DataW.trod_int Try.underlying3 f2
          simp at e0 e1 e2
          subst e0 e1 e2
          refine ⟨(u0, u1, u2), fun _ => ⟨in_i64 w0, in_i64 w1, in_i64 w2, ?_, ?_, ?_⟩⟩
          · have := hat 0 (by decide)
            rw [add_add] at this
            exact this
          · have := hat 1 (by decide)
            rw [add_add] at this
            exact this
          · have := hat 2 (by decide)
            rw [add_add] at this
            exact this
      · exact ⟨(0, 0, 0), fun h => absurd h hlt⟩
    obtain ⟨f, hf'⟩ := Classical.axiomOfChoice each
    have hget : ∀ i, i < len → ((List.range len).map f).getD i (0, 0, 0) = f i := by
      intro i hlt
      rw [List.getD_eq_getElem?_getD, List.getElem?_map, List.getElem?_range hlt]
      rfl
    refine ⟨(List.range len).map f, by simp, by omega, ?_, ?_⟩
    · intro r hr
      obtain ⟨i, hi', rfl⟩ := List.mem_map.1 hr
      have := hf' i (List.mem_range.1 hi')
      exact ⟨this.1, this.2.1, this.2.2.1⟩
    · by_cases h0 : len = 0
      · exact Or.inl h0
      · right
        obtain ⟨b, off, spot⟩ := x
        have hc := (hf' 0 (by omega)).2.2.2.1
        have hspot : spot = none := by simpa [Addr.add] using World.cell?_spot hc
        subst hspot
        have hblk : b < W.heap.size := by
          have := World.block_lt_of_cell? W _ hc
          simpa [Addr.add] using this
        refine ⟨b, off, rfl, hblk, fun i hlt => ?_⟩
        have := hf' i hlt
        rw [hget i hlt]
        rw [Addr.add_lit, Addr.add_lit, Addr.add_lit] at this
        exact ⟨this.2.2.2.1, by rw [Nat.add_assoc]; exact this.2.2.2.2.1, by rw [Nat.add_assoc]; exact this.2.2.2.2.2⟩


theorem cells_Elements : Try.prog.cellsOf 74 = 4 := by kernel_rfl
set_option maxRecDepth 100000 in
theorem open_Elements {H : Type} {enc : TypeId × Value → H} {W : World} {base : Nat} {sp : Nat → Bool} {held : Bool} {a : Option Addr} {len cap : Nat} {d : DataW H} {p : List MemPlace}
    (h : DataW.Trod enc Try.prog W base sp held 25 (.slice a len cap) d p) : ∃ rs, Recs4 W a len rs := by
  obtain ⟨fuel, hf⟩ := h
  rcases open_slice Try.underlying25 hf with ⟨hcs, _⟩ | ⟨x, l, c, m, n, D, Pl, hcs, hb, hl, hm, hmm, hx, hi⟩
  · simp [Value.cells] at hcs
    obtain ⟨rfl, rfl, rfl⟩ := hcs
    exact ⟨[], rfl, by decide, by simp, Or.inl rfl⟩
  · simp [Value.cells] at hcs
    obtain ⟨rfl, rfl, rfl⟩ := hcs
    unfold maxLen at hm
    have hlm : len ≤ m := by rw [hmm]; split <;> omega
    have each : ∀ i, ∃ r : Int × Int × Int × Int, i < len → In r.1 ∧ In r.2.1 ∧ In r.2.2.1 ∧ In r.2.2.2 ∧ W.cell? (x.add (i * 4)) = some (.int .i64 r.1) ∧ W.cell? (x.add (i * 4 + 1)) = some (.int .i64 r.2.1) ∧ W.cell? (x.add (i * 4 + 2)) = some (.int .i64 r.2.2.1) ∧ W.cell? (x.add (i * 4 + 3)) = some (.int .i64 r.2.2.2) := by
      intro i
      by_cases hlt : i < len
      · obtain ⟨cs, hc, ht⟩ := hi i (by omega)
        rw [cells_Elements] at hc
        obtain ⟨ys, k, _, _, hlen, hyl, hfs⟩ := DataW.trod_struct Try.underlying74 ht
        obtain ⟨_, hcl, hat⟩ := World.cells?_some hc
        match cs, hcl with
        | [c0, c1, c2, c3], _ =>
          have f0 : DataW.trod enc Try.prog W base sp held k 24 [c0, c1] = ys[0]? := by have := hfs 0 _ rfl; simpa [cellsInt, cellsRatio] using this
          have g0 : ys[0]? = some (ys[0]'(by rw [hyl]; decide)) := List.getElem?_eq_getElem _
          rw [g0] at f0
          obtain ⟨u0, u1, e0, e1, w0, w1⟩ := ratio_cells f0
          have f1 : DataW.trod enc Try.prog W base sp held k 24 [c2, c3] = ys[1]? := by have := hfs 1 _ rfl; simpa [cellsInt, cellsRatio] using this
          have g1 : ys[1]? = some (ys[1]'(by rw [hyl]; decide)) := List.getElem?_eq_getElem _
          rw [g1] at f1
          obtain ⟨u2, u3, e2, e3, w2, w3⟩ := ratio_cells f1
          subst e0 e1 e2 e3
          refine ⟨(u0, u1, u2, u3), fun _ => ⟨in_i64 w0, in_i64 w1, in_i64 w2, in_i64 w3, ?_, ?_, ?_, ?_⟩⟩
          · have := hat 0 (by decide)
            rw [add_add] at this
            exact this
          · have := hat 1 (by decide)
            rw [add_add] at this
            exact this
          · have := hat 2 (by decide)
            rw [add_add] at this
            exact this
          · have := hat 3 (by decide)
            rw [add_add] at this
            exact this
      · exact ⟨(0, 0, 0, 0), fun h => absurd h hlt⟩
    obtain ⟨f, hf'⟩ := Classical.axiomOfChoice each
    have hget : ∀ i, i < len → ((List.range len).map f).getD i (0, 0, 0, 0) = f i := by
      intro i hlt
      rw [List.getD_eq_getElem?_getD, List.getElem?_map, List.getElem?_range hlt]
      rfl
    refine ⟨(List.range len).map f, by simp, by omega, ?_, ?_⟩
    · intro r hr
      obtain ⟨i, hi', rfl⟩ := List.mem_map.1 hr
      have := hf' i (List.mem_range.1 hi')
      exact ⟨this.1, this.2.1, this.2.2.1, this.2.2.2.1⟩
    · by_cases h0 : len = 0
      · exact Or.inl h0
      · right
        obtain ⟨b, off, spot⟩ := x
        have hc := (hf' 0 (by omega)).2.2.2.2.1
        have hspot : spot = none := by simpa [Addr.add] using World.cell?_spot hc
        subst hspot
        have hblk : b < W.heap.size := by
          have := World.block_lt_of_cell? W _ hc
          simpa [Addr.add] using this
        refine ⟨b, off, rfl, hblk, fun i hlt => ?_⟩
        have := hf' i hlt
        rw [hget i hlt]
        rw [Addr.add_lit, Addr.add_lit, Addr.add_lit, Addr.add_lit] at this
        exact ⟨this.2.2.2.2.1, by rw [Nat.add_assoc]; exact this.2.2.2.2.2.1, by rw [Nat.add_assoc]; exact this.2.2.2.2.2.2.1, by rw [Nat.add_assoc]; exact this.2.2.2.2.2.2.2⟩


theorem cells_Tiers : Try.prog.cellsOf 76 = 2 := by kernel_rfl
set_option maxRecDepth 100000 in
theorem open_Tiers {H : Type} {enc : TypeId × Value → H} {W : World} {base : Nat} {sp : Nat → Bool} {held : Bool} {a : Option Addr} {len cap : Nat} {d : DataW H} {p : List MemPlace}
    (h : DataW.Trod enc Try.prog W base sp held 28 (.slice a len cap) d p) : ∃ rs, Ratios W a len rs := by
  obtain ⟨fuel, hf⟩ := h
  rcases open_slice Try.underlying28 hf with ⟨hcs, _⟩ | ⟨x, l, c, m, n, D, Pl, hcs, hb, hl, hm, hmm, hx, hi⟩
  · simp [Value.cells] at hcs
    obtain ⟨rfl, rfl, rfl⟩ := hcs
    exact ⟨[], rfl, by decide, by simp, Or.inl rfl⟩
  · simp [Value.cells] at hcs
    obtain ⟨rfl, rfl, rfl⟩ := hcs
    unfold maxLen at hm
    have hlm : len ≤ m := by rw [hmm]; split <;> omega
    have each : ∀ i, ∃ r : Int × Int, i < len → In r.1 ∧ In r.2 ∧ W.cell? (x.add (i * 2)) = some (.int .i64 r.1) ∧ W.cell? (x.add (i * 2 + 1)) = some (.int .i64 r.2) := by
      intro i
      by_cases hlt : i < len
      · obtain ⟨cs, hc, ht⟩ := hi i (by omega)
        rw [cells_Tiers] at hc
        obtain ⟨ys, k, _, _, hlen, hyl, hfs⟩ := DataW.trod_struct Try.underlying76 ht
        obtain ⟨_, hcl, hat⟩ := World.cells?_some hc
        match cs, hcl with
        | [c0, c1], _ =>
          have f0 : DataW.trod enc Try.prog W base sp held k 3 [c0] = ys[0]? := by have := hfs 0 _ rfl; simpa [cellsInt, cellsRatio] using this
          have g0 : ys[0]? = some (ys[0]'(by rw [hyl]; decide)) := List.getElem?_eq_getElem _
          rw [g0] at f0
          obtain ⟨u0, e0, _, w0⟩ := DataW.trod_int Try.underlying3 f0
          have f1 : DataW.trod enc Try.prog W base sp held k 3 [c1] = ys[1]? := by have := hfs 1 _ rfl; simpa [cellsInt, cellsRatio] using this
          have g1 : ys[1]? = some (ys[1]'(by rw [hyl]; decide)) := List.getElem?_eq_getElem _
          rw [g1] at f1
          obtain ⟨u1, e1, _, w1⟩ := DataW.trod_int Try.underlying3 f1
          simp at e0 e1
          subst e0 e1
          refine ⟨(u0, u1), fun _ => ⟨in_i64 w0, in_i64 w1, ?_, ?_⟩⟩
          · have := hat 0 (by decide)
            rw [add_add] at this
            exact this
          · have := hat 1 (by decide)
            rw [add_add] at this
            exact this
      · exact ⟨(0, 0), fun h => absurd h hlt⟩
    obtain ⟨f, hf'⟩ := Classical.axiomOfChoice each
    have hget : ∀ i, i < len → ((List.range len).map f).getD i (0, 0) = f i := by
      intro i hlt
      rw [List.getD_eq_getElem?_getD, List.getElem?_map, List.getElem?_range hlt]
      rfl
    refine ⟨(List.range len).map f, by simp, by omega, ?_, ?_⟩
    · intro r hr
      obtain ⟨i, hi', rfl⟩ := List.mem_map.1 hr
      have := hf' i (List.mem_range.1 hi')
      exact ⟨this.1, this.2.1⟩
    · by_cases h0 : len = 0
      · exact Or.inl h0
      · right
        obtain ⟨b, off, spot⟩ := x
        have hc := (hf' 0 (by omega)).2.2.1
        have hspot : spot = none := by simpa [Addr.add] using World.cell?_spot hc
        subst hspot
        have hblk : b < W.heap.size := by
          have := World.block_lt_of_cell? W _ hc
          simpa [Addr.add] using this
        refine ⟨b, off, rfl, hblk, fun i hlt => ?_⟩
        have := hf' i hlt
        rw [hget i hlt]
        rw [Addr.add_lit, Addr.add_lit] at this
        exact ⟨this.2.2.1, by rw [Nat.add_assoc]; exact this.2.2.2⟩


theorem cells_Setup : Try.prog.cellsOf 30 = 23 := by kernel_rfl
theorem cells_sl0 : Try.prog.cellsOf 22 = 1 := by kernel_rfl
theorem cells_sl1 : Try.prog.cellsOf 25 = 1 := by kernel_rfl
theorem cells_sl2 : Try.prog.cellsOf 26 = 1 := by kernel_rfl
theorem cells_sl3 : Try.prog.cellsOf 27 = 1 := by kernel_rfl
theorem cells_sl4 : Try.prog.cellsOf 28 = 1 := by kernel_rfl
set_option maxRecDepth 100000 in
set_option maxHeartbeats 4000000 in
theorem open_Setup {H : Type} {enc : TypeId × Value → H} {W : World} {b0 base : Nat} {sp : Nat → Bool} {held : Bool} {r : Reach} {v : Value} {d : DataW H} {p : List MemPlace}
    (hv : Value.okWide Try.prog W r b0 30 v) (h : DataW.Trod enc Try.prog W base sp held 30 v d p) : ∃ s q, v = .agg #[.int .i64 s.places, .slice q.wa q.wl q.wc, .int .i64 s.pn, .int .i64 s.pd, .slice q.ea q.el q.ec, .slice q.ca q.cl q.cc, .slice q.ga q.gl q.gc, .int .i64 s.allow, .int .i64 s.unit, .int .i64 s.cap, .int .i64 s.paidBreak, .int .i64 s.autoAfter, .int .i64 s.autoBreak, .int .i64 s.dayReg, .int .i64 s.dayOver, .int .i64 s.weekReg, .int .i64 s.nightFrom, .int .i64 s.nightTo, .slice q.ra q.rl q.rc, .int .i64 s.diff, .int .i64 s.least, .int .i64 s.fault, .slice q.ta q.tl q.tc] ∧ SetupIs W s q := by
  obtain ⟨cs, rfl, hsz⟩ := okWide_struct Try.underlying30 hv
  obtain ⟨l⟩ := cs
  match l, hsz.trans cells_Setup with
  | [c0, c1, c2, c3, c4, c5, c6, c7, c8, c9, c10, c11, c12, c13, c14, c15, c16, c17, c18, c19, c20, c21, c22], _ =>
    obtain ⟨fuel, hf⟩ := h
    obtain ⟨ys, n, _, _, hlen, hyl, hg⟩ := DataW.trod_struct Try.underlying30 hf
    have f0 : DataW.trod enc Try.prog W base sp held n 3 [c0] = ys[0]? := by have := hg 0 _ rfl; simpa [cellsInt, cellsRatio, cells_sl0, cells_sl1, cells_sl2, cells_sl3, cells_sl4, Value.cells] using this
    rw [show ys[0]? = some (ys[0]'(by rw [hyl]; decide)) from List.getElem?_eq_getElem _] at f0
    obtain ⟨u0, e0, _, w0⟩ := DataW.trod_int Try.underlying3 f0
    obtain rfl : c0 = .int .i64 u0 := by simpa using e0
    have f1 : DataW.trod enc Try.prog W base sp held n 22 [c1] = ys[1]? := by have := hg 1 _ rfl; simpa [cellsInt, cellsRatio, cells_sl0, cells_sl1, cells_sl2, cells_sl3, cells_sl4, Value.cells] using this
    rw [show ys[1]? = some (ys[1]'(by rw [hyl]; decide)) from List.getElem?_eq_getElem _] at f1
    obtain ⟨a1, l1, k1, rfl⟩ := slice_of Try.underlying22 f1
    obtain ⟨z1, w1⟩ := open_Ways ⟨_, f1⟩
    have f2 : DataW.trod enc Try.prog W base sp held n 24 [c2, c3] = ys[2]? := by have := hg 2 _ rfl; simpa [cellsInt, cellsRatio, cells_sl0, cells_sl1, cells_sl2, cells_sl3, cells_sl4, Value.cells] using this
    rw [show ys[2]? = some (ys[2]'(by rw [hyl]; decide)) from List.getElem?_eq_getElem _] at f2
    obtain ⟨u2, u3, rfl, rfl, w2, w3⟩ := ratio_cells f2
    have f3 : DataW.trod enc Try.prog W base sp held n 25 [c4] = ys[3]? := by have := hg 3 _ rfl; simpa [cellsInt, cellsRatio, cells_sl0, cells_sl1, cells_sl2, cells_sl3, cells_sl4, Value.cells] using this
    rw [show ys[3]? = some (ys[3]'(by rw [hyl]; decide)) from List.getElem?_eq_getElem _] at f3
    obtain ⟨a4, l4, k4, rfl⟩ := slice_of Try.underlying25 f3
    obtain ⟨z4, w4⟩ := open_Elements ⟨_, f3⟩
    have f4 : DataW.trod enc Try.prog W base sp held n 26 [c5] = ys[4]? := by have := hg 4 _ rfl; simpa [cellsInt, cellsRatio, cells_sl0, cells_sl1, cells_sl2, cells_sl3, cells_sl4, Value.cells] using this
    rw [show ys[4]? = some (ys[4]'(by rw [hyl]; decide)) from List.getElem?_eq_getElem _] at f4
    obtain ⟨a5, l5, k5, rfl⟩ := slice_of Try.underlying26 f4
    obtain ⟨z5, w5⟩ := open_Ratios ⟨_, f4⟩
    have f5 : DataW.trod enc Try.prog W base sp held n 26 [c6] = ys[5]? := by have := hg 5 _ rfl; simpa [cellsInt, cellsRatio, cells_sl0, cells_sl1, cells_sl2, cells_sl3, cells_sl4, Value.cells] using this
    rw [show ys[5]? = some (ys[5]'(by rw [hyl]; decide)) from List.getElem?_eq_getElem _] at f5
    obtain ⟨a6, l6, k6, rfl⟩ := slice_of Try.underlying26 f5
    obtain ⟨z6, w6⟩ := open_Ratios ⟨_, f5⟩
    have f6 : DataW.trod enc Try.prog W base sp held n 3 [c7] = ys[6]? := by have := hg 6 _ rfl; simpa [cellsInt, cellsRatio, cells_sl0, cells_sl1, cells_sl2, cells_sl3, cells_sl4, Value.cells] using this
    rw [show ys[6]? = some (ys[6]'(by rw [hyl]; decide)) from List.getElem?_eq_getElem _] at f6
    obtain ⟨u7, e7, _, w7⟩ := DataW.trod_int Try.underlying3 f6
    obtain rfl : c7 = .int .i64 u7 := by simpa using e7
    have f7 : DataW.trod enc Try.prog W base sp held n 3 [c8] = ys[7]? := by have := hg 7 _ rfl; simpa [cellsInt, cellsRatio, cells_sl0, cells_sl1, cells_sl2, cells_sl3, cells_sl4, Value.cells] using this
    rw [show ys[7]? = some (ys[7]'(by rw [hyl]; decide)) from List.getElem?_eq_getElem _] at f7
    obtain ⟨u8, e8, _, w8⟩ := DataW.trod_int Try.underlying3 f7
    obtain rfl : c8 = .int .i64 u8 := by simpa using e8
    have f8 : DataW.trod enc Try.prog W base sp held n 3 [c9] = ys[8]? := by have := hg 8 _ rfl; simpa [cellsInt, cellsRatio, cells_sl0, cells_sl1, cells_sl2, cells_sl3, cells_sl4, Value.cells] using this
    rw [show ys[8]? = some (ys[8]'(by rw [hyl]; decide)) from List.getElem?_eq_getElem _] at f8
    obtain ⟨u9, e9, _, w9⟩ := DataW.trod_int Try.underlying3 f8
    obtain rfl : c9 = .int .i64 u9 := by simpa using e9
    have f9 : DataW.trod enc Try.prog W base sp held n 3 [c10] = ys[9]? := by have := hg 9 _ rfl; simpa [cellsInt, cellsRatio, cells_sl0, cells_sl1, cells_sl2, cells_sl3, cells_sl4, Value.cells] using this
    rw [show ys[9]? = some (ys[9]'(by rw [hyl]; decide)) from List.getElem?_eq_getElem _] at f9
    obtain ⟨u10, e10, _, w10⟩ := DataW.trod_int Try.underlying3 f9
    obtain rfl : c10 = .int .i64 u10 := by simpa using e10
    have f10 : DataW.trod enc Try.prog W base sp held n 3 [c11] = ys[10]? := by have := hg 10 _ rfl; simpa [cellsInt, cellsRatio, cells_sl0, cells_sl1, cells_sl2, cells_sl3, cells_sl4, Value.cells] using this
    rw [show ys[10]? = some (ys[10]'(by rw [hyl]; decide)) from List.getElem?_eq_getElem _] at f10
    obtain ⟨u11, e11, _, w11⟩ := DataW.trod_int Try.underlying3 f10
    obtain rfl : c11 = .int .i64 u11 := by simpa using e11
    have f11 : DataW.trod enc Try.prog W base sp held n 3 [c12] = ys[11]? := by have := hg 11 _ rfl; simpa [cellsInt, cellsRatio, cells_sl0, cells_sl1, cells_sl2, cells_sl3, cells_sl4, Value.cells] using this
    rw [show ys[11]? = some (ys[11]'(by rw [hyl]; decide)) from List.getElem?_eq_getElem _] at f11
    obtain ⟨u12, e12, _, w12⟩ := DataW.trod_int Try.underlying3 f11
    obtain rfl : c12 = .int .i64 u12 := by simpa using e12
    have f12 : DataW.trod enc Try.prog W base sp held n 3 [c13] = ys[12]? := by have := hg 12 _ rfl; simpa [cellsInt, cellsRatio, cells_sl0, cells_sl1, cells_sl2, cells_sl3, cells_sl4, Value.cells] using this
    rw [show ys[12]? = some (ys[12]'(by rw [hyl]; decide)) from List.getElem?_eq_getElem _] at f12
    obtain ⟨u13, e13, _, w13⟩ := DataW.trod_int Try.underlying3 f12
    obtain rfl : c13 = .int .i64 u13 := by simpa using e13
    have f13 : DataW.trod enc Try.prog W base sp held n 3 [c14] = ys[13]? := by have := hg 13 _ rfl; simpa [cellsInt, cellsRatio, cells_sl0, cells_sl1, cells_sl2, cells_sl3, cells_sl4, Value.cells] using this
    rw [show ys[13]? = some (ys[13]'(by rw [hyl]; decide)) from List.getElem?_eq_getElem _] at f13
    obtain ⟨u14, e14, _, w14⟩ := DataW.trod_int Try.underlying3 f13
    obtain rfl : c14 = .int .i64 u14 := by simpa using e14
    have f14 : DataW.trod enc Try.prog W base sp held n 3 [c15] = ys[14]? := by have := hg 14 _ rfl; simpa [cellsInt, cellsRatio, cells_sl0, cells_sl1, cells_sl2, cells_sl3, cells_sl4, Value.cells] using this
    rw [show ys[14]? = some (ys[14]'(by rw [hyl]; decide)) from List.getElem?_eq_getElem _] at f14
    obtain ⟨u15, e15, _, w15⟩ := DataW.trod_int Try.underlying3 f14
    obtain rfl : c15 = .int .i64 u15 := by simpa using e15
    have f15 : DataW.trod enc Try.prog W base sp held n 3 [c16] = ys[15]? := by have := hg 15 _ rfl; simpa [cellsInt, cellsRatio, cells_sl0, cells_sl1, cells_sl2, cells_sl3, cells_sl4, Value.cells] using this
    rw [show ys[15]? = some (ys[15]'(by rw [hyl]; decide)) from List.getElem?_eq_getElem _] at f15
    obtain ⟨u16, e16, _, w16⟩ := DataW.trod_int Try.underlying3 f15
    obtain rfl : c16 = .int .i64 u16 := by simpa using e16
    have f16 : DataW.trod enc Try.prog W base sp held n 3 [c17] = ys[16]? := by have := hg 16 _ rfl; simpa [cellsInt, cellsRatio, cells_sl0, cells_sl1, cells_sl2, cells_sl3, cells_sl4, Value.cells] using this
    rw [show ys[16]? = some (ys[16]'(by rw [hyl]; decide)) from List.getElem?_eq_getElem _] at f16
    obtain ⟨u17, e17, _, w17⟩ := DataW.trod_int Try.underlying3 f16
    obtain rfl : c17 = .int .i64 u17 := by simpa using e17
    have f17 : DataW.trod enc Try.prog W base sp held n 27 [c18] = ys[17]? := by have := hg 17 _ rfl; simpa [cellsInt, cellsRatio, cells_sl0, cells_sl1, cells_sl2, cells_sl3, cells_sl4, Value.cells] using this
    rw [show ys[17]? = some (ys[17]'(by rw [hyl]; decide)) from List.getElem?_eq_getElem _] at f17
    obtain ⟨a18, l18, k18, rfl⟩ := slice_of Try.underlying27 f17
    obtain ⟨z18, w18⟩ := open_Ints ⟨_, f17⟩
    have f18 : DataW.trod enc Try.prog W base sp held n 3 [c19] = ys[18]? := by have := hg 18 _ rfl; simpa [cellsInt, cellsRatio, cells_sl0, cells_sl1, cells_sl2, cells_sl3, cells_sl4, Value.cells] using this
    rw [show ys[18]? = some (ys[18]'(by rw [hyl]; decide)) from List.getElem?_eq_getElem _] at f18
    obtain ⟨u19, e19, _, w19⟩ := DataW.trod_int Try.underlying3 f18
    obtain rfl : c19 = .int .i64 u19 := by simpa using e19
    have f19 : DataW.trod enc Try.prog W base sp held n 3 [c20] = ys[19]? := by have := hg 19 _ rfl; simpa [cellsInt, cellsRatio, cells_sl0, cells_sl1, cells_sl2, cells_sl3, cells_sl4, Value.cells] using this
    rw [show ys[19]? = some (ys[19]'(by rw [hyl]; decide)) from List.getElem?_eq_getElem _] at f19
    obtain ⟨u20, e20, _, w20⟩ := DataW.trod_int Try.underlying3 f19
    obtain rfl : c20 = .int .i64 u20 := by simpa using e20
    have f20 : DataW.trod enc Try.prog W base sp held n 3 [c21] = ys[20]? := by have := hg 20 _ rfl; simpa [cellsInt, cellsRatio, cells_sl0, cells_sl1, cells_sl2, cells_sl3, cells_sl4, Value.cells] using this
    rw [show ys[20]? = some (ys[20]'(by rw [hyl]; decide)) from List.getElem?_eq_getElem _] at f20
    obtain ⟨u21, e21, _, w21⟩ := DataW.trod_int Try.underlying3 f20
    obtain rfl : c21 = .int .i64 u21 := by simpa using e21
    have f21 : DataW.trod enc Try.prog W base sp held n 28 [c22] = ys[21]? := by have := hg 21 _ rfl; simpa [cellsInt, cellsRatio, cells_sl0, cells_sl1, cells_sl2, cells_sl3, cells_sl4, Value.cells] using this
    rw [show ys[21]? = some (ys[21]'(by rw [hyl]; decide)) from List.getElem?_eq_getElem _] at f21
    obtain ⟨a22, l22, k22, rfl⟩ := slice_of Try.underlying28 f21
    obtain ⟨z22, w22⟩ := open_Tiers ⟨_, f21⟩
    exact ⟨⟨u0, z1, u2, u3, z4, z5, z6, u7, u8, u9, u10, u11, u12, u13, u14, u15, u16, u17, z18, u19, u20, u21, z22⟩, ⟨a1, l1, k1, a4, l4, k4, a5, l5, k5, a6, l6, k6, a18, l18, k18, a22, l22, k22⟩, rfl, ⟨in_i64 w0, in_i64 w2, in_i64 w3, in_i64 w7, in_i64 w8, in_i64 w9, in_i64 w10, in_i64 w11, in_i64 w12, in_i64 w13, in_i64 w14, in_i64 w15, in_i64 w16, in_i64 w17, in_i64 w19, in_i64 w20, in_i64 w21, w1, w4, w5, w6, w18, w22⟩⟩

end Go.Proofs.Ytnjckaifgmliaaa

/- WHAT THE STATEMENTS' FRAMES SHARE: bytes that came in. -/

namespace Go.Proofs.Ytnjckaifgmliaaa
open Go.ChangeShapes Go.WideShapes Go.ChangeAt Go.RowKit Go.Joins Go.Deep Lu

set_option maxRecDepth 100000 in
theorem open_Bytes {H : Type} {enc : TypeId × Value → H} {W : World} {b0 base : Nat} {sp : Nat → Bool} {held : Bool} {r : Reach} {v : Value} {d : DataW H} {p : List MemPlace}
    (hv : Value.okWide Try.prog W r b0 31 v) (h : DataW.Trod enc Try.prog W base sp held 31 v d p) :
    ∃ a len cap bs, v = .slice a len cap ∧ Row8 W a len bs ∧ len ≤ cap ∧ ∀ b o, a = some ⟨b, o, none⟩ → b < W.heap.size := by
  obtain ⟨a, len, cap, rfl⟩ := okWide_slice Try.underlying31 hv
  simp only [Value.okWide, Try.underlying31, Cell.okWide, Cell.ok] at hv
  obtain ⟨fuel, hf⟩ := h
  rcases open_ints Try.underlying31 Try.underlying5 (by kernel_rfl) hf with ⟨hcs, _⟩ | ⟨x, l, c, zs, hcs, _, hl, hm, hz, _, hcell, hwz⟩
  · simp [Value.cells] at hcs
    obtain ⟨rfl, rfl, rfl⟩ := hcs
    exact ⟨none, 0, 0, [], rfl, Row8_nil W, Nat.le_refl _, fun b o h => by cases h⟩
  · simp [Value.cells] at hcs
    obtain ⟨rfl, rfl, rfl⟩ := hcs
    unfold maxLen at hm
    simp only at hv
    obtain ⟨_, _, _, hspot, row, cells, hsh, _⟩ := hv
    obtain ⟨b, off, spot⟩ := x
    simp only at hspot hsh
    subst hspot
    have hlt : b < W.heap.size := by
      unfold World.shape? at hsh
      apply Classical.byContradiction
      intro hn
      rw [Array.getElem?_eq_none (by omega)] at hsh
      simp at hsh
    have hz' : len ≤ zs.length := by rw [hz]; split <;> omega
    refine ⟨some ⟨b, off, none⟩, len, cap, zs.take len, rfl, ⟨by rw [List.length_take]; omega, by omega, fun z hzz => ?_, .inr ⟨b, off, rfl, fun i u hu => ?_⟩, fun h => by cases h⟩, hl, fun b' o' h => ?_⟩
    · exact in_u8 (hwz z (List.mem_of_mem_take hzz))
    · rw [List.getElem?_map, List.getElem?_take] at hu
      split at hu
      · rename_i hi
        have := hcell i (by omega)
        rw [Addr.add_lit] at this
        rw [this]
        rw [List.getElem?_eq_getElem (by omega)] at hu
        rw [List.getD_eq_getElem?_getD, List.getElem?_eq_getElem (by omega)]
        exact hu
      · simp at hu
    · simp only [Option.some.injEq, Addr.mk.injEq, and_true] at h
      omega
end Go.Proofs.Ytnjckaifgmliaaa

namespace Go.Proofs.Ytnjckaifgmliaaa.setupTells
open Go.ChangeShapes Go.WideShapes Go.ChangeAt Go.RowKit Lu

set_option maxRecDepth 100000 in
theorem lifted (os : Os) (started : os.Started) (H : Type) (enc : TypeId × Value → H) :
    ReturnsInHanded {} Try.checked os 3 .any (Rows.setupTellsSpec.pre6 enc Try.prog Try.f3 Rows.setupTellsRow.domain false) (Rows.setupTellsSpec.post enc Try.prog Try.f3 false true false false) := by
  refine returnsInHanded_of_change (C := Try.checked) own started (by kernel_rfl) Try.func3
    (ChangeSpec.witness6 (enc := enc) (C := Try.checked) false ⟨#[], #[.agg #[.int .i64 0, .slice none 0 0, .int .i64 0, .int .i64 0, .slice none 0 0, .slice none 0 0, .slice none 0 0, .int .i64 0, .int .i64 0, .int .i64 0, .int .i64 0, .int .i64 0, .int .i64 0, .int .i64 0, .int .i64 0, .int .i64 0, .int .i64 0, .int .i64 0, .slice none 0 0, .int .i64 0, .int .i64 0, .int .i64 0, .slice none 0 0], .slice none 0 0], []⟩ 8 (by kernel_rfl) (by kernel_rfl) (by kernel_rfl) (by kernel_rfl)) ?_
  intro W base args ds gs before hval0 hW hcnd _
  have hval : ∀ (j : Nat) t v, Try.f3.params[j]? = some t → args[j]? = some v → Value.okWide Try.prog W .any base t v := hval0
  have hW' := hW
  obtain ⟨p, q, hA0, hV, rfl, hfz, hnd⟩ := hW
  have hA : DataW.TrodAll enc Try.prog W 0 (fun _ => true) true Try.f3.params.toList args.toList ds p := hA0
  rw [Try.params3] at hA hval
  obtain ⟨v0, vs0, d0, ds0, p0, q0, hargs, rfl, rfl, h0, r0⟩ := trodAll_cons hA
  obtain ⟨v1, vs1, d1, ds1, p1, q1, rfl, rfl, rfl, h1, r1⟩ := trodAll_cons r0
  obtain ⟨rfl, rfl, rfl⟩ := trodAll_nil r1
  obtain rfl : args = #[v0, v1] := by cases args; simp_all
  obtain ⟨rfl, rfl⟩ := trodVars_none hV
  have k0 := h0
  have lt0 : ∀ x ∈ p0, x.block < W.heap.size := by obtain ⟨m, hm⟩ := k0; exact DataW.trod_lt m _ _ _ hm
  obtain ⟨s0, q0, rfl, w0⟩ := open_Setup (hval 0 30 v0 rfl rfl) h0
  have k1 := h1
  have lt1 : ∀ x ∈ p1, x.block < W.heap.size := by obtain ⟨m, hm⟩ := k1; exact DataW.trod_lt m _ _ _ hm
  obtain ⟨a1, len1, cap1, z1, rfl, w1, x1, y1⟩ := open_Bytes (hval 1 31 v1 rfl rfl) h1
  clear hA0 hval0
  refine (setupTells_walk s0 q0 a1 len1 cap1 z1 W w0 w1 x1 y1).mono fun e W' ⟨he, bel⟩ => ?_
  subst he
  exact ⟨_, rfl, _, _, _, [], _, [], hW', trodAll_mk1 (shut_bool Try.underlying4 _), (trodAll_cons_mk (Below.trod laidOut (by kernel_rfl) (of_decide_eq_true (by kernel_rfl)) k0 bel lt0) (trodAll_cons_mk (Below.trod laidOut (by kernel_rfl) (of_decide_eq_true (by kernel_rfl)) k1 bel lt1) trodAll_mk0)), rfl, bel.frame _, fun h => by cases h⟩

theorem over : Rows.setupTellsRow.holds Try.pinned (OpenSpec.ofChange Rows.setupTellsSpec) :=
  OpenClaim.holds_of_wide 3 Try.f3 rfl rfl rfl rfl rfl rfl rfl ⟨rfl, rfl, rfl, rfl, rfl⟩ rfl rfl rfl rfl rfl (by kernel_rfl) Try.func3 (by kernel_rfl)
    (of_decide_eq_true (by kernel_rfl)) (by unfold Func.isWrapper; first | (rw [if_pos (by decide +kernel)]; kernel_rfl) | (rw [if_neg (by decide +kernel)]; exact ⟨rfl, rfl⟩))
    (fun os started H enc _ => lifted os started H enc)

/-- THE STATEMENT. -/
theorem proved : Rows.SetupTellsSaid := over
end Go.Proofs.Ytnjckaifgmliaaa.setupTells
