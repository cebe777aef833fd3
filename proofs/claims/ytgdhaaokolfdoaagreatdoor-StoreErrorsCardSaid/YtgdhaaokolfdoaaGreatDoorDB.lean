/- slices.Backward over a device's loose writes: the iterator. Conditions: the row lies in the world as ownsRow says. -/
import Derived.Test.YtgdhaaokolfdoaaGreatDoorWR
import Derived.RangeFuncBox
import Derived.Outline
namespace Go.Sg
open Go.RowKit
def Wr.zero : Wr := ⟨0, none, 0, 0⟩
/-- What has come of a row from behind after k rounds. -/
def bk (ws : List Wr) (k : Nat) : List (Nat × Wr) := (List.range k).map fun j => (ws.length - 1 - j, ws.getD (ws.length - 1 - j) Wr.zero)
theorem bk_succ (ws : List Wr) (k : Nat) : bk ws (k + 1) = bk ws k ++ [(ws.length - 1 - k, ws.getD (ws.length - 1 - k) Wr.zero)] := by
  simp [bk, List.range_succ]
theorem bk_len (ws : List Wr) (k : Nat) : (bk ws k).length = k := by simp [bk]
theorem bk_prefix (ws : List Wr) {a b : Nat} (h : a ≤ b) : bk ws a <+: bk ws b := by
  induction b with
  | zero => obtain rfl : a = 0 := by omega
            exact List.prefix_rfl
  | succ b ih =>
    by_cases hk : a = b + 1
    · subst hk; exact List.prefix_rfl
    · rw [bk_succ]; exact (ih (by omega)).trans (List.prefix_append _ _)
theorem bk_take (ws : List Wr) {a b : Nat} (h : a ≤ b) : (bk ws b).take a = bk ws a := by
  have h1 := bk_prefix ws h
  have h2 := List.prefix_iff_eq_take.1 h1
  rw [bk_len] at h2
  exact h2.symm
theorem bk_mem (ws : List Wr) {i k : Nat} {x : Wr} (hx : ws[i]? = some x) (hk : ws.length - 1 - i < k) : (i, x) ∈ bk ws k := by
  have hi := (List.getElem?_eq_some_iff.1 hx).1
  refine List.mem_map.2 ⟨ws.length - 1 - i, by simpa using hk, ?_⟩
  rw [show ws.length - 1 - (ws.length - 1 - i) = i by omega]
  simp [List.getD, hx]
theorem wr_cells (ws : List Wr) {j : Nat} {x : Wr} (h : ws[j]? = some x) : (ws.flatMap Wr.cells)[2 * j]? = some (.int .i64 x.at_) ∧ (ws.flatMap Wr.cells)[2 * j + 1]? = some (.slice x.la x.ll x.lc) := by
  induction ws generalizing j with
  | nil => simp at h
  | cons y l ih =>
    cases j with
    | zero => simp at h; subst h; exact ⟨rfl, rfl⟩
    | succ j =>
      simp at h
      have := ih h
      refine ⟨?_, ?_⟩
      · rw [show 2 * (j + 1) = 2 * j + 2 by omega]; simpa [List.flatMap_cons, Wr.cells] using this.1
      · rw [show 2 * (j + 1) + 1 = 2 * j + 1 + 2 by omega]; simpa [List.flatMap_cons, Wr.cells] using this.2
end Go.Sg
namespace Go.Proofs.YtgdhaaokolfdoaaGreatDoor
open Go.RowKit Go.Sg Go.Shelf
attribute [local go_sem] Oper.semAt_some
theorem backward_any (a : Option Addr) (n c : Nat) (w : World) :
    Calls Tryz.prog 174 #[.slice a n c] w fun e w' => e = .returned (.func (.func 231) #[] #[.pointer (some ⟨w.heap.size, 0, none⟩)]) ∧ w.alloc (.cells #[.slice a n c] 149) = w' := by
  go_enter Tryz.func174, Tryz.ntmps174
  go_wp2
  go_ret
  exact ⟨rfl, rfl⟩
/-- A write with its place in the row, of which something is known. -/
abbrev WrOk (ok : Nat → Wr → Prop) := { p : Nat × Wr // ok p.1 p.2 }
abbrev encB {ok : Nat → Wr → Prop} (x : WrOk ok) : Array Value := #[.int .i64 x.1.1, .agg #[.int .i64 x.1.2.at_, .slice x.1.2.la x.1.2.ll x.1.2.lc]]
def KpB (bx : Nat) (a : Option Addr) (W W' : World) : Prop := W'.heap[bx]? = W.heap[bx]? ∧ ∀ g, a = some ⟨g, 0, none⟩ → W'.heap[g]? = W.heap[g]?
theorem own_cells2 {w : World} {base : Nat} {a : Option Addr} {c : Nat} {ws : List Wr} (h : w.ownsRow base 196 2 (.slice a ws.length c) ws.length (ws.flatMap Wr.cells)) {j : Nat} {x : Wr} (hx : ws[j]? = some x) :
    ∃ g cur, a = some ⟨g, 0, none⟩ ∧ w.heap[g]? = some (.cells cur 196) ∧ cur[2 * j]? = some (.int .i64 x.at_) ∧ cur[2 * j + 1]? = some (.slice x.la x.ll x.lc) := by
  obtain ⟨hl, ⟨h1, h2⟩ | ⟨g, cap, cur, h1, _, hg, _, _, _, ht⟩⟩ := h
  · have := (List.getElem?_eq_some_iff.1 hx).1; omega
  · cases h1
    obtain ⟨k0, k1⟩ := wr_cells ws hx
    have hj := (List.getElem?_eq_some_iff.1 hx).1
    rw [← ht] at k0 k1
    rw [List.getElem?_take, if_pos (by omega)] at k0 k1
    exact ⟨g, cur, rfl, hg, by simpa using k0, by simpa using k1⟩
set_option maxRecDepth 100000 in
set_option maxHeartbeats 2000000 in
theorem backf_stops {ok : Nat → Wr → Prop} {w : World} {base bx : Nat} {a : Option Addr} {c : Nat} {ws : List Wr} (h : w.ownsRow base 196 2 (.slice a ws.length c) ws.length (ws.flatMap Wr.cells)) (hlen : ws.length ≤ 100000) (hok : ∀ i x, ws[i]? = some x → ok i x) (hx : w.heap[bx]? = some (.cells #[.slice a ws.length c] 149)) :
    SeqStopsK Fence.wide 9 Tryz.prog 231 #[.pointer (some ⟨bx, 0, none⟩)] (encB (ok := ok)) (KpB bx a) (fun xs => xs.map (·.1) = bk ws ws.length) (fun pre => pre.map (·.1) <+: bk ws ws.length) ws.length w := fun l J Jx W hW hJ _ hY h0 => by
  have hbx := lt_of_heap hx
  have hx' := (hW.block bx hbx).trans hx
  have hcl : ∀ j x, ws[j]? = some x → ∃ g cur, a = some ⟨g, 0, none⟩ ∧ W.heap[g]? = some (.cells cur 196) ∧ cur[2 * j]? = some (.int .i64 x.at_) ∧ cur[2 * j + 1]? = some (.slice x.la x.ll x.lc) := fun j x hj => by
    obtain ⟨g, cur, e, hg, r⟩ := own_cells2 h hj
    exact ⟨g, cur, e, (hW.block g (lt_of_heap hg)).trans hg, r⟩
  have HCL := hid hcl
  have HX := hid hx'
  have cx := cell_of_heap hx' 0
  simp at cx
  clear hx hW h hcl hx'
  refine callsIn_of_wp Tryz.func231 rfl trivial ?_ rfl
  simp only [Tryz.ntmps231, List.size_toArray, List.length_cons, List.length_nil, Nat.reduceAdd, Nat.reduceSub, Array.replicate_succ, Array.replicate_zero, List.push_toArray, List.append_toArray, List.nil_append, List.cons_append]
  gi_wp2
  gi_loopw [3] (fun i wr => ∃ k : Nat, k ≤ ws.length ∧ i = .int .i64 ((ws.length : Int) - 1 - k) ∧ (∃ pre : List (WrOk ok), pre.map (·.1) = bk ws k ∧ J pre wr) ∧ KpB bx a W wr) (fun i _ => (intOf i + 1).toNat)
  case atStart => exact ⟨0, Nat.zero_le _, by simp, ⟨[], rfl, h0⟩, rfl, fun _ _ => rfl⟩
  case round =>
    obtain ⟨k, hk, rfl, ⟨pre, hpre, hJs⟩, hkp⟩ := hrel
    have HPRE := hid hpre
    have hplen : pre.length = k := by have := congrArg List.length hpre; rw [bk_len] at this; simpa using this
    have HPL := hid hplen
    clear hpre hplen
    have cb := cell_of_heap (hkp.1.trans HX.out) 0
    simp at cb
    by_cases hlt : k < ws.length
    · obtain ⟨j, hj⟩ : ∃ j : Nat, ws.length = j + 1 + k := ⟨ws.length - 1 - k, by omega⟩
      have ej : (ws.length : Int) - 1 - k = (j : Int) := by omega
      obtain ⟨x, hx⟩ : ∃ x, ws[j]? = some x := ⟨_, List.getElem?_eq_getElem (by omega)⟩
      obtain ⟨g, cur, rfl, hg, h1, h2⟩ := HCL.out j x hx
      have hg' := (hkp.2 g rfl).trans hg
      have c1 : wr.cell? ⟨g, j * 2, none⟩ = some (.int .i64 x.at_) := (cell_of_heap hg' (j * 2)).trans (by rw [Nat.mul_comm j 2]; exact h1)
      have c2 : wr.cell? ⟨g, j * 2 + 1, none⟩ = some (.slice x.la x.ll x.lc) := (cell_of_heap hg' (j * 2 + 1)).trans (by rw [Nat.mul_comm j 2]; exact h2)
      have hs : bk ws (k + 1) = bk ws k ++ [(j, x)] := by
        rw [bk_succ, show ws.length - 1 - k = j by omega]
        simp [List.getD, hx]
      have HS := hid hs
      have HOK := hok j x hx
      have HK := hid hkp
      have HEJ := hid ej
      have HJL := hid hj
      rw [ej]
      obtain ⟨xat, xa, xl, xc⟩ := x
      clear hs hg hg' h1 h2 hx hkp ej hj
      obtain ⟨fn, tmps, assign, body, hy, hR⟩ := hY _ ⟨(j, ⟨xat, xa, xl, xc⟩), HOK⟩ wr hJs (by rw [HPL.out]; exact hlt)
      dsimp only [encB] at hy
      have hj0 : j < ws.length := by have := HJL.out; omega
      gi_wp2
      refine hR.mono ?_
      rintro e W3 (⟨rfl, hJ3, hk3⟩ | ⟨rfl, hJx3⟩)
      · have HJ3 := hid hJ3
        have HK3 := hid hk3
        clear hJ3 hk3
        gi_wp2
        go_roundw
        case rel => exact ⟨k + 1, by omega, by have := HEJ.out; go_num, ⟨_, by rw [HS.out, List.map_append, HPRE.out]; rfl, HJ3.out⟩, HK3.out.1.trans HK.out.1, fun g' e => (HK3.out.2 g' e).trans (HK.out.2 g' e)⟩
        case measure => simp [intOf]
      · have HJX := hid hJx3
        clear hJx3
        gi_wp2
        refine bodyPost_ret (results_none rfl _ _ _) rfl ?_
        exact ⟨⟨_, rfl⟩, .inr ⟨_, (by have := bk_prefix ws (a := k + 1) (b := ws.length) (by have := HJL.out; omega); rw [HS.out] at this; rw [List.map_append, HPRE.out]; exact this), HJX.out⟩⟩
    · obtain rfl : k = ws.length := by omega
      have e1 : (ws.length : Int) - 1 - (ws.length : Int) = -1 := by omega
      rw [e1]
      gi_wp2
      go_end0
      exact ⟨⟨_, rfl⟩, .inl ⟨_, HPRE.out, hJs⟩⟩
end Go.Proofs.YtgdhaaokolfdoaaGreatDoor
