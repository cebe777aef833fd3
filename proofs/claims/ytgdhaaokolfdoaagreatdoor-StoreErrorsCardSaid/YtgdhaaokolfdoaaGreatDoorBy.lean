/- bytes.Clone. Conditions: the slice reads as Byts says, of at most 65536 bytes. -/
import Derived.Test.YtgdhaaokolfdoaaGreatDoorProg
import Derived.Test.YtgdhaaokolfdoaaGreatDoorLib
import Derived.Deep.QuietTactic
import Derived.BigQuiet
import Derived.RegionTactic
import Derived.BigRegion
import Derived.Lib.SliceRun
namespace Go.Sg
open Go.RowKit
/-- A slice of bytes reads as bs. -/
structure Byts (w : World) (a : Option Addr) (n : Nat) (bs : List Int) : Prop where
  len : bs.length = n
  at_ : ∀ (i : Nat) (x : Int), bs[i]? = some x → ∃ b off, a = some ⟨b, off, none⟩ ∧ b < w.heap.size ∧ w.cell? ⟨b, off + i, none⟩ = some (.int .u8 x)
theorem Byts.fr {S : Nat → Prop} {w w' : World} {a : Option Addr} {n : Nat} {bs : List Int} (h : Byts w a n bs) (F : Fr S w w') (hS : ∀ b off, a = some ⟨b, off, none⟩ → b < w.heap.size → ¬ S b) : Byts w' a n bs :=
  ⟨h.len, fun i x hx => by
    obtain ⟨b, off, e, hb, hc⟩ := h.at_ i x hx
    exact ⟨b, off, e, Nat.lt_of_lt_of_le hb F.size, (F.cell (p := ⟨b, off + i, none⟩) hb (hS b off e hb)).trans hc⟩⟩
theorem own_lit0 (W : World) (e : TypeId) (size : Nat) (v : Value) (h : v = .slice (some ⟨W.heap.size, 0, none⟩) 0 0) : (W.alloc (.cells #[] e)).ownsRow 0 e size v 0 [] := by
  subst h
  exact World.ownsRow_lit W #[] 0 (Nat.zero_le _) (Nat.zero_le _) (by simp)
theorem byts_of_own {w : World} {base e n : Nat} {v : Value} {bs : List Int} (h : w.ownsRow base e 1 v n (bs.map (Value.int .u8))) (hne : v ≠ .slice none 0 0) :
    ∃ g cap c, v = .slice (some ⟨g, 0, none⟩) n cap ∧ w.heap[g]? = some (.cells c e) ∧ Byts w (some ⟨g, 0, none⟩) n bs := by
  obtain ⟨hl, ⟨rfl, _⟩ | ⟨g, cap, cur, rfl, _, hg, _, _, _, ht⟩⟩ := h
  · exact absurd rfl hne
  · refine ⟨g, cap, cur, rfl, hg, by simpa using hl, fun i x hx => ⟨g, 0, rfl, lt_of_heap hg, ?_⟩⟩
    rw [Nat.zero_add, cell_of_heap hg]
    have hi := (List.getElem?_eq_some_iff.1 hx).1
    have hl' : bs.length = n * 1 := by simpa using hl
    have : (cur.toList.take (n * 1))[i]? = some (.int .u8 x) := by rw [ht, List.getElem?_map, hx]; rfl
    rw [List.getElem?_take, if_pos (by omega)] at this
    simpa using this
end Go.Sg
namespace Go.Proofs.YtgdhaaokolfdoaaGreatDoor
open Go.RowKit Go.Sg
theorem Tryz.info5 : (Tryz.prog.info? 5).map (fun i => (i.zero, i.size, i.bytes)) = some (some (.int .u8 0), 1, 1) := by kernel_rfl
set_option maxRecDepth 100000 in
theorem clone_nil (w : World) : Calls Tryz.prog 83 #[.slice none 0 0] w fun e w' => e = .returned (.slice none 0 0) ∧ w = w' := by
  have q22 : ∀ (w : World) (a : Option Addr) (n c n' c' : Nat), (binOp .eql 22 (.slice a n c) (.slice none n' c')).run Tryz.prog w = .ok (.bool a.isNone) w := fun w a n c n' c' => Lib.run_eql_slice_nil w _ _ a n c n' c' Tryz.underlying22
  go_enter Tryz.func83, Tryz.ntmps83
  go_wp2
  go_ret
  exact ⟨rfl, rfl⟩
set_option maxHeartbeats 1000000 in
set_option maxRecDepth 100000 in
theorem clone_at {w : World} {b off n cap : Nat} {bs : List Int} (h : Byts w (some ⟨b, off, none⟩) n bs) (hn : n ≤ 65536) :
    Calls Tryz.prog 83 #[.slice (some ⟨b, off, none⟩) n cap] w fun e w' => ∃ g cap' c, e = .returned (.slice (some ⟨g, 0, none⟩) n cap') ∧ w'.heap[g]? = some (.cells c 5) ∧ Byts w' (some ⟨g, 0, none⟩) n bs ∧ w.heap.size ≤ g ∧ Fr (fun _ => False) w w' := by
  obtain ⟨i0, hi0, hz0, hz1, hz2⟩ := info_parts Tryz.info5
  have H := hid h
  have hlen := h.len
  have hcell : ∀ (o : Obj) (j : Nat) (u : Value), (bs.map (Value.int .u8))[j]? = some u → (w.alloc o).cell? ((⟨b, off, none⟩ : Addr).add j) = some u := fun o j u hu => by
    rw [List.getElem?_map] at hu
    cases hx : bs[j]? with
    | none => rw [hx] at hu; cases hu
    | some x =>
      rw [hx] at hu
      cases hu
      obtain ⟨b', off', e, hb, hc⟩ := h.at_ j x hx
      cases e
      rw [show (⟨b, off, none⟩ : Addr).add j = ⟨b, off + j, none⟩ by unfold Addr.add; split <;> simp_all]
      exact (((Fr.refl (fun _ => False) w).alloc o).cell (p := ⟨b, off + j, none⟩) hb (fun h => h)).trans hc
  have HC := hid hcell
  clear h hcell
  have q22 : ∀ (w : World) (a : Option Addr) (n c n' c' : Nat), (binOp .eql 22 (.slice a n c) (.slice none n' c')).run Tryz.prog w = .ok (.bool a.isNone) w := fun w a n c n' c' => Lib.run_eql_slice_nil w _ _ a n c n' c' Tryz.underlying22
  go_enter Tryz.func83, Tryz.ntmps83
  go_wp2_with (at_builtin; refine wpList_append_own_at _ rfl (.tmp 5) (.tmp 6) 22 rfl 0 5 i0 _ 1 1 Tryz.underlying22 hi0 hz0 hz1 hz2 rfl (by decide) _ _ _ rfl (own_lit0 _ _ _ _ (by simp [go_sem])) ⟨b, off, none⟩ n cap (bs.map (Value.int .u8)) rfl (by simpa using hlen) ?c1 ?c2 ?c3 ?c4 (Nat.zero_le _) ?_)
  case c1 => exact HC.out _
  case c2 => intro u hu; obtain ⟨x, _, rfl⟩ := List.mem_map.1 hu; rfl
  case c3 => simp [maxLen]; omega
  case c4 => omega
  intro v1 w1 hown hgrow hnil hat
  try simp only [List.nil_append, Nat.zero_add] at hown
  have F1 : Fr (fun _ => False) w w1 := ((Fr.refl (fun _ => False) w).alloc _).trans (S' := fun b => b = w.heap.size) (Fr.of_grownBy hgrow) (fun b hb h => by omega)
  obtain ⟨g, cap', c, rfl, hg, hB⟩ := byts_of_own hown hnil
  have hgl : w.heap.size ≤ g := by
    rcases hat with h | h <;> simp [Value.ownBlock] at h <;> omega
  have HG := hid (And.intro hg (And.intro hB (And.intro hgl F1)))
  clear hown hgrow hat hg hB F1 hgl
  go_wp2
  go_ret
  exact ⟨g, cap', c, rfl, HG.out.1, HG.out.2.1, HG.out.2.2.1, HG.out.2.2.2⟩
end Go.Proofs.YtgdhaaokolfdoaaGreatDoor
