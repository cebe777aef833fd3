/- The store: the row of a set's numbers (Parts's own function). Conditions: the set lies in the world as SetAt says. -/
import Derived.Test.YtgdhaaokolfdoaaGreatDoorSet
import Derived.Test.YtgdhaaokolfdoaaGreatDoorShl
import Derived.Shelf.SlIterI.Nil
import Derived.Shelf.SortM.Plain
import Derived.Shelf.SortM.SortNone
import Derived.Ground.GgzProg
import Derived.Ground.SlgmProg
namespace Go.Proofs.YtgdhaaokolfdoaaGreatDoor
open Go.Proofs Go.RowKit Go.Maps Go.Sort Go.Shelf Go.Sg
theorem Tryz.sortsA (m : Nat) : AnyZI.SortsIn Tryz.prog Tryz.sortedA_ren Fence.wide m :=
  ⟨fun blk off cap ss W hH hblk hsz => callsIn_wide.2 (AnyM.slices_Sort_int Tryz.sortA blk off cap ss W hH hblk hsz),
   fun p cap W => callsIn_wide.2 (AnyM.slices_Sort_int_none Tryz.sortA p cap W)⟩
/-- The numbers of a set, in order. -/
def RowOf (f : Int → Bool) (L : List Int) : Prop := (∀ k, k ∈ L ↔ f k = true) ∧ L.Pairwise (· < ·)
set_option maxHeartbeats 1000000 in
set_option maxRecDepth 100000 in
theorem row_at {w : World} {b : Nat} {f : Int → Bool} {n : Nat} (h : SetAt w b f) (hn : n ≤ 65536) (hf : ∀ k, f k = true → 0 ≤ k ∧ k < n) :
    Calls Tryz.prog 97 #[.map (some b)] w fun e w' => ∃ v L, e = .returned v ∧ Ints w' v L ∧ RowOf f L ∧ Fr (fun _ => False) w w' := by
  obtain ⟨l, ck, hm, hs⟩ := h.ex
  have hl := hs.len hf
  have hown := set_owns (H := Unit) (P := Tryz.prog) (K := 3) (E := 4) Tryz.underlying3 Tryz.underlying4 hm hs (fun k hk => WalkArith.wf_i64 (by have := hf k hk; omega)) (by simp [maxLen]; omega)
  refine (callsIn_wide (n := 6)).1 ?_
  have hbl := hown.lt
  have hseq : SeqGives Fence.wide 2 Tryz.prog 161 #[.pointer (some ⟨w.heap.size, 0, none⟩)] encZ (fun ss => ss.Perm (intKeys (setD (H := Unit) l))) (Maps.size (setD (H := Unit) l)) (w.alloc (.cells #[.map (some b)] 153)) :=
    AnyZI.keys_gives (ρ := Tryz.keysA_ren) { Tryz.keysA with } Fence.wide _ trivial rfl (by omega) w.heap.size b l.length (setD (H := Unit) l) _ (by simp) (by simp) (by
      obtain ⟨es, clock, hb, Ft, hs, hD⟩ := hown
      exact ⟨es, clock, (Below.heap_alloc _ _ b hbl).trans hb, Ft, hs, hD⟩)
  have cK : ∀ mb W, CallsIn Fence.wide 5 Tryz.prog 99 #[.map mb] W fun e w' => e = .returned (.func (.func 161) #[] #[.pointer (some ⟨W.heap.size, 0, none⟩)]) ∧ w' = W.alloc (.cells #[.map mb] 153) := fun mb W => AnyZI.keys_in Tryz.keysA Fence.wide 5 trivial rfl mb W
  have cS := AnyZI.sorted_in Tryz.sortedA Fence.wide 5 trivial trivial trivial trivial rfl (by omega) (Tryz.sortsA _) (enters_of Tryz.func141 (by kernel_rfl) rfl) 161 #[.pointer (some ⟨w.heap.size, 0, none⟩)] trivial (enters_of Tryz.func161 (by kernel_rfl) rfl) _ _ (by rw [setD_size]; simp [maxLen]; omega) (by rw [setD_size]; omega) _ hseq
  change CallsIn _ _ Tryz.prog 98 _ _ _ at cS
  have hfK : Fence.wide.fn 99 := trivial
  have hfS : Fence.wide.fn 98 := trivial
  have HS := hid hs
  clear hown hbl hm hseq hs
  refine callsIn_of_wp Tryz.func97 rfl trivial ?_ rfl
  simp only [Tryz.ntmps97, List.size_toArray, List.length_cons, List.length_nil, Nat.reduceAdd, Nat.reduceSub, Array.replicate_succ, Array.replicate_zero, List.push_toArray, List.append_toArray, List.nil_append, List.cons_append]
  gi_wp2_with (first
    | (gi_at_call 99; refine (cK _ _).mono ?_; rintro e w' ⟨rfl, rfl⟩)
    | (gi_at_call 98; refine cS.mono ?_; rintro e w' ⟨v, ss, rfl, hS, hrow, hnil, hb⟩))
  go_ret
  have hp : (ss.mergeSort (fun x y => decide (x ≤ y))).Perm (keys l) := (List.mergeSort_perm _ _).trans (hS.trans (setD_keys l))
  refine ⟨v, ss.mergeSort (fun x y => decide (x ≤ y)), rfl, ints_of_own (base := (w.alloc (.cells #[.map (some b)] 153)).heap.size) (e := 3) (by rw [List.length_mergeSort]; exact hrow), ⟨fun k => ?_, ?_⟩, ((Fr.refl _ _).alloc _).trans (Fr.of_below hb) (fun _ _ h => h)⟩
  · rw [hp.mem_iff]
    have e := HS.out.at_ k
    cases hk : f k with
    | true =>
      rw [hk] at e
      simp only [if_true] at e
      constructor
      · intro _; rfl
      · intro _
        refine Classical.byContradiction fun hc => ?_
        rw [(look_none l k).2 hc] at e
        cases e
    | false =>
      rw [hk] at e
      simp only [Bool.false_eq_true, if_false] at e
      constructor
      · intro hc; exact absurd hc ((look_none l k).1 e)
      · intro hc; cases hc
  · have h1 : (ss.mergeSort (fun x y => decide (x ≤ y))).Pairwise (fun a b => decide (a ≤ b) = true) := List.pairwise_mergeSort (fun a b c h1 h2 => by simp at *; omega) (fun a b => by simp; omega) ss
    have h2 : (ss.mergeSort (fun x y => decide (x ≤ y))).Nodup := hp.symm.nodup HS.out.nd
    refine (List.Pairwise.and h1 h2).imp ?_
    rintro a c ⟨h3, h4⟩
    simp at h3
    omega
end Go.Proofs.YtgdhaaokolfdoaaGreatDoor
