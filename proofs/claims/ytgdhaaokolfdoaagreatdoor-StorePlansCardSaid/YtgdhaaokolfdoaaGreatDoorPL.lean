/- The store: Plan; Format of a plan that Open refuses. Conditions: the store lies in the world as StoreAt says; Open answers as the premise says. -/
import Derived.Test.YtgdhaaokolfdoaaGreatDoorOP
import Derived.Test.YtgdhaaokolfdoaaGreatDoorRO
import Derived.Test.YtgdhaaokolfdoaaGreatDoorSN
namespace Go.Proofs.YtgdhaaokolfdoaaGreatDoor
open Go.RowKit Go.Sg Go.Sg.Bits Go.Sg.Clk CP
namespace SF
theorem format_bad {w : World} (d : Nat) (p : Plan8) (c : Int)
    (H : ∀ W, Fr (fun _ => False) w W → Calls Tryz.prog 30 #[.pointer (some ⟨d, 0, none⟩), p.val, .int .i64 0] W fun e w' => e = .returned (.tuple #[.pointer none, .int .i64 c]) ∧ Fr (fun _ => False) W w') :
    Calls Tryz.prog 19 #[.pointer (some ⟨d, 0, none⟩), p.val] w fun e w' => e = .returned (.tuple #[.pointer none, .int .i64 c]) ∧ Fr (fun _ => False) w w' := by
  obtain ⟨a, b, cc, dd, f, dp, hh, s⟩ := p
  obtain ⟨w1, hw1⟩ : ∃ w1, w.alloc (.cells #[.int .i64 a, .int .i64 b, .int .i64 cc, .int .i64 dd, .int .i64 f, .int .i64 dp, .int .i64 hh, .int .u64 s] 31) = w1 := ⟨_, rfl⟩
  have F1 : Fr (fun _ => False) w w1 := by rw [← hw1]; exact (Fr.refl _ _).alloc _
  have HH := hid (H w1 F1)
  have HW := hid hw1
  have HF1 := hid F1
  clear H hw1 F1
  go_enter Tryz.func19, Tryz.ntmps19
  go_wp2_with fail
  rw [HW.out]
  refine HH.out.mono ?_
  rintro e w2 ⟨rfl, F2⟩
  have HF2 := hid F2
  clear F2
  go_wp2
  go_ret2
  exact ⟨rfl, HF1.out.trans HF2.out (fun _ _ h => h)⟩
theorem plan_at {w : World} {B : Blk} {x : Sto} (h : StoreAt w B x) : Calls Tryz.prog 33 #[B.ptr] w fun e w' => e = .returned x.plan.val ∧ Fr (fun _ => False) w w' := by
  have hs := h.s
  clear h
  obtain ⟨⟨a, b, c, d, f, dp, hh, s⟩, x1, x2, x3, x4, x5, x6, x7, x8, x9, x10, x11, x12⟩ := x
  have c1 := cell_of_heap hs 1
  have c2 := cell_of_heap hs 2
  have c3 := cell_of_heap hs 3
  have c4 := cell_of_heap hs 4
  have c5 := cell_of_heap hs 5
  have c6 := cell_of_heap hs 6
  have c7 := cell_of_heap hs 7
  have c8 := cell_of_heap hs 8
  simp at c1 c2 c3 c4 c5 c6 c7 c8
  have l := lt_of_heap hs
  have n : ¬ w.heap.size = B.s := by omega
  clear hs
  go_enter Tryz.func33, Tryz.ntmps33
  go_wp2
  refine bodyPost_ret (v := .agg #[.int .i64 a, .int .i64 b, .int .i64 c, .int .i64 d, .int .i64 f, .int .i64 dp, .int .i64 hh, .int .u64 s]) (by simp [results, go_sem, *]) rfl ⟨rfl, ?_⟩
  repeat (with_reducible refine Fr.setNew ?_ (by omega) _)
  exact (Fr.refl _ _).alloc _
end SF
end Go.Proofs.YtgdhaaokolfdoaaGreatDoor
