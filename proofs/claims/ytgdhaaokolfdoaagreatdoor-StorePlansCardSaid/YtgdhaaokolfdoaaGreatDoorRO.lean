/- The reference's plan check: a plan out of its bounds; the whole. Conditions: none. -/
import Derived.Test.YtgdhaaokolfdoaaGreatDoorRE
namespace Go.Proofs.YtgdhaaokolfdoaaGreatDoor
open Go.RowKit Go.Sg
theorem out_cases {a b c d f g hh s : Int} (h : withinM ⟨a, b, c, d, f, g, hh, s⟩ = false) :
    (b < 96) ∨ (96 ≤ b ∧ 512 < b) ∨ (96 ≤ b ∧ b ≤ 512 ∧ a < 1) ∨ (96 ≤ b ∧ b ≤ 512 ∧ 1 ≤ a ∧ 16384 < a) ∨ (96 ≤ b ∧ b ≤ 512 ∧ 1 ≤ a ∧ a ≤ 16384 ∧ c < 3) ∨ (96 ≤ b ∧ b ≤ 512 ∧ 1 ≤ a ∧ a ≤ 16384 ∧ 3 ≤ c ∧ 64 < c) ∨ (96 ≤ b ∧ b ≤ 512 ∧ 1 ≤ a ∧ a ≤ 16384 ∧ 3 ≤ c ∧ c ≤ 64 ∧ d < 1) ∨ (96 ≤ b ∧ b ≤ 512 ∧ 1 ≤ a ∧ a ≤ 16384 ∧ 3 ≤ c ∧ c ≤ 64 ∧ 1 ≤ d ∧ 32 < d) ∨ (96 ≤ b ∧ b ≤ 512 ∧ 1 ≤ a ∧ a ≤ 16384 ∧ 3 ≤ c ∧ c ≤ 64 ∧ 1 ≤ d ∧ d ≤ 32 ∧ f < 4) ∨ (96 ≤ b ∧ b ≤ 512 ∧ 1 ≤ a ∧ a ≤ 16384 ∧ 3 ≤ c ∧ c ≤ 64 ∧ 1 ≤ d ∧ d ≤ 32 ∧ 4 ≤ f ∧ 256 < f) ∨ (96 ≤ b ∧ b ≤ 512 ∧ 1 ≤ a ∧ a ≤ 16384 ∧ 3 ≤ c ∧ c ≤ 64 ∧ 1 ≤ d ∧ d ≤ 32 ∧ 4 ≤ f ∧ f ≤ 256 ∧ g < 0) ∨ (96 ≤ b ∧ b ≤ 512 ∧ 1 ≤ a ∧ a ≤ 16384 ∧ 3 ≤ c ∧ c ≤ 64 ∧ 1 ≤ d ∧ d ≤ 32 ∧ 4 ≤ f ∧ f ≤ 256 ∧ 0 ≤ g ∧ 8 < g) ∨ (96 ≤ b ∧ b ≤ 512 ∧ 1 ≤ a ∧ a ≤ 16384 ∧ 3 ≤ c ∧ c ≤ 64 ∧ 1 ≤ d ∧ d ≤ 32 ∧ 4 ≤ f ∧ f ≤ 256 ∧ 0 ≤ g ∧ g ≤ 8 ∧ hh < 8) ∨ (96 ≤ b ∧ b ≤ 512 ∧ 1 ≤ a ∧ a ≤ 16384 ∧ 3 ≤ c ∧ c ≤ 64 ∧ 1 ≤ d ∧ d ≤ 32 ∧ 4 ≤ f ∧ f ≤ 256 ∧ 0 ≤ g ∧ g ≤ 8 ∧ 8 ≤ hh ∧ 256 < hh) := by
  rw [withinM] at h
  have H := of_decide_eq_false h
  simp only at H
  rcases Int.lt_or_le b 96 with h | h0
  · exact .inl h
  rcases Int.lt_or_le 512 b with h | h1
  · exact .inr (.inl ⟨h0, h⟩)
  rcases Int.lt_or_le a 1 with h | h2
  · exact .inr (.inr (.inl ⟨h0, h1, h⟩))
  rcases Int.lt_or_le 16384 a with h | h3
  · exact .inr (.inr (.inr (.inl ⟨h0, h1, h2, h⟩)))
  rcases Int.lt_or_le c 3 with h | h4
  · exact .inr (.inr (.inr (.inr (.inl ⟨h0, h1, h2, h3, h⟩))))
  rcases Int.lt_or_le 64 c with h | h5
  · exact .inr (.inr (.inr (.inr (.inr (.inl ⟨h0, h1, h2, h3, h4, h⟩)))))
  rcases Int.lt_or_le d 1 with h | h6
  · exact .inr (.inr (.inr (.inr (.inr (.inr (.inl ⟨h0, h1, h2, h3, h4, h5, h⟩))))))
  rcases Int.lt_or_le 32 d with h | h7
  · exact .inr (.inr (.inr (.inr (.inr (.inr (.inr (.inl ⟨h0, h1, h2, h3, h4, h5, h6, h⟩)))))))
  rcases Int.lt_or_le f 4 with h | h8
  · exact .inr (.inr (.inr (.inr (.inr (.inr (.inr (.inr (.inl ⟨h0, h1, h2, h3, h4, h5, h6, h7, h⟩))))))))
  rcases Int.lt_or_le 256 f with h | h9
  · exact .inr (.inr (.inr (.inr (.inr (.inr (.inr (.inr (.inr (.inl ⟨h0, h1, h2, h3, h4, h5, h6, h7, h8, h⟩)))))))))
  rcases Int.lt_or_le g 0 with h | h10
  · exact .inr (.inr (.inr (.inr (.inr (.inr (.inr (.inr (.inr (.inr (.inl ⟨h0, h1, h2, h3, h4, h5, h6, h7, h8, h9, h⟩))))))))))
  rcases Int.lt_or_le 8 g with h | h11
  · exact .inr (.inr (.inr (.inr (.inr (.inr (.inr (.inr (.inr (.inr (.inr (.inl ⟨h0, h1, h2, h3, h4, h5, h6, h7, h8, h9, h10, h⟩)))))))))))
  rcases Int.lt_or_le hh 8 with h | h12
  · exact .inr (.inr (.inr (.inr (.inr (.inr (.inr (.inr (.inr (.inr (.inr (.inr (.inl ⟨h0, h1, h2, h3, h4, h5, h6, h7, h8, h9, h10, h11, h⟩))))))))))))
  rcases Int.lt_or_le 256 hh with h | h13
  · exact .inr (.inr (.inr (.inr (.inr (.inr (.inr (.inr (.inr (.inr (.inr (.inr (.inr (⟨h0, h1, h2, h3, h4, h5, h6, h7, h8, h9, h10, h11, h12, h⟩)))))))))))))
  exact absurd ⟨⟨h0, h1⟩, ⟨h2, h3⟩, ⟨h4, h5⟩, ⟨h6, h7⟩, ⟨h8, h9⟩, ⟨h10, h11⟩, ⟨h12, h13⟩⟩ H
set_option maxHeartbeats 4000000 in
set_option maxRecDepth 100000 in
theorem ref_out (p : Plan8) (h : withinM p = false) (w : World) : Calls Tryz.prog 29 #[p.val] w (RefPost 12 w) := by
  obtain ⟨a, b, c, d, f, g, hh, s⟩ := p
  have h' := out_cases h
  clear h
  obtain ⟨w1, hw1⟩ : ∃ w1, (w.alloc (.cells #[.int .i64 a, .int .i64 b, .int .i64 c, .int .i64 d, .int .i64 f, .int .i64 g, .int .i64 hh, .int .u64 s] 46)).alloc (.cells #[.int .i64 0, .int .i64 0, .int .i64 0, .int .i64 0, .int .i64 0, .int .i64 0, .int .i64 0, .int .i64 0] 48) = w1 := ⟨_, rfl⟩
  obtain ⟨b0, b1, F1⟩ := heap_two hw1
  have HF1 := hid F1
  clear hw1 b0 b1 F1
  rcases h' with h0 | ⟨h0, h1⟩ | ⟨h0, h1, h2⟩ | ⟨h0, h1, h2, h3⟩ | ⟨h0, h1, h2, h3, h4⟩ | ⟨h0, h1, h2, h3, h4, h5⟩ | ⟨h0, h1, h2, h3, h4, h5, h6⟩ | ⟨h0, h1, h2, h3, h4, h5, h6, h7⟩ | ⟨h0, h1, h2, h3, h4, h5, h6, h7, h8⟩ | ⟨h0, h1, h2, h3, h4, h5, h6, h7, h8, h9⟩ | ⟨h0, h1, h2, h3, h4, h5, h6, h7, h8, h9, h10⟩ | ⟨h0, h1, h2, h3, h4, h5, h6, h7, h8, h9, h10, h11⟩ | ⟨h0, h1, h2, h3, h4, h5, h6, h7, h8, h9, h10, h11, h12⟩ | ⟨h0, h1, h2, h3, h4, h5, h6, h7, h8, h9, h10, h11, h12, h13⟩
  all_goals
    go_enter Tryz.func29, Tryz.ntmps29
    go_wp2
    refine bodyPost_ret (v := .tuple #[layZ, .int .i64 12]) (by simp [results, go_sem, *]) rfl (RefPost.zero ?_)
    repeat (with_reducible refine Fr.setNew ?_ (by omega) _)
    exact ((Fr.refl _ _).alloc _).alloc _
theorem ref_fit (p : Plan8) (w : World) : Calls Tryz.prog 29 #[p.val] w (RefPost (codeOf (fitsM p)) w) := by
  cases hw : withinM p with
  | false =>
    have e : fitsM p = false := by rw [fitsM, hw]; rfl
    rw [e]
    exact ref_out p hw w
  | true =>
    have hb := of_decide_eq_true hw
    obtain ⟨a, b, c, d, f, g, hh, s⟩ := p
    simp only at hb
    obtain ⟨h1, h2, h3, h4, h5, h6, h7⟩ := hb
    exact ref_one a b c d f g hh s h1 h2 h3 h4 h5 h6 h7 hw w
end Go.Proofs.YtgdhaaokolfdoaaGreatDoor
