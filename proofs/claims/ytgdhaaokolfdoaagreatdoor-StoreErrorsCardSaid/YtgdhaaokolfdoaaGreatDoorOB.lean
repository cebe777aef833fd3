/- An argument that is a slice of bytes, opened. Conditions: none. -/
import Derived.Test.YtgdhaaokolfdoaaGreatDoorSet
import Derived.ChangeSlices
import Derived.OpenShut
import Derived.WideShapes
namespace Go.Proofs.YtgdhaaokolfdoaaGreatDoor
open Go.ChangeShapes Go.WideShapes Go.RowKit Go.Sg
theorem cells5 : Tryz.prog.cellsOf 5 = 1 := by kernel_rfl
set_option maxRecDepth 100000 in
theorem open_byt {H : Type} {enc : TypeId × Value → H} {W : World} {base b0 : Nat} {spare : Nat → Bool} {held : Bool} {v : Value} {d : DataW H} {p : List MemPlace}
    (hv : Value.okWide Tryz.prog W .any base 22 v) (h : DataW.Trod enc Tryz.prog W b0 spare held 22 v d p) :
    ∃ (a : Option Addr) (n c : Nat) (bs : List Int), v = .slice a n c ∧ SlB W a n c bs ∧ (∀ x ∈ bs, 0 ≤ x ∧ x < 256) ∧ n ≤ c ∧ ∀ b off, a = some ⟨b, off, none⟩ → b < W.heap.size := by
  obtain ⟨a, n, c, rfl⟩ := okWide_slice Tryz.underlying22 hv
  simp only [Value.okWide, Tryz.underlying22, Cell.okWide, Cell.ok] at hv
  obtain ⟨fuel, hf⟩ := h
  rcases open_ints Tryz.underlying22 Tryz.underlying5 cells5 hf with ⟨hcs, hx⟩ | ⟨a', len, cap, zs, hcs, _, hl, hm, hz, hx, hcell, hwz⟩
  · obtain ⟨rfl, rfl, rfl⟩ : a = none ∧ n = 0 ∧ c = 0 := by simpa [Value.cells] using hcs
    exact ⟨none, 0, 0, [], rfl, (ByV.nil W).slb, (fun x hx => by cases hx), Nat.le_refl _, (fun b off e => by cases e)⟩
  · obtain ⟨rfl, rfl, rfl⟩ : a = some a' ∧ n = len ∧ c = cap := by simpa [Value.cells] using hcs
    obtain ⟨b, off, spot⟩ := a'
    simp only at hv
    obtain ⟨_, _, _, hs, row, cells, hsh, _⟩ := hv
    simp only at hs hsh
    subst hs
    have hb : b < W.heap.size := by
      unfold World.shape? at hsh
      cases hh : W.heap[b]? with
      | none => rw [hh] at hsh; cases hsh
      | some o => exact lt_of_heap hh
    have hzl : n ≤ zs.length := by rw [hz]; split <;> omega
    refine ⟨some ⟨b, off, none⟩, n, c, zs.take n, rfl, ⟨⟨by rw [List.length_take]; omega, fun i x hx => ⟨b, off, rfl, hb, ?_⟩⟩, .inr ⟨b, off, rfl⟩⟩, fun x hx => ?_, hl, fun b' off' e => by cases e; exact hb⟩
    · rw [List.getElem?_take] at hx
      split at hx
      · rename_i hi
        have := hcell i (by omega)
        have e : zs.getD i 0 = x := by rw [List.getD_eq_getElem?_getD, hx]; rfl
        rw [e] at this
        rw [← this]
        congr 1
        unfold Addr.add
        split <;> simp_all
      · cases hx
    · have := hwz x (List.mem_of_mem_take hx)
      simp [Lit.wf, IntKind.min, IntKind.max, IntKind.bits, IntKind.signed] at this
      omega
end Go.Proofs.YtgdhaaokolfdoaaGreatDoor
