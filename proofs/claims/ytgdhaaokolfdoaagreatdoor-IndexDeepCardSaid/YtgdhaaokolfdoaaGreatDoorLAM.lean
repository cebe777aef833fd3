/- A pack of texts: DI. Conditions: those that each text names. -/
import Derived.Test.YtgdhaaokolfdoaaGreatDoorLAL
import Derived.Test.YtgdhaaokolfdoaaGreatDoorLAE
import Derived.Shelf.RegionOpen
set_option linter.unusedVariables false
set_option linter.unusedSimpArgs false
set_option linter.unnecessarySimpa false
namespace Go.Proofs.YtgdhaaokolfdoaaGreatDoor
open Go.RowKit Go.Sg Go.Sg.Clk Go.Shelf CP
attribute [local go_sem] Oper.semAt_some
theorem abides_fr {β : Type} {Bn : Nat} {J : β → World → Prop} (hJ : AbidesFrom Bn J) {s : β} {W W' : World} (h : J s W) (F : Fr (fun _ => False) W W') : J s W' :=
  hJ s W W' none h ⟨F.os, F.tape, F.output, F.size, fun b hb _ => F.block b hb (fun h => h)⟩ (fun r e => by cases e)
end Go.Proofs.YtgdhaaokolfdoaaGreatDoor
namespace Go.Proofs.YtgdhaaokolfdoaaGreatDoor
open Go.RowKit Go.Sg Go.Sg.Bits Go.Sg.Clk Go.Shelf CP SF
attribute [local go_sem] Oper.semAt_some
theorem own_of {β : Type} {B0 : Nat} {I : β → World → Prop} (h0 : ∀ s W W', I s W → Fr (fun _ => False) W W' → I s W')
    (h1 : ∀ s W W' k, I s W → Fr (fun b => b = k) W W' → B0 ≤ k → (∀ c t f, W.heap[k]? ≠ some (.cells c t f)) → I s W') : OwnFrom B0 I := by
  intro s W W' row hs hg hr
  cases row with
  | none => exact h0 s W W' hs ⟨hg.os, hg.tape, hg.output, hg.size, fun b hb _ => hg.block b hb (by simp)⟩
  | some k =>
    obtain ⟨hk, o, ho, hc⟩ := hr k rfl
    refine h1 s W W' k hs ⟨hg.os, hg.tape, hg.output, hg.size, fun b hb hn => hg.block b hb (fun e => hn (by cases e; rfl))⟩ hk fun c t f e => ?_
    rw [ho] at e; cases e; cases hc
theorem Holds.frK {w w' : World} {x : Sto} {c : Cont} {P : Prot} (h : Holds w x c P) {k : Nat} (F : Fr (fun b => b = k) w w') (hk : ∀ cs t f, w.heap[k]? ≠ some (.cells cs t f)) : Holds w' x c P :=
  ⟨h.ok, fun j q hq => by obtain ⟨st, bs, h1, h2, h3, h4⟩ := h.mem j q hq; exact ⟨st, bs, h1, h2, h3.fr F (fun b cs hb e => by rw [e] at hb; exact hk _ _ _ hb), h4⟩, h.dev⟩
end Go.Proofs.YtgdhaaokolfdoaaGreatDoor
