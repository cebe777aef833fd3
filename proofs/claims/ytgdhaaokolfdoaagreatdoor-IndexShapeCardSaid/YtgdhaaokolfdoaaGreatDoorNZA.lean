/- Chapter 17's index between the calls of a law that never commits: what Put, Drop, Find make of it. Conditions: none. -/
import Derived.Test.YtgdhaaokolfdoaaGreatDoorNAY
import Derived.Test.YtgdhaaokolfdoaaGreatDoorNAQ
import Derived.RangeFuncNested
import Derived.RangeFuncRecord
import Derived.Test.YtgdhaaokolfdoaaGreatDoorNAW
import Derived.Test.YtgdhaaokolfdoaaGreatDoorNAV
import Derived.Test.YtgdhaaokolfdoaaGreatDoorNAX
import Derived.WalkMore
import Derived.Test.YtgdhaaokolfdoaaGreatDoorNAS
import Derived.Test.YtgdhaaokolfdoaaGreatDoorNAD
set_option maxHeartbeats 16000000
set_option maxRecDepth 100000
set_option linter.all false
namespace Go.Proofs.YtgdhaaokolfdoaaGreatDoor
open Go.RowKit Go.Sg Go.Sg.Bits Go.Sg.Clk CP SF
theorem putS_refs {E : Bt} {o : Int} : ∀ (f : Nat) (t : Tr) (g : Nat) (sp : Int), sp + 1 = t.refs.length -> (putS f t g sp E o).sp + 1 = (putS f t g sp E o).t.refs.length
 | 0, t, g, sp, h => h
 | n + 1, t, g, sp, h => by
  obtain ⟨⟨D, p, r, es⟩, hz⟩ : ∃ z, t.at_ g (preM E.hash g) 0 0 = z := ⟨_, rfl⟩
  simp only [putS, hz];obtain ⟨es', hes⟩ : ∃ es', freshE es E.hash o = es' := ⟨_, rfl⟩
  rw [hes];have h1 := refs_put (leafE (putB es' E)) 1 (fun _ _ => rfl) t g (preM E.hash g);have h2 := refs_put (nodeE D es') 2 (fun _ _ => rfl) t (g + 1) (2 * preM E.hash g);have h3 := refs_put (nodeE D es') 2 (fun _ _ => rfl) t g (preM E.hash g);have h4 := refs_put (leafE (putB (es'.eraseIdx (bestI es' es'.length).toNat) E)) 1 (fun _ _ => rfl) t g (preM E.hash g);by_cases hr : roomB es' E.hash 3 = true
  ·rw [if_pos hr]; show sp + 1 = _; simp only; omega
  ·rw [if_neg hr];by_cases hD : D < 3
   ·rw [if_pos hD];by_cases hg : D = g
    ·rw [if_pos hg]; exact putS_refs n _ _ _ (by omega)
    ·rw [if_neg hg]; exact putS_refs n _ _ _ (by omega)
   ·rw [if_neg hD]; show sp + 1 = _; simp only; omega
theorem frX2_frI {B : Blk} {w w' : World} {bx bd s sl most : Nat} {sp : Int} {x : DirD} (h : FrX B (fun b => b = bd \/ b = bx) w w') (hD : DirAt w bd s x) (hI : IdxAt w bx s bd sl most sp) (hb : B.base <= bd /\ B.base <= bx) : FrI B.base w w' := Fr.mono h fun b _ hs => by
 rcases hs with hs | rfl | rfl
 ·exact ⟨hs.1, fun c t f hc => List.mem_cons_of_mem _ (List.mem_cons_of_mem _ (hs.2.1 c t f hc))⟩
 ·exact ⟨hb.1, fun c t f hc => by rw [hD] at hc; cases hc; simp⟩
 ·exact ⟨hb.2, fun c t f hc => by rw [hI] at hc; cases hc; simp⟩
section
variable {w0 V V' : World} {base bx k : Nat} {t : Tr}
theorem refs8 {t : Tr} (h : t.high <= 3) : t.refs.length <= 8 := by
 have h1 := refs_le t;have h2 : (2 : Nat) ^ t.high <= 2 ^ 3 := Nat.pow_le_pow_right (by decide) h;omega
end
end Go.Proofs.YtgdhaaokolfdoaaGreatDoor
namespace Go.Sg
open Go.RowKit
variable {F : Fence} {n : Nat} {P : Program}
def SeqRun {α : Type} (F : Fence) (n : Nat) (P : Program) (g : Nat) (lb : Array Value) (encs : α -> Array Value) (T : α -> World -> Prop) (R Kp : World -> World -> Prop) (S Sp : List α -> Prop) (E : World -> Prop) (N : Nat) (w : World) : Prop :=
 ∀ (l : Nat) (J Jx : List α -> World -> Prop) (W : World), Below w.heap.size w W -> OwnFrom W.heap.size J -> OwnFrom W.heap.size Jx -> (∀ pre A C, J pre A -> R A C -> J pre C) ->
  (∀ pre x W1, J pre W1 -> T x W1 -> pre.length < N -> YieldAt F (n - 1) P l (encs x) W1 fun e W' => (e = .returned (.bool true) /\ J (pre ++ [x]) W' /\ Kp W1 W') \/ (e = .returned (.bool false) /\ Jx (pre ++ [x]) W')) ->
  J [] W -> CallsIn F n P g (#[.func (.yield l) #[] #[]] ++ lb) W fun e W' => (∃ v, e = .returned v) /\ ((∃ xs, S xs /\ J xs W' /\ E W') \/ (∃ pre, Sp pre /\ Jx pre W'))
theorem wpIn_range_run {α : Type} {g : Operand} {ps : Array Tmp} {assign body : Code} {Q : Exit -> Act -> World -> Prop} {a : Act} {w : World}
  (hro : F.round = none) (h1 : 1 <= n) {gf : Nat} {lb : Array Value} (hg : a.eval g = .func (.func gf) #[] lb) (hFg : F.fn gf) (eg : ∀ args w, (callFunc gf args).run P w = .ok (.enter gf args) w)
  {encs : α -> Array Value} {R Kp : World -> World -> Prop} {S Sp : List α -> Prop} {E : World -> Prop} {N : Nat} {w0 : World} {T : α -> World -> Prop} (I : List α -> World -> Prop) (hseq : SeqRun F (n - 1) P gf lb encs T R Kp S Sp E N w0)
  (hIR : ∀ pre A C, I pre A -> R A C -> I pre C) (hRk : ∀ A C b o, R A C -> w.heap.size <= b -> A.heap[b]? = some o -> o.isCells = false -> C.heap[b]? = some o)
  (hE : ∀ (W : World) (l : Nat) (o o' : Obj), w.heap.size <= l -> W.heap[l]? = some o -> o.isCells = false -> o.isWalk = false -> E W -> E (W.putObj l o'))
  (hKt : ∀ {A B C : World}, Kp A B -> Kp B C -> Kp A C) (hKb : ∀ (W : World) (l : Nat) (o o' : Obj), w.heap.size <= l -> W.heap[l]? = some o -> o.isCells = false -> o.isWalk = false -> Kp W (W.putObj l o'))
  (hb0 : Below w0.heap.size w0 w) (hps : ∀ x, (encs x).size = ps.size)
  (Ix : Code -> List α -> World -> Prop) (hI : OwnFrom w.heap.size I) (hIx : ∀ c, OwnFrom w.heap.size (Ix c)) (h0 : I [] w) (Ax : α -> Act -> World -> Prop) (hAx : ∀ x a', OwnFrom w.heap.size (fun (_ : Unit) W => Ax x a' W))
  (hassign : ∀ (l : Nat) (pre : List α) (x : α) (W : World) (K : Act -> World -> Prop), I pre W -> T x W -> (∀ a' W', KeepsFrom w.heap.size W W' -> Kp W W' -> I pre W' -> Ax x a' W' -> K a' W') ->
   assign.wpIn (F.inRound l) (n - 1 - 1) P (Exit.then K (fun _ _ _ => False)) { tmps := (ps.zip (encs x)).foldl (fun t (p, v) => t.setIfInBounds p v) a.tmps, defers := [] } W)
  (hbody : ∀ (l : Nat) (pre : List α) (x : α) (a' : Act) (W : World), w.heap.size <= l -> (∃ r, W.heap[l]? = some (.loop r)) -> I pre W -> Ax x a' W -> pre.length < N -> body.wpIn (F.inRound l) (n - 1 - 1) P (bodyEnds w.heap.size Kp I Ix (pre ++ [x]) W) a' W)
  (hdone : ∀ (D : Nat) (xs : List α) (W : World), w.heap.size <= D -> S xs -> I xs W -> E W -> W.heap[D]? = some (.deferred (some [])) -> Q .normal { a with defers := { target := .collected D, args := #[] } :: a.defers } W)
  (hstop : ∀ (D : Nat) (c : Code) (pre : List α) (W : World), w.heap.size <= D -> Sp pre -> Ix c pre W -> W.heap[D]? = some (.deferred (some [])) -> c.wpIn F n P Q { a with defers := { target := .collected D, args := #[] } :: a.defers } W) :
  (Code.rangeFunc g ps assign body).wpIn F n P Q a w := by
 refine wpIn_rangeFunc fun fn hfn => ?_
 rw [hro];-- the loop's record, in whatever state
 let rec_ : LoopState -> Option Code -> Loop := fun st pe => { state := st, pending := pe, fn, tmps := a.tmps, params := ps, assign, body, defers := w.heap.size }
 obtain ⟨rd, hrd⟩ : ∃ rd, rd = rec_ := ⟨_, rfl⟩
 have rst : ∀ st pe, (rd st pe).state = st := fun st pe => by rw [hrd]
 have rpe : ∀ st pe, (rd st pe).pending = pe := fun st pe => by rw [hrd]
 obtain ⟨L, hL⟩ : ∃ L, L = w.heap.size + 1 := ⟨_, rfl⟩
 obtain ⟨W1, hW1⟩ : ∃ W1, (w.alloc (.deferred (some []))).alloc (.loop (rd .ready none)) = W1 := ⟨_, rfl⟩
 obtain ⟨hD1, hL1, F1⟩ := heap_two hW1;rw [<- hL] at hL1;have hI1 : I [] W1 := by rw [<- hW1]; exact hI.alloc _ (hI.alloc _ h0)
 have hb1 : Below w0.heap.size w0 W1 := by
  refine hb0.trans ((Fr.below (S := fun _ => False) F1 (fun _ _ h => h)).mono hb0.size)
 have hs1 : W1.heap.size = w.heap.size + 2 := by rw [<- hW1]; simp
 refine ⟨L, [{ target := .collected w.heap.size, args := #[] }], W1, { target := .fn (.func gf) lb, args := #[.func (.yield L) #[] #[]] }, W1, gf, #[.func (.yield L) #[] #[]] ++ lb, W1, ?_, ?_, ?_, ?_, fun _ => h1, ?_⟩
 ·rw [<- hW1, hL, hrd]; exact run_enterLoop_outer _ _ _ _ _
 ·simp only [resolve, hg];simp [go_sem]
 ·intro f' hf'; simp [Target.leads] at hf'; subst hf'; exact hFg
 ·simp [invoke, go_sem, eg]
 -- what the two blocks of the loop's own hold
 have hwalk : ∀ {A : World} {row : Option Nat}, (∀ r, row = some r -> W1.heap.size <= r /\ ∃ o : Obj, A.heap[r]? = some o /\ o.isCells = false) -> (∀ r, row = some r -> w.heap.size <= r /\ ∃ o : Obj, A.heap[r]? = some o /\ o.isCells = false) :=
  fun hr r e => by obtain ⟨hB, h⟩ := hr r e; exact ⟨by omega, h⟩
 have hold : ∀ {A B : World} {row : Option Nat} {b : Nat} {o : Obj}, A.grownBy B row -> (∀ r, row = some r -> W1.heap.size <= r /\ ∃ o : Obj, A.heap[r]? = some o /\ o.isCells = false) -> b < W1.heap.size -> A.heap[b]? = some o -> B.heap[b]? = some o :=
  fun hg' hr hb ho => (hg'.block _ (loh ho) (fun e => by have := (hr _ e.symm).1; omega)).trans ho
 have hY : ∀ pre x W, (I pre W /\ W.heap[L]? = some (.loop (rd .ready none)) /\ W.heap[w.heap.size]? = some (.deferred (some []))) -> T x W -> pre.length < N ->
   YieldAt F (n - 1 - 1) P L (encs x) W fun e W' => (e = .returned (.bool true) /\ (I (pre ++ [x]) W' /\ W'.heap[L]? = some (.loop (rd .ready none)) /\ W'.heap[w.heap.size]? = some (.deferred (some []))) /\ Kp W W') \/
    (e = .returned (.bool false) /\ ∃ c, Ix c (pre ++ [x]) W' /\ W'.heap[L]? = some (.loop (rd .done (some c))) /\ W'.heap[w.heap.size]? = some (.deferred (some []))) := by
  rintro pre x W ⟨hi, hl, hk⟩ hT hlen;have hy := run_yield (P := P) (args := encs x) hl (by rw [hrd]; exact hps x);rw [hrd] at hy;refine ⟨fn, _, assign, body, hy, roundIn_of_wpIn hfn (hassign _ pre x W _ hi hT fun a' Wa hka hkp hia hax => ?_)⟩;have hla := hka.same _ _ (by omega) hl rfl;have hka' := hka.same _ _ (nR _) hk rfl;have hlt : L < Wa.heap.size := loh hla;refine ⟨_, run_beginRound hla (rst _ _), ?_⟩;obtain ⟨busy, hbusy⟩ : ∃ busy : Loop, { rd .ready none with state := .busy } = busy := ⟨_, rfl⟩
  rw [hbusy];have hl2 : (Wa.putObj L (.loop busy)).heap[L]? = some (.loop busy) := World.putObj_heap_same hlt;have hk2 : (Wa.putObj L (.loop busy)).heap[w.heap.size]? = some (.deferred (some [])) := (World.putObj_heap_other (by omega)).trans hka';refine wpIn_mono (hbody _ pre x a' _ (by omega) ⟨_, hl2⟩ (hI.putObj _ hia (by omega) hla rfl) ((hAx x a').putObj (s := ()) _ hax (by omega) hla rfl) hlen) ?_;have fin : ∀ (jump : Option Code) (W3 : World), KeepsFrom w.heap.size (Wa.putObj L (.loop busy)) W3 ->
    (Instr.endRound L jump).run P W3 = .ok (.bool jump.isNone) (W3.putObj L (.loop (rd (if jump.isNone then .ready else .done) jump))) /\ W3.heap[L]? = some (.loop busy) /\
    (W3.putObj L (.loop (rd (if jump.isNone then .ready else .done) jump))).heap[L]? = some (.loop (rd (if jump.isNone then .ready else .done) jump)) /\
    (W3.putObj L (.loop (rd (if jump.isNone then .ready else .done) jump))).heap[w.heap.size]? = some (.deferred (some [])) := fun jump W3 hk3 => by
   have hl3 := hk3.same _ _ (by omega) hl2 rfl;refine ⟨?_, hl3, World.putObj_heap_same (loh hl3), (World.putObj_heap_other (by omega)).trans (hk3.same _ _ (nR _) hk2 rfl)⟩;have := run_endRound (P := P) jump hl3;rw [<- hbusy, hrd] at this;rw [hrd];exact this
  have hw2 : Kp Wa (Wa.putObj L (.loop busy)) := hKb _ _ _ _ (by omega) hla rfl rfl;rintro e a3 W3 hp;have out : ∀ c, KeepsFrom w.heap.size (Wa.putObj L (.loop busy)) W3 /\ Ix c (pre ++ [x]) W3 -> ∃ v W4, (Instr.endRound L (some c)).run P W3 = .ok v W4 /\ ((Ending.returned v = .returned (.bool true) /\ (I (pre ++ [x]) W4 /\ W4.heap[L]? = some (.loop (rd .ready none)) /\ W4.heap[w.heap.size]? = some (.deferred (some []))) /\ Kp W W4) \/
    (Ending.returned v = .returned (.bool false) /\ ∃ c, Ix c (pre ++ [x]) W4 /\ W4.heap[L]? = some (.loop (rd .done (some c))) /\ W4.heap[w.heap.size]? = some (.deferred (some [])))) := by
   rintro c ⟨hk3, hi3⟩;obtain ⟨hr, hl3, hl4, hk4⟩ := fin (some c) W3 hk3;exact ⟨_, _, hr, .inr ⟨rfl, c, (hIx c).putObj _ hi3 (by omega) hl3 rfl, hl4, hk4⟩⟩
  cases e with
  | normal =>
   obtain ⟨hk3, hkp3, hi3⟩ := hp;obtain ⟨hr, hl3, hl4, hk4⟩ := fin none W3 hk3;exact ⟨_, _, hr, .inl ⟨rfl, ⟨hI.putObj _ hi3 (by omega) hl3 rfl, hl4, hk4⟩, hKt hkp (hKt (hKt hw2 hkp3) (hKb _ _ _ _ (by omega) hl3 rfl rfl))⟩⟩
  | ret => exact out _ hp
  | exit id => exact out _ hp
  | goto t => exact out _ hp
  | panic ch => exact hp.elim
  | outgrown => exact hp.elim
 have hcall := hseq L (fun pre W => I pre W /\ W.heap[L]? = some (.loop (rd .ready none)) /\ W.heap[w.heap.size]? = some (.deferred (some [])))
  (fun pre W => ∃ c, Ix c pre W /\ W.heap[L]? = some (.loop (rd .done (some c))) /\ W.heap[w.heap.size]? = some (.deferred (some []))) W1 hb1
  (fun s A B row hs hg' hr => ⟨hI s A B row hs.1 hg' (hwalk hr), hold hg' hr (by omega) hs.2.1, hold hg' hr (by omega) hs.2.2⟩)
  (fun s A B row hs hg' hr => by
   obtain ⟨c, hc, hl, hk⟩ := hs;exact ⟨c, hIx c s A B row hc hg' (hwalk hr), hold hg' hr (by omega) hl, hold hg' hr (by omega) hk⟩)
  (fun pre A C hj hR => ⟨hIR pre A C hj.1 hR, hRk A C _ _ hR (by omega) hj.2.1 rfl, hRk A C _ _ hR (nR _) hj.2.2 rfl⟩)
  hY ⟨hI1, hL1, hD1⟩
 refine hcall.mono ?_;rintro e W2 ⟨⟨v, rfl⟩, (⟨xs, hS, ⟨hi, hl, hk⟩, hEn⟩ | ⟨pre, hSp, c, hi, hl, hk⟩)⟩
 ·have hr := run_endLoop (P := P) hl (by rw [rst]; simp);rw [rpe] at hr;exact ⟨none, _, hr, hdone _ xs _ (nR _) hS (hI.putObj _ hi (by omega) hl rfl) (hE _ _ _ _ (by omega) hl rfl rfl hEn) ((World.putObj_heap_other (by omega)).trans hk)⟩
 ·have hr := run_endLoop (P := P) hl (by rw [rst]; simp);rw [rpe] at hr;exact ⟨some c, _, hr, hstop _ c pre _ (nR _) hSp ((hIx c).putObj _ hi (by omega) hl rfl) ((World.putObj_heap_other (by omega)).trans hk)⟩
end Go.Sg
namespace Go.Proofs.YtgdhaaokolfdoaaGreatDoor
section
open Go.RowKit Go.Sg Go.Sg.Bits Go.Sg.Clk CP SF
abbrev Sd := Nat × Nat × Rf × List Bt
def slotsD : Tr -> Nat -> Nat -> Nat -> List Sd
 | .leaf r es, g, d, p => List.replicate (2 ^ g) (d, p, r, es)
 | .node l r, g, d, p => slotsD l (g - 1) (d + 1) (2 * p) ++ slotsD r (g - 1) (d + 1) (2 * p + 1)
def lvs : Tr -> Nat -> Nat -> List Sd
 | .leaf r es, d, p => [(d, p, r, es)]
 | .node l r, d, p => lvs l (d + 1) (2 * p) ++ lvs r (d + 1) (2 * p + 1)
theorem slotsD_refs : ∀ (t : Tr) (g d p : Nat), (slotsD t g d p).map (·.2.2.1) = t.slots g
 | .leaf r es, g, d, p => by simp [slotsD, Tr.slots]
 | .node l r, g, d, p => by simp only [slotsD, Tr.slots, List.map_append, slotsD_refs l, slotsD_refs r]
theorem slotsD_len (t : Tr) (g d p : Nat) (h : t.high <= g) : (slotsD t g d p).length = 2 ^ g := by
 have := congrArg List.length (slotsD_refs t g d p);rw [List.length_map, Tr.slots_len t g h] at this;exact this
theorem slotsD_mem : ∀ (t : Tr) (g d p : Nat) (s : Sd), s ∈ slotsD t g d p -> s ∈ lvs t d p
 | .leaf r es, g, d, p, s, h => by
  have := List.eq_of_mem_replicate h;simp [lvs, this]
 | .node l r, g, d, p, s, h => by
  simp only [slotsD, lvs, List.mem_append] at h ⊢;exact h.imp (slotsD_mem l _ _ _ s) (slotsD_mem r _ _ _ s)
theorem lds_lvs : ∀ (t : Tr) (d p : Nat), lds t d p = (lvs t d p).map fun s => (s.2.2.1, packM s.1 s.2.1 s.2.2.2)
 | .leaf r es, d, p => rfl
 | .node l r, d, p => by simp only [lds, lvs, List.map_append, lds_lvs l, lds_lvs r]
theorem lvs_ok : ∀ (t : Tr) (d p : Nat), okT t d p -> p < 2 ^ d -> ∀ s ∈ lvs t d p, BkOk s.1 s.2.1 s.2.2.2 /\ s.2.1 < 2 ^ s.1 /\ d <= s.1 /\ s.1 <= d + t.high
 | .leaf r es, d, p, h, hp, s, hs => by
  simp only [lvs, List.mem_singleton] at hs;subst hs;exact ⟨h, hp, nR _, Nat.le_add_right _ _⟩
 | .node l r, d, p, h, hp, s, hs => by
  simp only [lvs, List.mem_append] at hs;simp only [Tr.high];have e : 2 ^ (d + 1) = 2 ^ d * 2 := Nat.pow_succ ..;rcases hs with hs | hs
  ·obtain ⟨h1, h2, h3, h4⟩ := lvs_ok l _ _ h.1 (by omega) s hs;exact ⟨h1, h2, by omega, by omega⟩
  ·obtain ⟨h1, h2, h3, h4⟩ := lvs_ok r _ _ h.2 (by omega) s hs;exact ⟨h1, h2, by omega, by omega⟩
theorem nodup_inj {α β : Type} {f : α -> β} : ∀ {l : List α}, (l.map f).Nodup -> ∀ {x y : α}, x ∈ l -> y ∈ l -> f x = f y -> x = y
 | [], _, x, y, hx, _, _ => by cases hx
 | a :: l, h, x, y, hx, hy, e => by
  rw [List.map_cons, List.nodup_cons] at h;rcases List.mem_cons.1 hx with e1 | hx'
  ·rcases List.mem_cons.1 hy with e2 | hy'
   ·rw [e1, e2]
   ·refine absurd ?_ h.1;rw [<- e1, e]; exact List.mem_map_of_mem hy'
  ·rcases List.mem_cons.1 hy with e2 | hy'
   ·refine absurd ?_ h.1;rw [<- e2, <- e]; exact List.mem_map_of_mem hx'
   ·exact nodup_inj h.2 hx' hy' e
variable {t : Tr} {L : List Bp} {s : Sd} {N bo m : Nat} {A C D w w' : World} {S : Nat -> Prop} {a : Bool}
theorem lvs_inj (hn : (bpg L).Nodup) (hP : L.Perm (lds t 0 0)) {s' : Sd} (hs : s ∈ lvs t 0 0) (hs' : s' ∈ lvs t 0 0) (e : s.2.2.1 = s'.2.2.1) : s = s' := by
 have h1 : ((lds t 0 0).map fun q => q.1.1.toNat).Nodup := (hP.map _).nodup_iff.1 hn;rw [lds_lvs, List.map_map] at h1;exact nodup_inj h1 hs hs' (by simp only [Function.comp_apply, e])
theorem lvs_in (hP : L.Perm (lds t 0 0)) (hs : s ∈ lvs t 0 0) : (s.2.2.1, packM s.1 s.2.1 s.2.2.2) ∈ L := by
 rw [hP.mem_iff, lds_lvs];exact List.mem_map.2 ⟨s, hs, rfl⟩
def PtB (bo : Nat) (A : World) (g : Nat) : Prop := ∃ v : Value, A.heap[bo]? = some (.cells #[v] 124) /\ v.ownBlock = some g
def OutB (bo : Nat) (A : World) (g : Nat) : Prop := PtB bo A g /\ ∃ c f, A.heap[g]? = some (.cells c 131 f)
def BoxO (bo : Nat) (A : World) : Prop := ∃ v : Value, A.heap[bo]? = some (.cells #[v] 124)
structure KpO (m bo : Nat) (A C : World) : Prop where
 os : C.os = A.os
 tape : C.tape = A.tape
 output : C.output = A.output
 size : A.heap.size <= C.heap.size
 keep : ∀ b o, A.heap[b]? = some o -> b ≠ bo -> ¬ OutB bo A b -> (b < m \/ o.isCells = true) -> C.heap[b]? = some o
 pt : ∀ g, PtB bo C g -> A.heap.size <= g \/ PtB bo A g
 box : BoxO bo A -> BoxO bo C
theorem KpO.trans (h : KpO m bo A C) (k : KpO m bo C D) : KpO m bo A D := by
 refine ⟨k.os.trans h.os, k.tape.trans h.tape, k.output.trans h.output, nT h.size k.size, fun b o hb hne hno hc => ?_, fun g hg => ?_, fun hb => k.box (h.box hb)⟩
 ·have h1 := h.keep b o hb hne hno hc;refine k.keep b o h1 hne (fun ⟨hp, c, f, hcf⟩ => ?_) hc;rcases h.pt b hp with hp | hp
  ·have := loh hb; omega
  ·rw [h1] at hcf; cases hcf;exact hno ⟨hp, c, f, hb⟩
 ·rcases k.pt g hg with h1 | h1
  ·exact .inl (nT h.size h1)
  ·exact h.pt g h1
structure Acc (bo : Nat) (A C : World) : Prop where
 size : A.heap.size <= C.heap.size
 keep : ∀ b c t f, A.heap[b]? = some (.cells c t f) -> t ∉ 131 :: mutT -> b ≠ bo -> C.heap[b]? = some (.cells c t f)
 pt : ∀ g, PtB bo C g -> A.heap.size <= g \/ PtB bo A g
 box : BoxO bo C
theorem Acc.refl (h : BoxO bo A) : Acc bo A A := ⟨nR _, fun _ _ _ _ h _ _ => h, fun _ h => .inr h, h⟩
theorem Acc.trans (h : Acc bo A C) (k : Acc bo C D) : Acc bo A D :=
 ⟨nT h.size k.size, fun b c t f hb ht hne => k.keep b c t f (h.keep b c t f hb ht hne) ht hne, fun g hg => (k.pt g hg).elim (fun h1 => .inl (nT h.size h1)) (h.pt g), k.box⟩
theorem KpO.acc (h : KpO m bo A C) (hb : BoxO bo A) : Acc bo A C :=
 ⟨h.size, fun b c t f hc ht hne => h.keep b _ hc hne (fun ⟨_, c', f', e⟩ => by rw [hc] at e; cases e; exact ht (by simp)) (.inr rfl), h.pt, h.box hb⟩
variable {B : Blk}
theorem FrB.acc (h : FrB B A C) (hb : BoxO bo A) : Acc bo A C := by
 obtain ⟨v, hv⟩ := hb;have hc := h.heap hv (by decide);refine ⟨h.size, fun b c t f hc ht hne => h.heap hc (fun hm => ht (List.mem_cons_of_mem _ hm)), fun g ⟨v', hv', ho⟩ => ?_, ⟨v, hc⟩⟩;rw [hc] at hv'; cases hv';exact .inr ⟨v, hv, ho⟩
theorem StoreAt.frG {x : Sto} (h : StoreAt w B x) (F : Fr S w w') (h1 : ∀ r, ¬ S (B.at_ r)) (h4 : ∀ g c' t', t' ∈ 5 :: mutT -> w.heap[g]? = some (.cells c' t') -> ¬ S g) : StoreAt w' B x := by
 refine ⟨F.heap h.s (h1 .s), h.dev.fr F (h1 .d) (h1 .bf) (h1 .bq) fun g c' t' h5 hg => h4 g c' t' (by rcases h5 with rfl | rfl | rfl <;> decide) hg, h.bits.fr F (h1 .bs) (h1 .bw), h.fr.fr F (h1 .fr), h.dy.fr F (h1 .dy), h.de.fr F (h1 .de), h.mem.fr F (h1 .bc) (h1 .bp) (h1 .bm), fun k p hp => ?_, h.ne, h.ge, h.rg, h.inr⟩;obtain ⟨bs, hb, hl⟩ := h.load k p hp;exact ⟨bs, hb.fr F fun b c hc => h4 b c 5 (by decide) hc, hl⟩
variable {y : Cs} {P : Prot}
theorem StoreC.frG (h : StoreC w B y P a N) (F : Fr S w w') (h1 : ∀ r, ¬ S (B.at_ r)) (h4 : ∀ g c' t', t' ∈ 5 :: mutT -> w.heap[g]? = some (.cells c' t') -> ¬ S g) (h0 : ¬ S 0) : StoreC w' B y P a N := by
 obtain ⟨⟨x, c, hS, hy, hi⟩, hT, hb⟩ := h;exact ⟨⟨x, c, hS.frG F h1 h4, hy, { hi with holds := ⟨hi.holds.ok, fun k q hq => by obtain ⟨st, bs, e1, e2, e3, e4⟩ := hi.holds.mem k q hq; exact ⟨st, bs, e1, e2, e3.fr F fun b c hc => h4 b c 5 (by decide) hc, e4⟩, hi.holds.dev⟩ }⟩, hT.fr F h0, hb⟩
theorem StoreC.roles (h : StoreC w B y P a N) (r : Role) : B.at_ r < w.heap.size := by
 obtain ⟨⟨x, c, hS, hy, hi⟩, hT, hb⟩ := h;exact (hS.heaps r).2.2.1
theorem StoreC.role_kd (h : StoreC w B y P a N) (r : Role) {c : Array Value} {t : TypeId} {f : Nat × Nat} (hc : w.heap[B.at_ r]? = some (.cells c t f)) : t ∈ mutT := by
 obtain ⟨⟨x, c', hS, hy, hi⟩, hT, hb⟩ := h;exact (hS.heaps r).2.1 c t f hc
section
variable {B : Blk} {bx bd : Nat} {y : Cs} {P : Prot} {a : Bool} {N : Nat} {x : DirD} {tops slots : List Rf} {L : List Bp} {sp : Int}
theorem IdxM.frG {S : Nat -> Prop} {w w' : World} (h : IdxM w B bx bd y P a N x tops slots L sp) (F : Fr S w w') (h1 : ∀ r, ¬ S (B.at_ r)) (h4 : ∀ g c' t', t' ∈ 5 :: 227 :: 209 :: mutT -> w.heap[g]? = some (.cells c' t') -> ¬ S g) (h0 : ¬ S 0) : IdxM w' B bx bd y P a N x tops slots L sp :=
 { h with
  st := h.st.frG F h1 (fun g c t ht hg => h4 g c t (by simp only [List.mem_cons] at ht ⊢; rcases ht with ht | ht <;> simp [ht]) hg) h0
  idx := F.heap h.idx (h4 bx _ 227 (by simp) h.idx)
  dir := F.heap h.dir (h4 bd _ 209 (by simp) h.dir) }
theorem IdxM.kpO {m bo : Nat} {A C : World} (h : IdxM A B bx bd y P a N x tops slots L sp) (K : KpO m bo A C) (hm : ∀ r, B.at_ r < m) (hbo : BoxO bo A /\ 0 < bo) (hp : ∀ g, PtB bo A g -> 0 < g) (h0 : 0 < m) : IdxM C B bx bd y P a N x tops slots L sp := by
 have F : Fr (fun b => b = bo \/ OutB bo A b \/ (m <= b /\ ∃ o, A.heap[b]? = some o /\ o.isCells = false)) A C :=
  ⟨K.os, K.tape, K.output, K.size, fun b hb hs => by
   simp only [not_or] at hs;obtain ⟨o, ho⟩ : ∃ o, A.heap[b]? = some o := ⟨_, Array.getElem?_eq_getElem hb⟩
   rw [ho];refine K.keep b o ho hs.1 hs.2.1 ?_;by_cases hbm : b < m
   ·exact .inl hbm
   ·cases hc : o.isCells with
    | true => exact .inr rfl
    | false => exact absurd ⟨by omega, o, ho, hc⟩ hs.2.2⟩
 obtain ⟨⟨v, hv⟩, hbo0⟩ := hbo;refine h.frG F (fun r hs => ?_) (fun g c' t' ht hg hs => ?_) (fun hs => ?_)
 ·rcases hs with e | ⟨-, c, f, hc⟩ | ⟨hb, -⟩
  ·rw [<- e] at hv;exact absurd (h.st.role_kd r hv) (by decide)
  ·exact absurd (h.st.role_kd r hc) (by decide)
  ·have := hm r; omega
 ·rcases hs with e | ⟨-, c, f, hc⟩ | ⟨hb, o, ho, hc⟩
  ·rw [e, hv] at hg; cases hg; exact absurd ht (by decide)
  ·rw [hg] at hc; cases hc; exact absurd ht (by decide)
  ·rw [hg] at ho; cases ho; cases hc
 ·rcases hs with e | ⟨hp0, -⟩ | ⟨hb, -⟩
  ·omega
  ·have := hp 0 hp0; omega
  ·omega
theorem IdxM.putL {m : Nat} {W : World} {l : Nat} {o o' : Obj} (h : IdxM W B bx bd y P a N x tops slots L sp) (hl : m <= l) (hm : ∀ r, B.at_ r < m) (h0 : 0 < m) (ho : W.heap[l]? = some o) (hc : o.isCells = false) : IdxM (W.putObj l o') B bx bd y P a N x tops slots L sp :=
 h.frG (S := fun b => b = l) ((Fr.refl (fun b => b = l) W).putObj (fun _ => rfl) o') (fun r e => by have := hm r; omega) (fun g c t _ hg e => by rw [e, ho] at hg; cases hg; cases hc) (by omega)
end
theorem lvs_refs : ∀ (t : Tr) (d p : Nat), (lvs t d p).map (·.2.2.1) = t.refs
 | .leaf r es, d, p => rfl
 | .node l r, d, p => by simp only [lvs, Tr.refs, List.map_append, lvs_refs l, lvs_refs r]
theorem slotsD_ref {g d p : Nat} (h : s ∈ slotsD t g d p) : s.2.2.1 ∈ t.refs := by
 rw [<- lvs_refs t d p];exact List.mem_map_of_mem (f := fun s : Sd => s.2.2.1) (slotsD_mem _ _ _ _ _ h)
theorem refs_nodup (hn : (bpg L).Nodup) (hP : L.Perm (lds t 0 0)) : t.refs.Nodup := by
 have h1 : ((lds t 0 0).map fun q => q.1.1.toNat).Nodup := (hP.map _).nodup_iff.1 hn;rw [lds_lvs, List.map_map] at h1;rw [<- lvs_refs t 0 0];unfold List.Nodup at h1 ⊢;rw [List.pairwise_map] at h1 ⊢;refine h1.imp fun {a b} h e => h ?_
 simp only [Function.comp_apply, e]
theorem xput_bad {E : Bt} (hh : E.hash < 18446744073709551616) (hb : rightE E = false) (bx : Nat) (o : Int) (w : World) :
  Calls Tryz.prog 64 #[xptr bx, btV E, .int .i64 o] w fun e w' => e = .returned (.tuple #[.bool false, .int .i64 5]) /\ Fq w w' := by
 obtain ⟨w1, hw1⟩ : ∃ w1, w.alloc (.cells #[.int .u64 E.hash, .int .i64 E.rg, .int .i64 E.at_, .int .i64 E.sz] 118) = w1 := ⟨_, rfl⟩
 have b1 : w1.heap[w.heap.size]? = some (.cells #[.int .u64 E.hash, .int .i64 E.rg, .int .i64 E.at_, .int .i64 E.sz] 118) := by rw [<- hw1]; exact han _ _
 have F1 : Fq w w1 := by rw [<- hw1]; exact (Fr.refl _ _).alloc _
 have HF := hid F1;have hx := xentry17 hh w1;rw [hb] at hx;have HX := hid hx;obtain ⟨t0, t1, t2, t3, tz, tl⟩ := cells4b b1;have HW := hid hw1;clear hw1 b1 F1 hx hb;go_enter Tryz.func64, Tryz.ntmps64;go_upto_region 1 with fail
 rw [HW.out];go_step3
 go_wp2_with fail
 refine HX.out.mono ?_;rintro e w2 ⟨rfl, F2⟩;have HF2 := hid (HF.out.trans F2 (fun _ _ h => h));clear F2 t0 t1 t2 t3 tz tl;go_wp2_with fail
 simp only [Exit.noGoto];go_ret2;exact ⟨rfl, HF2.out⟩
end
section
open Go.RowKit Go.Sg CP SF
def ddT : Option Int -> List Int -> List Int
 | _, [] => []
 | o, x :: l => if o = some x then ddT (some x) l else x :: ddT (some x) l
def lastO : Option Int -> List Int -> Option Int
 | o, [] => o
 | _, x :: l => lastO (some x) l
theorem ddT_append : ∀ (a b : List Int) (o : Option Int), ddT o (a ++ b) = ddT o a ++ ddT (lastO o a) b
 | [], b, o => by simp [ddT, lastO]
 | x :: a, b, o => by
  simp only [List.cons_append, ddT, lastO];split
  ·exact ddT_append a b _
  ·rw [ddT_append a b]; rfl
theorem lastO_append (x : Int) : ∀ (a : List Int) (o : Option Int), lastO o (a ++ [x]) = some x
 | [], o => rfl
 | y :: a, o => lastO_append x a _
variable {l : List Int} {base c g i k : Nat} {x : Int} {V W w : World} {v : Value}
theorem lastO_take (hx : l[k]? = some x) : lastO none (l.take (k + 1)) = some x := by
 rw [List.take_add_one, hx]; exact lastO_append x _ _
theorem ddT_step (hx : l[k]? = some x) : ddT none (l.take (k + 1)) = ddT none (l.take k) ++ (if lastO none (l.take k) = some x then [] else [x]) := by
 rw [List.take_add_one, hx, ddT_append];simp only [Option.toList_some, ddT]
theorem ddT_small (h : l.length < 2) : ddT none l = l := by
 match l, h with
 | [], _ => rfl
 | [x], _ => rfl
theorem ddT_mem : ∀ (l : List Int) (o : Option Int) (z : Int), z ∈ l -> z ∈ ddT o l \/ o = some z
 | x :: l, o, z, h => by
  simp only [ddT];rcases List.mem_cons.1 h with rfl | h
  ·split
   ·exact .inr (by assumption)
   ·exact .inl List.mem_cons_self
  ·rcases ddT_mem l (some x) z h with h' | h'
   ·split
    ·exact .inl h'
    ·exact .inl (List.mem_cons_of_mem _ h')
   ·cases h';split
    ·exact .inr (by assumption)
    ·exact .inl List.mem_cons_self
theorem mem_of_ddT : ∀ (l : List Int) (o : Option Int) (z : Int), z ∈ ddT o l -> z ∈ l
 | x :: l, o, z, h => by
  simp only [ddT] at h;split at h
  ·exact List.mem_cons_of_mem _ (mem_of_ddT l _ z h)
  ·rcases List.mem_cons.1 h with rfl | h
   ·exact List.mem_cons_self
   ·exact List.mem_cons_of_mem _ (mem_of_ddT l _ z h)
theorem ddT_sorted : ∀ (l : List Int) (o : Option Int), l.Pairwise (· <= ·) -> (∀ z, o = some z -> ∀ y ∈ l, z <= y) -> (ddT o l).Pairwise (· < ·) /\ ∀ z, o = some z -> ∀ y ∈ ddT o l, z < y
 | [], o, _, _ => ⟨List.Pairwise.nil, fun _ _ y hy => by cases hy⟩
 | x :: l, o, h, ho => by
  rw [List.pairwise_cons] at h;obtain ⟨h1, h2⟩ := ddT_sorted l (some x) h.2 (fun z hz y hy => by cases hz; exact h.1 y hy);simp only [ddT];split
  ·rename_i e;exact ⟨h1, fun z hz y hy => by rw [e] at hz; cases hz; exact h2 x rfl y hy⟩
  ·rename_i e;refine ⟨List.pairwise_cons.2 ⟨h2 x rfl, h1⟩, fun z hz y hy => ?_⟩;have hzx : z < x := by
    have := ho z hz x List.mem_cons_self;have hne : z ≠ x := fun e' => e (by rw [hz, e'])
    omega
   rcases List.mem_cons.1 hy with rfl | hy
   ·exact hzx
   ·have := h2 x rfl y hy; omega
def CompP (base : Nat) (v : Value) (out : List Int) (w : World) (e : Ending) (w' : World) : Prop :=
 ∃ a c, e = .returned (.slice a out.length c) /\ OwnI w' base (.slice a out.length c) out /\ Fr (fun b => v.ownBlock = some b) w w'
theorem ownI_open (h : OwnI w base v l) (hn : 0 < l.length) : ∃ g c cur, v = .slice (some ⟨g, 0, none⟩) l.length c /\ base <= g /\ w.heap[g]? = some (.cells cur 3) /\ l.length <= c /\ c <= maxLen /\ cur.size = c * 1 /\ cur.toList.take (l.length * 1) = l.map (Value.int .i64) := by
 obtain ⟨hl, ⟨h0, h1⟩ | ⟨g, c, cur, r⟩⟩ := h
 ·omega
 ·exact ⟨g, c, cur, r⟩
structure CmS (g c : Nat) (l : List Int) (i : Nat) (W : World) (V : World) : Prop where
 ex : ∃ cur : Array Value, V.heap[g]? = some (.cells cur 3) /\ cur.size = c /\ (∀ (q : Nat) (z : Int), (ddT none (l.take i))[q]? = some z -> cur[q]? = some (Value.int .i64 z)) /\ ∀ (q : Nat) (z : Int), i <= q + 1 -> l[q]? = some z -> cur[q]? = some (Value.int .i64 z)
 fr : Fr (fun b => b = g) W V
theorem CmS.skip (h : CmS g c l i W V) (hx : l[i]? = some x) (he : lastO none (l.take i) = some x) (m : Nat) : CmS g c l (i + 1) W (V.drewN m) := by
 obtain ⟨⟨cur, h1, h2, h3, h4⟩, hF⟩ := h;refine ⟨⟨cur, h1, h2, fun q z hz => ?_, fun q z hq hz => h4 q z (by omega) hz⟩, hF.drewN m⟩;rw [ddT_step hx, if_pos he, List.append_nil] at hz;exact h3 q z hz
theorem CmS.take (h : CmS g c l i W V) (hx : l[i]? = some x) (he : ¬ lastO none (l.take i) = some x) (hlt : (ddT none (l.take i)).length + 1 <= i) (hi : i < c) : CmS g c l (i + 1) W (V.setCell ⟨g, (ddT none (l.take i)).length, none⟩ (.int .i64 x)) := by
 obtain ⟨⟨cur, h1, h2, h3, h4⟩, hF⟩ := h;refine ⟨⟨cur.setIfInBounds (ddT none (l.take i)).length (.int .i64 x), hsc _ _ _ _ h1, by simpa using h2, fun q z hz => ?_, fun q z hq hz => ?_⟩, hF.setCell (a := ⟨g, _, none⟩) (fun _ => rfl) _⟩
 ·rw [ddT_step hx, if_neg he] at hz;rw [Array.getElem?_setIfInBounds];split
  ·rename_i e;subst e;rw [if_pos (by omega)];rw [List.getElem?_append_right (nR _), Nat.sub_self] at hz;simp at hz;rw [hz]
  ·rename_i e;have hql : q < (ddT none (l.take i)).length := by
    have := (gI.1 hz).1;simp at this; omega
   rw [List.getElem?_append_left hql] at hz;exact h3 q z hz
 ·rw [Array.getElem?_setIfInBounds, if_neg (by omega)];exact h4 q z (by omega) hz
theorem CmS.drewN (h : CmS g c l i W V) (m : Nat) : CmS g c l i W (V.drewN m) := by
 obtain ⟨⟨cur, h1, h2, h3, h4⟩, hF⟩ := h;exact ⟨⟨cur, h1, h2, h3, h4⟩, hF.drewN m⟩
theorem compact_ok (h : OwnI w base v l) (hl : l.length <= 100000) : Calls Tryz.prog 142 #[v] w (CompP base v (ddT none l) w) := by
 by_cases hs : l.length < 2
 ·obtain ⟨a, c, rfl, -, -, -, -⟩ := oSl h;rw [ddT_small hs];have HO := hid h;obtain ⟨n, hn⟩ : ∃ n, l.length = n := ⟨_, rfl⟩
  rw [hn] at hs ⊢;have hd : decide ((n : Int) < 2) = true := by simp; omega
  have HN := hid hn;clear h hn;go_enter Tryz.func142, Tryz.ntmps142;go_wp2_with fail
  go_ret;refine ⟨a, c, by rw [HN.out]; rfl, HO.out, Fr.refl _ _⟩
 ·obtain ⟨g, c, cur, rfl, hb, hg, hlc, hm, hsz, ht⟩ := ownI_open h (by omega);have HO := hid h;have hcell : ∀ (q : Nat) (z : Int), l[q]? = some z -> cur[q]? = some (Value.int .i64 z) := fun q z hz => by
   have h1 : (cur.toList.take (l.length * 1))[q]? = some (Value.int .i64 z) := by rw [ht, gP, hz]; rfl
   rw [gT] at h1;split at h1
   ·simpa using h1
   ·cases h1
  obtain ⟨n, hn⟩ : ∃ n, l.length = n := ⟨_, rfl⟩
  rw [hn] at hs hl hlc ⊢;have hd : decide ((n : Int) < 2) = false := by simp; omega
  have HG := hi2 hg (aI hcell (aI hn (aI hb (aI hm hsz))));have hz0 : ∀ W, (zeroValue 3).run Tryz.prog W = .ok (.int .i64 0) W := fun W => by kernel_rfl
  have HZ := hid hz0;have hcm : c <= 9223372036854775807 := by simpa [maxLen] using hm
  clear h hg hcell hn hb hm hsz ht hz0;go_enter Tryz.func142, Tryz.ntmps142;go_wp2_with fail
  go_loopw [3] (fun v wr => ∃ k m : Nat, 1 <= k /\ k <= n /\ v = .int .i64 k /\ ddT none (l.take k) = l.take k /\ wr = w.drewN m) (fun v _ => n - (intOf v).toNat)
  case atStart =>
   refine ⟨1, 0, nR _, by omega, rfl, ?_, rfl⟩;exact ddT_small (by rw [lT]; omega)
  case round =>
   obtain ⟨k, m, hk1, hkn, rfl, hdd, rfl⟩ := hrel;have HD := hid hdd;clear hdd;by_cases hlt : k < n
   ·have hki : (k : Int) < (n : Int) := (by omega);have hkw : wrap64 ((k : Int) + 1) = ((k + 1 : Nat) : Int) := (by simp only [wrap64]; omega);obtain ⟨p, rfl⟩ : ∃ p, k = p + 1 := ⟨k - 1, by omega⟩
    have hpw : wrap64 (((p + 1 : Nat) : Int) - 1) = (p : Int) := (by simp only [wrap64]; omega);have hpi : (p : Int) < (n : Int) := (by omega);obtain ⟨x, hx⟩ : ∃ x, l[p + 1]? = some x := ⟨_, gE (by rw [HG.out.2.2.1]; exact hlt)⟩
    obtain ⟨y, hy⟩ : ∃ y, l[p]? = some y := ⟨_, gE (by rw [HG.out.2.2.1]; omega)⟩
    have c0 := (coh HG.out.1 (p + 1)).trans (HG.out.2.1 _ _ hx);have c1 := (coh HG.out.1 p).trans (HG.out.2.1 _ _ hy);have cl := loh HG.out.1;have hla := lastO_take hy;have hst := ddT_step hx;have HX := hi2 hx (aI hy hla);by_cases he : x = y
    ·subst he;rw [if_pos hla, List.append_nil, HD.out] at hst;have HSt := hid hst;have hS0 : CmS g c l (p + 1 + 1) w (w.drewN m) := by
      refine ⟨⟨cur, HG.out.1, by have := HG.out.2.2.2.2.2; omega, fun q z hz => ?_, fun q z _ hz => HG.out.2.1 q z hz⟩, (Fr.refl _ _).drewN _⟩;rw [HSt.out, gT] at hz;split at hz
      ·exact HG.out.2.1 q z hz
      ·cases hz
     have HS0 := hid hS0;have hfr := from52 (some ⟨g, 0, none⟩) n c (p + 1) (by omega);rw [if_neg (by omega), show (some ⟨g, 0, none⟩ : Option Addr).map (·.add ((p + 1) * 1)) = some ⟨g, p + 1, none⟩ by simp [Addr.add]] at hfr;obtain ⟨r, hr⟩ : ∃ r, n - (p + 1) = r := ⟨_, rfl⟩
     have hrn : p + 1 + r = n := (by omega);obtain ⟨rc, hrc⟩ : ∃ r, c - (p + 1) = r := ⟨_, rfl⟩
     rw [hr, hrc] at hfr;clear hx hy hla hst hS0 hr hrc;go_wp2_with fail
     go_quiet (fail)
     go_wp2_with fail
     have HS1 := hid (show CmS g c l (p + 1 + 1) w (w.drewN (m + nq)) from by have := HS0.out.drewN nq; simpa [World.drewN, Nat.add_assoc] using this);have hln : (ddT none (l.take (p + 1 + 1))).length = p + 1 := (by rw [HSt.out, lT, HG.out.2.2.1]; omega);have HLn := hid hln;clear c0 c1 cl hln HS0 hki hpi hpw hkw hd;go_loopw [3, 5] (fun kv jv wz => ∃ (k' j : Nat), j <= r /\ 1 <= j /\ kv = .int .i64 k' /\ jv = .int .i64 j /\ (ddT none (l.take (p + 1 + j))).length = k' /\ k' + 1 <= p + 1 + j /\ CmS g c l (p + 1 + j) w wz) (fun _ jv _ => r - (intOf jv).toNat)
     case atStart => exact ⟨p + 1, 1, by omega, nR _, rfl, rfl, HLn.out, nR _, HS1.out⟩
     case round =>
      obtain ⟨wz, rfl⟩ : ∃ wz : World, wz = wr := ⟨_, rfl⟩
      obtain ⟨k', j, hjr, hj1, rfl, rfl, hk', hkj, hS⟩ := hrel;have HS := hid hS;have HK := hid hk';clear hS;obtain ⟨cur1, hc1, hcs1, hcd1, hct1⟩ := HS.out.ex;have HC1 := hi2 hc1 (aI hcs1 (aI hcd1 hct1));clear hk' hc1 hcs1 hcd1 hct1;by_cases hlt2 : j < r
      ·have hji : (j : Int) < (r : Int) := (by omega);have hjw : wrap64 ((j : Int) + 1) = ((j + 1 : Nat) : Int) := (by simp only [wrap64]; omega);have hkw : wrap64 ((k' : Int) + 1) = ((k' + 1 : Nat) : Int) := (by simp only [wrap64]; omega);have hkn2 : (k' : Int) < (n : Int) := (by omega);obtain ⟨i, rfl⟩ : ∃ i, j = i + 1 := ⟨j - 1, by omega⟩
       have hiw : wrap64 (((i + 1 : Nat) : Int) - 1) = (i : Int) := (by simp only [wrap64]; omega);have hii : (i : Int) < (r : Int) := (by omega);obtain ⟨u, hu⟩ : ∃ u, l[p + 1 + (i + 1)]? = some u := ⟨_, gE (by rw [HG.out.2.2.1]; omega)⟩
       obtain ⟨t, ht⟩ : ∃ t, l[p + 1 + i]? = some t := ⟨_, gE (by rw [HG.out.2.2.1]; omega)⟩
       have c0 := (coh HC1.out.1 (p + 1 + (i + 1))).trans (HC1.out.2.2.2 _ _ (by omega) hu);have c1 := (coh HC1.out.1 (p + 1 + i)).trans (HC1.out.2.2.2 _ _ (by omega) ht);have cz := fun o => foh HC1.out.1 o
       have cl := loh HC1.out.1;obtain ⟨o0, ho0⟩ : ∃ o0, wz.cell? ⟨g, k', none⟩ = some o0 := ⟨_, (coh HC1.out.1 k').trans (Array.getElem?_eq_getElem (by rw [HC1.out.2.1]; omega))⟩
       have hla : lastO none (l.take (p + 1 + (i + 1))) = some t := lastO_take ht;have HU := hi2 hu hla;have hst := ddT_step hu;clear hu ht hla;by_cases hne : u = t
       ·subst hne;rw [if_pos HU.out.2, List.append_nil] at hst;have HSt := hid hst;clear hst;go_wp2_with fail
        go_quiet (fail)
        go_wp2_with fail
        go_roundw;case rel => exact ⟨k', i + 1 + 1, hlt2, by omega, rfl, by go_num, by rw [<- HK.out]; exact congrArg List.length HSt.out, by omega, HS.out.skip HU.out.1 HU.out.2 _⟩
        case measure => simp [intOf]; omega
       ·have hne2 : lastO none (l.take (p + 1 + (i + 1))) ≠ some u := fun e => by rw [HU.out.2] at e; exact hne (Option.some.inj e).symm
        rw [if_neg hne2] at hst;have HSt := hid hst;have HNe := hid hne2;have hneb : (u == t) = false := (by simpa using hne);have hneb2 : (u != t) = true := (by simpa using hne);clear hst hne2;go_wp2_with fail
        go_quiet (fail)
        go_wp2_with fail
        go_roundw;case rel =>
         refine ⟨k' + 1, i + 1 + 1, hlt2, by omega, by go_num, by go_num, ?_, by omega, ?_⟩
         ·rw [<- HK.out, show p + 1 + (i + 1 + 1) = p + 1 + (i + 1) + 1 by omega, HSt.out, lA]; rfl
         ·have := (HS.out.drewN nq).take HU.out.1 HNe.out (by rw [HK.out]; omega) (by omega);rw [HK.out] at this;exact this
        case measure => simp [intOf]; omega
      ·obtain rfl : j = r := by omega
       have hjj : ¬ (j : Int) < (j : Int) := (by omega);rw [show p + 1 + j = n by omega, tL (Nat.le_of_eq HG.out.2.2.1)] at HK HC1;have hkn2 : k' < n := (by omega);have hfk := from52 (some ⟨g, 0, none⟩) n c k' (by omega);rw [if_neg (by omega), show (some ⟨g, 0, none⟩ : Option Addr).map (·.add (k' * 1)) = some ⟨g, k', none⟩ by simp [Addr.add]; exact fun h => h.symm] at hfk;have htk := to52 (some ⟨g, 0, none⟩) n c k' (by omega);obtain ⟨zs, hzl, hcl⟩ := run_clear_rows (P := Tryz.prog) wz 52 3 (0 : Nat) _ 1 Tryz.underlying52 HZ.out rfl (by decide) (by simp [Value.cells, Value.oneCell']) g k' (n - k') (c - k') (by omega) cur1 3 HC1.out.1 (by rw [HC1.out.2.1]; omega);have hcl' : ∀ ty, (Builtin.clear_ #[52] ty #[.slice (some ⟨g, k', none⟩) (n - k') (c - k')]).run Tryz.prog wz = .ok (.tuple #[]) (wz.setRow g (cur1.toList.take k' ++ zs ++ cur1.toList.drop (k' + zs.length)).toArray) := fun _ => hcl
       obtain ⟨cur2, hcur2⟩ : ∃ cur2, cur2 = (cur1.toList.take k' ++ zs ++ cur1.toList.drop (k' + zs.length)).toArray := ⟨_, rfl⟩
       rw [<- hcur2] at hcl';have hend : OwnI (wz.setRow g cur2) base (.slice (some ⟨g, 0, none⟩) k' c) (ddT none l) := by
        have hg2 := setRow_heap wz g cur1 cur2 3 _ HC1.out.1;refine ⟨by simp, .inr ⟨g, c, cur2, by rw [HK.out], HG.out.2.2.2.1, hg2, by rw [HK.out]; omega, HG.out.2.2.2.2.1, ?_, ?_⟩⟩
        ·rw [hcur2];have := HC1.out.2.1;simp only [zA, lA, lT, List.length_drop, Array.length_toList];omega
        ·rw [HK.out, hcur2];simp only [List.append_assoc, Nat.mul_one];have hsz := HC1.out.2.1;rw [List.take_append_of_le_length (by rw [lT, Array.length_toList]; omega), List.take_take, Nat.min_self];refine List.ext_getElem? fun q => ?_
         rw [gT, gP];split
         ·rename_i hq;obtain ⟨z, hz⟩ : ∃ z, (ddT none l)[q]? = some z := ⟨_, gE (by rw [HK.out]; exact hq)⟩
          have := HC1.out.2.2.1 q z hz;rw [hz];simpa using this
         ·rename_i hq;rw [List.getElem?_eq_none (by rw [HK.out]; omega)]; rfl
       have hfr : Fr (fun b => b = g) w (wz.setRow g cur2) := HS.out.fr.trans (setRow_fr _ g cur2) (fun _ _ h => h);have HEnd := hi2 hend hfr;clear hcl hend hfr hcur2 hzl;go_wp2_with fail
       go_ret;exact ⟨some ⟨g, 0, none⟩, c, by rw [HK.out]; rfl, by rw [HK.out]; exact HEnd.out.1, HEnd.out.2.mono fun b _ h => by subst h; rfl⟩
    ·have hla2 : ¬ lastO none (l.take (p + 1)) = some x := fun e => by rw [hla] at e; exact he (Option.some.inj e).symm
     rw [if_neg hla2, HD.out] at hst;have HSt := hid hst;have heb : (x == y) = false := (by simpa using he);clear hx hy hla hst hla2;go_wp2_with fail
     go_quiet (fail)
     go_wp2_with fail
     go_roundw;case rel =>
      refine ⟨p + 1 + 1, m + nq, by omega, hlt, by go_num, ?_, by simp [World.drewN, Nat.add_assoc]⟩;rw [HSt.out, List.take_add_one (i := p + 1), HX.out.1]; rfl
     case measure => simp [intOf]; omega
   ·obtain rfl : k = n := by omega
    have hkk : ¬ (k : Int) < (k : Int) := (by omega);have hdl : ddT none l = l := by
     have := HD.out;rwa [tL (Nat.le_of_eq HG.out.2.2.1)] at this
    have HDl := hid hdl;clear hdl;go_wp2_with fail
    go_ret;exact ⟨some ⟨g, 0, none⟩, c, by rw [HDl.out, HG.out.2.2.1]; rfl, by rw [HDl.out]; exact oN HO.out ((Fr.refl _ _).drewN m), (Fr.refl _ _).drewN m⟩
def bitB (h j : Nat) : Bool := decide (h / 2 ^ j % 2 = 1)
def ofL (h i : Nat) : List Value := (List.range 64).map fun j => .bool (if j < i then bitB h j else false)
theorem ofL_len (h i : Nat) : (ofL h i).length = 64 := by simp [ofL]
theorem ofL_get (h i j : Nat) (hj : j < 64) : (ofL h i)[j]? = some (.bool (if j < i then bitB h j else false)) := by
 simp [ofL, hj]
theorem ofL_set (h i : Nat) (hi : i < 64) : (ofL h i).set i (.bool (bitB h i)) = ofL h (i + 1) := by
 apply List.ext_getElem?;intro j;by_cases hj : j < 64
 ·rw [List.getElem?_set];by_cases e : i = j
  ·subst e;simp [ofL, hj]
  ·rw [if_neg e, ofL_get _ _ _ hj, ofL_get _ _ _ hj];congr 2
   by_cases h1 : j < i
   ·rw [if_pos h1, if_pos (by omega)]
   ·rw [if_neg h1, if_neg (by omega)]
 ·rw [List.getElem?_eq_none (by rw [List.length_set, ofL_len]; omega), List.getElem?_eq_none (by rw [ofL_len]; omega)]
abbrev zB64 : Array Value := #[Value.bool false, Value.bool false, Value.bool false, Value.bool false, Value.bool false, Value.bool false, Value.bool false, Value.bool false, Value.bool false, Value.bool false, Value.bool false, Value.bool false, Value.bool false, Value.bool false, Value.bool false, Value.bool false, Value.bool false, Value.bool false, Value.bool false, Value.bool false, Value.bool false, Value.bool false, Value.bool false, Value.bool false, Value.bool false, Value.bool false, Value.bool false, Value.bool false, Value.bool false, Value.bool false, Value.bool false, Value.bool false, Value.bool false, Value.bool false, Value.bool false, Value.bool false, Value.bool false, Value.bool false, Value.bool false, Value.bool false, Value.bool false, Value.bool false, Value.bool false, Value.bool false, Value.bool false, Value.bool false, Value.bool false, Value.bool false, Value.bool false, Value.bool false, Value.bool false, Value.bool false, Value.bool false, Value.bool false, Value.bool false, Value.bool false, Value.bool false, Value.bool false, Value.bool false, Value.bool false, Value.bool false, Value.bool false, Value.bool false, Value.bool false]
theorem ofL_nought (h : Nat) : ofL h 0 = List.replicate 64 (Value.bool false) := by
 rw [ofL, List.map_congr_left (g := fun _ => Value.bool false) (fun j _ => by rw [if_neg (Nat.not_lt_zero j)]), List.map_const', List.length_range]
theorem ofL_zero (h : Nat) : (#[Value.bool false, Value.bool false, Value.bool false, Value.bool false, Value.bool false, Value.bool false, Value.bool false, Value.bool false, Value.bool false, Value.bool false, Value.bool false, Value.bool false, Value.bool false, Value.bool false, Value.bool false, Value.bool false, Value.bool false, Value.bool false, Value.bool false, Value.bool false, Value.bool false, Value.bool false, Value.bool false, Value.bool false, Value.bool false, Value.bool false, Value.bool false, Value.bool false, Value.bool false, Value.bool false, Value.bool false, Value.bool false, Value.bool false, Value.bool false, Value.bool false, Value.bool false, Value.bool false, Value.bool false, Value.bool false, Value.bool false, Value.bool false, Value.bool false, Value.bool false, Value.bool false, Value.bool false, Value.bool false, Value.bool false, Value.bool false, Value.bool false, Value.bool false, Value.bool false, Value.bool false, Value.bool false, Value.bool false, Value.bool false, Value.bool false, Value.bool false, Value.bool false, Value.bool false, Value.bool false, Value.bool false, Value.bool false, Value.bool false, Value.bool false] : Array Value) = (ofL h 0).toArray := by rw [ofL_nought]; rfl
theorem of_ok (h : Nat) (hh : h < 18446744073709551616) (w : World) :
  Calls Tryz.prog 240 #[.int .u64 h] w fun e w' => e = .returned (.agg (ofL h 64).toArray) /\ Fq w w' := by
 go_enter Tryz.func240, Tryz.ntmps240;go_wp2
 rw [ofL_zero h];go_loopw [0, 4] (fun hv s wr => ∃ i q : Nat, i <= 64 /\ hv = .int .u64 q /\ q = h / 2 ^ i /\ s = .int .i64 i /\ wr.heap[w.heap.size + 1]? = some (.cells (ofL h i).toArray 349) /\ wr.heap[w.heap.size]? = some (.cells (ofL h 0).toArray 349) /\ Fq w wr) (fun _ s _ => 64 - (intOf s).toNat)
 case atStart =>
  obtain ⟨h0, h1, F⟩ := heap_two (w := w) (A := .cells (ofL h 0).toArray 349) (B := .cells (ofL h 0).toArray 349) rfl;exact ⟨0, h, Nat.zero_le _, rfl, by simp, rfl, h1, h0, F⟩
 case round =>
  obtain ⟨i, q, hi, rfl, hq, rfl, h1, h0, hF⟩ := hrel;have HQ := hid hq;have hq64 : q < 18446744073709551616 := by rw [hq]; exact Nat.lt_of_le_of_lt (Nat.div_le_self _ _) hh
  clear hq;by_cases hlt : i < 64
  ·have cj : wr.cell? ⟨w.heap.size + 1, i, none⟩ = some (.bool false) := by
    rw [coh h1];simp [ofL, hlt]
   have zj := fun o => foh h1 o
   have hlg := loh h1;have hid1 : decide (i < 64) = true := by simpa using hlt
   have hid2 : decide ((i : Int) < 64) = true := by simp; omega
   have hiw : wrap64 ((i : Int) + 1) = ((i + 1 : Nat) : Int) := by simp only [wrap64]; omega
   have H := hi2 h1 (aI h0 hF);have hbit : bitB h i = decide (q % 2 = 1) := by unfold bitB; rw [HQ.out]
   have HBit := hid hbit;have hq2 : h / 2 ^ (i + 1) = q / 2 := by rw [HQ.out, Nat.pow_succ, Nat.div_div_eq_div_mul]
   have HQ2 := hid hq2;clear h1 h0 hF hbit hq2;have hb : ((q : Int) % 2 == 1) = bitB h i := by
    rw [HBit.out];have e : ((q : Int) % 2) = ((q % 2 : Nat) : Int) := (by simp);rw [e];have : q % 2 = 0 \/ q % 2 = 1 := (by omega);rcases this with h | h <;> rw [h] <;> rfl
   have HB := hid hb;clear hb;go_wp2
   go_roundw;case rel =>
    obtain ⟨h1, h0, hF⟩ := H.out;refine ⟨i + 1, q / 2, by omega, by simp, HQ2.out.symm, by go_num, ?_, (heap_setCell_ne _ _ _ _ (by simp)).trans h0, hF.setNew (by omega) _⟩;rw [hsc _ _ _ _ h1, HB.out, <- ofL_set h i hlt];simp
   case measure => simp [intOf]; omega
  ·obtain rfl : i = 64 := by omega
   go_upto_region 7 with (fail)
   have hsz : (Tryz.prog.info? 349).map (·.size) = some (ofL h 64).toArray.size := by rw [zA, ofL_len]; kernel_rfl
   have hsz2 : (Tryz.prog.info? 349).map (·.size) = some (ofL h 64).length := by rw [ofL_len]; kernel_rfl
   have hu : Tryz.prog.underlying 349 = some (.array 64 4) := by kernel_rfl
   have ht : wr.there w.heap.size 0 (ofL h 64).toArray.size := by
    intro j hj;refine ⟨?_, foh h0 _⟩;rw [coh h0];rw [zA, ofL_len] at hj;simp [ofL]; omega
   have h1c : (ofL h 64).toArray.all (·.oneCell') = true := by simp [ofL, Value.oneCell']
   have hr9 : (wr.setCells w.heap.size 0 (ofL h 64)).rangeAt w.heap.size 0 (ofL h 64) := World.rangeAt_setCells_same _ _ _ _ (by simpa using ht);have F9 : Fq w (wr.setCells w.heap.size 0 (ofL h 64)) := Fr.setCells (by omega) _ _ _ hF;iterate 60 (first | (refine wpList_load_row (by rfl) 349 (.tmp 3) (by rfl) (w.heap.size + 1) (by rfl) 349 (ofL h 64).toArray (0, 0) (.array 64 4) h1 hu rfl hsz ?_) | (refine wpList_store_mid (by rfl) 349 (.tmp 2) (.tmp 16) (by rfl) w.heap.size 0 (ofL h 64).toArray (by rfl) (by rfl) ht hsz h1c ?_) | go_step | skip)
   exact bodyPost_ret (v := .agg (ofL h 64).toArray) (results_cell_mid rfl _ _ w.heap.size (ofL h 64) _ rfl hr9 hu rfl hsz2) rfl ⟨rfl, F9⟩
theorem pre_step (h i : Nat) (hi : i < 30) : 2 * (h / 2 ^ (64 - i)) + (if bitB h (63 - i) = true then 1 else 0) = h / 2 ^ (64 - (i + 1)) := by
 have e1 : 64 - (i + 1) = 63 - i := by omega
 have e2 : 64 - i = (63 - i) + 1 := by omega
 rw [e1, e2, Nat.pow_succ, <- Nat.div_div_eq_div_mul];unfold bitB;generalize h / 2 ^ (63 - i) = z;by_cases hz : z % 2 = 1
 ·rw [if_pos (by simpa using hz)]; omega
 ·rw [if_neg (by simpa using hz)]; omega
theorem rpre_ok (h bits : Nat) (hh : h < 18446744073709551616) (hb : bits <= 30) (w : World) :
  Calls Tryz.prog 189 #[.int .u64 h, .int .i64 bits] w fun e w' => e = .returned (.int .i64 (preM h bits)) /\ Fq w w' := by
 by_cases h0 : bits < 1
 ·have hp : preM h bits = 0 := by unfold preM; rw [if_pos (.inl h0)]
  have hd : decide ((bits : Int) < 1) = true := by simp; omega
  rw [hp];clear hp;go_enter Tryz.func189, Tryz.ntmps189;go_wp2
  go_ret;exact ⟨rfl, Fr.refl _ _⟩
 ·have hp : preM h bits = h / 2 ^ (64 - bits) := by unfold preM; rw [if_neg (by omega)]
  have hd1 : decide ((bits : Int) < 1) = false := by simp; omega
  have hd2 : decide ((30 : Int) < (bits : Int)) = false := by simp; omega
  rw [hp];obtain ⟨tab, htab⟩ : ∃ tab : Array Value, (ofL h 64).toArray = tab := ⟨_, rfl⟩
  have hOf := of_ok h hh w;rw [htab] at hOf;have hsz : (Tryz.prog.info? 349).map (·.size) = some tab.size := by rw [<- htab, zA, ofL_len]; kernel_rfl
  have h1c : tab.all (·.oneCell') = true := by rw [<- htab]; simp [ofL, Value.oneCell']
  have hts : tab.size = 64 := by rw [<- htab, zA, ofL_len]
  have htg : ∀ i, i < 64 -> tab[i]? = some (.bool (bitB h i)) := fun i hi => by rw [<- htab]; simp [ofL, hi]
  have HOf := hid hOf;have HTG := hid htg;have HTS := hid hts;clear hp htab hOf htg hts;go_enter Tryz.func189, Tryz.ntmps189;go_wp2_with fail
  refine HOf.out.mono ?_;rintro e w1 ⟨rfl, F1⟩;obtain ⟨w2, hw2⟩ : ∃ w2, w1.alloc (.cells zB64 349) = w2 := ⟨_, rfl⟩
  have h2 : w2.heap[w1.heap.size]? = some (.cells zB64 349) := by rw [<- hw2]; exact han _ _
  have F2 : Fq w1 w2 := by rw [<- hw2]; exact (Fr.refl _ _).alloc _
  have ht : w2.there w1.heap.size 0 tab.size := by
   intro j hj;refine ⟨?_, foh h2 _⟩;rw [coh h2, Nat.zero_add, Array.getElem?_eq_getElem (by rw [HTS.out] at hj; exact hj)];rfl
  have HTH := hid ht;have HW2 := hid hw2;have H2 := hi2 h2 F2;clear ht hw2 h2 F2;dsimp only;iterate 12 (first | (rw [HW2.out]) | (refine wpList_store_mid (by rfl) 349 (.tmp 5) (.tmp 15) (by rfl) w1.heap.size 0 tab (by rfl) (by rfl) HTH.out hsz h1c ?_) | go_step | go_upon | skip)
  obtain ⟨w3, hw3⟩ : ∃ w3, w2.setCells w1.heap.size 0 tab.toList = w3 := ⟨_, rfl⟩
  rw [hw3];have hr3 : w3.rangeAt w1.heap.size 0 tab.toList := by rw [<- hw3]; exact World.rangeAt_setCells_same w2 w1.heap.size 0 tab.toList (by simpa using HTH.out)
  have hc3 : ∀ i, i < 64 -> w3.cell? ⟨w1.heap.size, i, none⟩ = some (.bool (bitB h i)) := fun i hi => by
   have := hr3 i (.bool (bitB h i)) (by simpa using HTG.out i hi);rwa [Nat.zero_add] at this
  have F3 : Fq w w3 := by
   rw [<- hw3];exact Fr.setCells F1.size _ _ _ (F1.trans H2.out.2 (fun _ _ h => h))
  have hl3 : w1.heap.size < w3.heap.size := World.block_lt_of_cell? _ _ (hc3 0 (by omega));have HC := hi2 hc3 (aI F3 hl3);clear hw3 hr3 hc3 F3 H2 HW2 HTH hsz h1c F1 HOf HTG HTS;obtain ⟨ba, hba⟩ : ∃ b, w1.heap.size = b := ⟨_, rfl⟩
  rw [hba] at HC hl3 ⊢;clear hba;go_wp2_with fail
  go_loopw [6, 7] (fun nv iv wr => ∃ i q : Nat, i <= bits /\ iv = .int .i64 i /\ nv = .int .i64 q /\ q = h / 2 ^ (64 - i) /\ wr = w3) (fun _ iv _ => bits - (intOf iv).toNat)
  case atStart => exact ⟨0, 0, Nat.zero_le _, rfl, rfl, by rw [Nat.sub_zero, Nat.div_eq_of_lt (by simpa using hh)], rfl⟩
  case round =>
   obtain ⟨i, q, hi, rfl, rfl, hq, rfl⟩ := hrel;have HQ := hid hq;clear hq;by_cases hlt : i < bits
   ·have hdi : decide ((i : Int) < (bits : Int)) = true := (by simp; omega);have hii : (i : Int) < (bits : Int) := (by omega);have hiw : wrap64 ((i : Int) + 1) = ((i + 1 : Nat) : Int) := (by simp only [wrap64]; omega);have hsub : wrap64 (63 - (i : Int)) = ((63 - i : Nat) : Int) := (by simp only [wrap64]; omega);have hsl : ((63 - i : Nat) : Int) < 64 := (by omega);have hq30 : q < 1073741824 := by
     rw [HQ.out];have h34 : 2 ^ 34 <= 2 ^ (64 - i) := Nat.pow_le_pow_right (by decide) (by omega);exact (Nat.div_lt_iff_lt_mul (Nat.pow_pos (by decide))).2 (nLL (show h < 1073741824 * 2 ^ 34 by simpa using hh) (Nat.mul_le_mul_left _ h34))
    have hst := pre_step h i (by omega);rw [<- HQ.out] at hst;have cb := HC.out.1 (63 - i) (by omega);obtain ⟨bb, hbb⟩ : ∃ b, bitB h (63 - i) = b := ⟨_, rfl⟩
    rw [hbb] at cb hst;have HSt := hid hst;clear hst hbb;cases bb with
    | true =>
     go_wp2_with fail
     go_roundw;case rel => exact ⟨i + 1, 2 * q + 1, hlt, by go_num, by go_num, by have := HSt.out; simpa using this, trivial⟩
     case measure => simp [intOf]; omega
    | false =>
     go_wp2_with fail
     go_roundw;case rel => exact ⟨i + 1, 2 * q, hlt, by go_num, by go_num, by have := HSt.out; simpa using this, trivial⟩
     case measure => simp [intOf]; omega
   ·obtain rfl : i = bits := by omega
    have hii : ¬ (i : Int) < (i : Int) := (by omega);go_wp2_with fail
    go_ret;refine ⟨?_, HC.out.2.1⟩;rw [show ((h : Int) / 2 ^ (64 - i)) = ((h / 2 ^ (64 - i) : Nat) : Int) by simp, <- HQ.out]; rfl
end
section
open Go.RowKit Go.Sg Go.Sg.Bits Go.Sg.Clk CP SF
theorem slotsD_at : ∀ (t : Tr) (g k d p : Nat), t.high <= g -> k < 2 ^ g -> (slotsD t g d p)[k]? = some (t.at_ g k d p)
 | .leaf r es, g, k, d, p, _, hk => by
  simp only [slotsD, Tr.at_];rw [List.getElem?_replicate, if_pos hk]
 | .node l r, g, k, d, p, h, hk => by
  simp only [Tr.high] at h;have h2 := Tr.two_pow (g := g) (by omega);simp only [slotsD, Tr.at_];have hl := slotsD_len l (g - 1) (d + 1) (2 * p) (by omega);by_cases hlt : k < 2 ^ (g - 1)
  ·rw [if_pos hlt, List.getElem?_append_left (by omega)];exact slotsD_at l _ _ _ _ (by omega) hlt
  ·rw [if_neg hlt, List.getElem?_append_right (by omega), hl];exact slotsD_at r _ _ _ _ (by omega) (by omega)
variable {t : Tr} {g i : Nat} {s : Sd}
theorem slotsD_pre (h : t.high <= g) (hs : (slotsD t g 0 0)[i]? = some s) : i / 2 ^ (g - s.1) = s.2.1 := by
 have hi : i < 2 ^ g := by rw [<- slotsD_len t g 0 0 h]; exact (gI.1 hs).1
 have h1 := slotsD_at t g i 0 0 h hi;rw [hs] at h1;have h2 := Tr.at_pre t g i 0 0 h hi;rw [<- Option.some.inj h1, Nat.zero_mul, Nat.zero_add, Nat.zero_add] at h2;exact h2.symm
theorem slots_count : ∀ (t : Tr) (g d p : Nat), t.high <= g -> t.refs.Nodup -> ∀ s ∈ slotsD t g d p, (t.slots g).count s.2.2.1 = 2 ^ (d + g - s.1)
 | .leaf r es, g, d, p, _, _, s, hs => by
  have e := List.eq_of_mem_replicate hs;subst e;simp only [Tr.slots, List.count_replicate_self, Nat.add_sub_cancel_left]
 | .node l r, g, d, p, h, hn, s, hs => by
  simp only [Tr.high] at h;simp only [Tr.refs, List.nodup_append] at hn;simp only [slotsD, List.mem_append] at hs;simp only [Tr.slots, List.count_append];have e : d + g = d + 1 + (g - 1) := by omega
  have hin : ∀ (t' : Tr) (q : Rf), q ∈ t'.slots (g - 1) -> q ∈ t'.refs := fun t' q hq => by
   rw [<- slotsD_refs t' (g - 1) 0 0] at hq;obtain ⟨z, hz, rfl⟩ := List.mem_map.1 hq;exact slotsD_ref hz
  rcases hs with hs | hs
  ·rw [slots_count l (g - 1) (d + 1) (2 * p) (by omega) hn.1 s hs, List.count_eq_zero_of_not_mem (fun hm => hn.2.2 _ (slotsD_ref hs) _ (hin r _ hm) rfl), e, Nat.add_zero]
  ·rw [slots_count r (g - 1) (d + 1) (2 * p + 1) (by omega) hn.2.1 s hs, List.count_eq_zero_of_not_mem (fun hm => hn.2.2 _ (hin l _ hm) _ (slotsD_ref hs) rfl), e, Nat.zero_add]
theorem slotsD_dep (h : t.high <= g) (hok : okT t 0 0) (hs : (slotsD t g 0 0)[i]? = some s) : BkOk s.1 s.2.1 s.2.2.2 /\ s.2.1 < 2 ^ s.1 /\ s.1 <= g := by
 obtain ⟨h1, h2, -, h4⟩ := lvs_ok t 0 0 hok (by simp) s (slotsD_mem _ _ _ _ _ (gM hs));exact ⟨h1, h2, by omega⟩
theorem count_take_succ {l : List Rf} {k : Nat} {q r : Rf} (hq : l[k]? = some q) : (l.take (k + 1)).count r = (l.take k).count r + if q = r then 1 else 0 := by
 rw [List.take_add_one, hq, List.count_append];simp only [Option.toList_some, List.count_singleton, beq_iff_eq]
end
end Go.Proofs.YtgdhaaokolfdoaaGreatDoor
