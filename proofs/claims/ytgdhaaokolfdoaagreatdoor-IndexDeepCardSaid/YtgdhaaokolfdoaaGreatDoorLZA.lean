/- Chapter 17's index between the calls of a law that never commits: what Put, Drop, Find make of it. Conditions: none. -/
import Derived.Test.YtgdhaaokolfdoaaGreatDoorLAY
import Derived.Test.YtgdhaaokolfdoaaGreatDoorLAQ
import Derived.RangeFuncNested
import Derived.RangeFuncRecord
import Derived.Test.YtgdhaaokolfdoaaGreatDoorLAW
import Derived.Test.YtgdhaaokolfdoaaGreatDoorLAV
import Derived.Test.YtgdhaaokolfdoaaGreatDoorLAX
import Derived.WalkMore
set_option linter.unusedVariables false
set_option linter.unusedSimpArgs false
set_option linter.unnecessarySimpa false
namespace Go.Proofs.YtgdhaaokolfdoaaGreatDoor
open Go.RowKit Go.Sg Go.Sg.Bits Go.Sg.Clk CP SF
theorem putS_refs {E : Bt} {o : Int} : ∀ (f : Nat) (t : Tr) (g : Nat) (sp : Int), sp + 1 = t.refs.length → (putS f t g sp E o).sp + 1 = (putS f t g sp E o).t.refs.length
  | 0, t, g, sp, h => h
  | n + 1, t, g, sp, h => by
    obtain ⟨⟨D, p, r, es⟩, hz⟩ : ∃ z, t.at_ g (preM E.hash g) 0 0 = z := ⟨_, rfl⟩
    simp only [putS, hz]
    obtain ⟨es', hes⟩ : ∃ es', freshE es E.hash o = es' := ⟨_, rfl⟩
    rw [hes]
    have h1 := refs_put (leafE (putB es' E)) 1 (fun _ _ => rfl) t g (preM E.hash g)
    have h2 := refs_put (nodeE D es') 2 (fun _ _ => rfl) t (g + 1) (2 * preM E.hash g)
    have h3 := refs_put (nodeE D es') 2 (fun _ _ => rfl) t g (preM E.hash g)
    have h4 := refs_put (leafE (putB (es'.eraseIdx (bestI es' es'.length).toNat) E)) 1 (fun _ _ => rfl) t g (preM E.hash g)
    by_cases hr : roomB es' E.hash 3 = true
    · rw [if_pos hr]; show sp + 1 = _; simp only; omega
    · rw [if_neg hr]
      by_cases hD : D < 3
      · rw [if_pos hD]
        by_cases hg : D = g
        · rw [if_pos hg]; exact putS_refs n _ _ _ (by omega)
        · rw [if_neg hg]; exact putS_refs n _ _ _ (by omega)
      · rw [if_neg hD]; show sp + 1 = _; simp only; omega
theorem frX2_frI {B : Blk} {w w' : World} {bx bd s sl most : Nat} {sp : Int} {x : DirD} (h : FrX B (fun b => b = bd ∨ b = bx) w w') (hD : DirAt w bd s x) (hI : IdxAt w bx s bd sl most sp) (hb : B.base ≤ bd ∧ B.base ≤ bx) : FrI B.base w w' := Fr.mono h fun b _ hs => by
  rcases hs with hs | rfl | rfl
  · exact ⟨hs.1, fun c t f hc => List.mem_cons_of_mem _ (List.mem_cons_of_mem _ (hs.2.1 c t f hc))⟩
  · exact ⟨hb.1, fun c t f hc => by rw [hD] at hc; cases hc; simp⟩
  · exact ⟨hb.2, fun c t f hc => by rw [hI] at hc; cases hc; simp⟩
def KqI (w0 : World) (base bx k : Nat) (t : Tr) (V : World) : Prop :=
  ∃ (B : Blk) (bd : Nat) (y : Cs) (x : DirD) (t' : Tr) (N : Nat) (sp : Int), IdxT V B bx bd y noP false N x t' sp ∧ (N + 150 ≤ 153 + 60 * k + 150 * t'.refs.length ∧ sp + 1 = t'.refs.length) ∧ bare t' = t ∧ B.base = base ∧ Fr (fun _ => False) w0 V ∧ (base = w0.heap.size ∧ base ≤ bx ∧ base ≤ bd)
section
variable {w0 V V' : World} {base bx k : Nat} {t : Tr}
theorem KqI.fr (h : KqI w0 base bx k t V) : Fr (fun _ => False) w0 V := by
  obtain ⟨_, _, _, _, _, _, _, _, _, _, _, h, _⟩ := h; exact h
theorem KqI.fr0 (h : KqI w0 base bx k t V) (F : Fr (fun _ => False) V V') : KqI w0 base bx k t V' := by
  obtain ⟨B, bd, y, x, t', N, sp, hT, h2, h3, h4, h5, h6⟩ := h
  exact ⟨B, bd, y, x, t', N, sp, hT.fr0 F, h2, h3, h4, h5.trans F (fun _ _ h => h), h6⟩
theorem KqI.mono (h : KqI w0 base bx k t V) {k' : Nat} (hk : k ≤ k') : KqI w0 base bx k' t V := by
  obtain ⟨B, bd, y, x, t', N, sp, hT, h2, h3, h4, h5, h6⟩ := h
  exact ⟨B, bd, y, x, t', N, sp, hT, ⟨by omega, h2.2⟩, h3, h4, h5, h6⟩
theorem KqI.high (h : KqI w0 base bx k t V) : t.high ≤ 3 := by
  obtain ⟨B, bd, y, x, t', N, sp, hT, h2, rfl, h4, h5, h6⟩ := h
  rw [bare_high, hT.high]; exact hT.depth
theorem refs8 {t : Tr} (h : t.high ≤ 3) : t.refs.length ≤ 8 := by
  have h1 := refs_le t
  have h2 : (2 : Nat) ^ t.high ≤ 2 ^ 3 := Nat.pow_le_pow_right (by decide) h
  omega
theorem kp_put (h : KqI w0 base bx k t V) (E : Bt) (o : Int) (hE : goodE E) (hk : k ≤ 400) {R : PutRes} (hR : putS 8 t t.high ((t.refs.length : Int) - 1) E o = R) : Calls Tryz.prog 64 #[xptr bx, btV E, .int .i64 o] V (fun e w' => e = .returned (.tuple #[.bool R.lost, .int .i64 0]) ∧ KqI w0 base bx (k + 1) R.t w' ∧ FrI base V w') := by
  have h8 := refs8 h.high
  obtain ⟨B, bd, y, x, t', N, sp, hT, ⟨hN, hsp⟩, rfl, hB, hF, hbs⟩ := h
  obtain ⟨tops, L, hM, -⟩ := hT.ex
  have hr1 := refs_pos t'
  rw [refs_bare] at h8 hR
  rw [bare_high, hT.high, show ((t'.refs.length : Int) - 1) = sp by omega] at hR
  have hp := xput_ok hT E o hE (by omega) (by omega)
  rw [hR] at hp
  refine hp.mono ?_
  rintro e w' ⟨lost, err, rfl, F, ⟨rfl, rfl, y', x', t2, N', hT', hN', hb', hx', -⟩ | ⟨_, ha, _⟩⟩
  · have hsr : R.sp + 1 = R.t.refs.length := by
      rw [← hR]; exact putS_refs 8 _ _ _ (by rw [refs_bare]; exact hsp)
    have FI : FrI base V w' := by rw [← hB]; exact frX2_frI F hM.dir hM.idx (by omega)
    refine ⟨rfl, ⟨B, bd, y', x', t2, N', R.sp, hT', ⟨by omega, by rw [hsr, ← hb', refs_bare]⟩, hb', hB, FI.fr0 (by omega) hF, hbs⟩, FI⟩
  · cases ha
theorem kp_drop (h : KqI w0 base bx k t V) {hash : Nat} (hh : hash < 18446744073709551616) (hk : k ≤ 400) : Calls Tryz.prog 70 #[xptr bx, .int .u64 hash] V (fun e w' => e = .returned (.tuple #[.bool (dropS t t.high hash).2, .int .i64 0]) ∧ KqI w0 base bx (k + 1) (dropS t t.high hash).1 w' ∧ FrI base V w') := by
  have h8 := refs8 h.high
  obtain ⟨B, bd, y, x, t', N, sp, hT, ⟨hN, hsp⟩, rfl, hB, hF, hbs⟩ := h
  obtain ⟨tops, L, hM, -⟩ := hT.ex
  rw [refs_bare] at h8
  have hp := xdrop_ok hT hh (by omega)
  rw [bare_high, hT.high]
  refine hp.mono ?_
  rintro e w' ⟨was, err, rfl, F, ⟨rfl, rfl, y', x', t2, hT', ⟨hb', hrl⟩, hx', -⟩ | ⟨_, ha, _⟩⟩
  · have FI : FrI base V w' := by rw [← hB]; exact frX2_frI F hM.dir hM.idx (by omega)
    exact ⟨rfl, ⟨B, bd, y', x', t2, N + 23, sp, hT', ⟨by omega, by omega⟩, hb', hB, FI.fr0 (by omega) hF, hbs⟩, FI⟩
  · cases ha
theorem kp_depth (h : KqI w0 base bx k t V) : Calls Tryz.prog 67 #[xptr bx] V (IntP t.high V) := by
  obtain ⟨B, bd, y, x, t', N, sp, hT, -, rfl, -⟩ := h
  obtain ⟨tops, L, hM, -⟩ := hT.ex
  have := xdepth_ok hM.idx hM.dir
  rw [bare_high, hT.high]
  exact this
theorem kp_splits (h : KqI w0 base bx k t V) : Calls Tryz.prog 68 #[xptr bx] V (IntP ((t.refs.length : Int) - 1) V) := by
  obtain ⟨B, bd, y, x, t', N, sp, hT, ⟨-, hsp⟩, rfl, -⟩ := h
  obtain ⟨tops, L, hM, -⟩ := hT.ex
  rw [refs_bare, show ((t'.refs.length : Int) - 1) = sp by omega]
  exact xsplits_ok hM.idx
end
end Go.Proofs.YtgdhaaokolfdoaaGreatDoor
namespace Go.Sg
open Go.RowKit
variable {F : Fence} {n : Nat} {P : Program}
def SeqRun {α : Type} (F : Fence) (n : Nat) (P : Program) (g : Nat) (lb : Array Value) (encs : α → Array Value) (T : α → World → Prop) (R Kp : World → World → Prop) (S Sp : List α → Prop) (E : World → Prop) (N : Nat) (w : World) : Prop :=
  ∀ (l : Nat) (J Jx : List α → World → Prop) (W : World), Below w.heap.size w W → OwnFrom W.heap.size J → OwnFrom W.heap.size Jx → (∀ pre A C, J pre A → R A C → J pre C) →
    (∀ pre x W1, J pre W1 → T x W1 → pre.length < N → YieldAt F (n - 1) P l (encs x) W1 fun e W' => (e = .returned (.bool true) ∧ J (pre ++ [x]) W' ∧ Kp W1 W') ∨ (e = .returned (.bool false) ∧ Jx (pre ++ [x]) W')) →
    J [] W → CallsIn F n P g (#[.func (.yield l) #[] #[]] ++ lb) W fun e W' => (∃ v, e = .returned v) ∧ ((∃ xs, S xs ∧ J xs W' ∧ E W') ∨ (∃ pre, Sp pre ∧ Jx pre W'))
theorem wpIn_range_run {α : Type} {g : Operand} {ps : Array Tmp} {assign body : Code} {Q : Exit → Act → World → Prop} {a : Act} {w : World}
    (hro : F.round = none) (h1 : 1 ≤ n) {gf : Nat} {lb : Array Value} (hg : a.eval g = .func (.func gf) #[] lb) (hFg : F.fn gf) (eg : ∀ args w, (callFunc gf args).run P w = .ok (.enter gf args) w)
    {encs : α → Array Value} {R Kp : World → World → Prop} {S Sp : List α → Prop} {E : World → Prop} {N : Nat} {w0 : World} {T : α → World → Prop} (I : List α → World → Prop) (hseq : SeqRun F (n - 1) P gf lb encs T R Kp S Sp E N w0)
    (hIR : ∀ pre A C, I pre A → R A C → I pre C) (hRk : ∀ A C b o, R A C → w.heap.size ≤ b → A.heap[b]? = some o → o.isCells = false → C.heap[b]? = some o)
    (hE : ∀ (W : World) (l : Nat) (o o' : Obj), w.heap.size ≤ l → W.heap[l]? = some o → o.isCells = false → o.isWalk = false → E W → E (W.putObj l o'))
    (hKt : ∀ {A B C : World}, Kp A B → Kp B C → Kp A C) (hKb : ∀ (W : World) (l : Nat) (o o' : Obj), w.heap.size ≤ l → W.heap[l]? = some o → o.isCells = false → o.isWalk = false → Kp W (W.putObj l o'))
    (hb0 : Below w0.heap.size w0 w) (hps : ∀ x, (encs x).size = ps.size)
    (Ix : Code → List α → World → Prop) (hI : OwnFrom w.heap.size I) (hIx : ∀ c, OwnFrom w.heap.size (Ix c)) (h0 : I [] w) (Ax : α → Act → World → Prop) (hAx : ∀ x a', OwnFrom w.heap.size (fun (_ : Unit) W => Ax x a' W))
    (hassign : ∀ (l : Nat) (pre : List α) (x : α) (W : World) (K : Act → World → Prop), I pre W → T x W → (∀ a' W', KeepsFrom w.heap.size W W' → Kp W W' → I pre W' → Ax x a' W' → K a' W') →
      assign.wpIn (F.inRound l) (n - 1 - 1) P (Exit.then K (fun _ _ _ => False)) { tmps := (ps.zip (encs x)).foldl (fun t (p, v) => t.setIfInBounds p v) a.tmps, defers := [] } W)
    (hbody : ∀ (l : Nat) (pre : List α) (x : α) (a' : Act) (W : World), w.heap.size ≤ l → (∃ r, W.heap[l]? = some (.loop r)) → I pre W → Ax x a' W → pre.length < N → body.wpIn (F.inRound l) (n - 1 - 1) P (bodyEnds w.heap.size Kp I Ix (pre ++ [x]) W) a' W)
    (hdone : ∀ (D : Nat) (xs : List α) (W : World), w.heap.size ≤ D → S xs → I xs W → E W → W.heap[D]? = some (.deferred (some [])) → Q .normal { a with defers := { target := .collected D, args := #[] } :: a.defers } W)
    (hstop : ∀ (D : Nat) (c : Code) (pre : List α) (W : World), w.heap.size ≤ D → Sp pre → Ix c pre W → W.heap[D]? = some (.deferred (some [])) → c.wpIn F n P Q { a with defers := { target := .collected D, args := #[] } :: a.defers } W) :
    (Code.rangeFunc g ps assign body).wpIn F n P Q a w := by
  refine wpIn_rangeFunc fun fn hfn => ?_
  rw [hro]
  -- the loop's record, in whatever state
  let rec_ : LoopState → Option Code → Loop := fun st pe => { state := st, pending := pe, fn, tmps := a.tmps, params := ps, assign, body, defers := w.heap.size }
  obtain ⟨rd, hrd⟩ : ∃ rd, rd = rec_ := ⟨_, rfl⟩
  have rst : ∀ st pe, (rd st pe).state = st := fun st pe => by rw [hrd]
  have rpe : ∀ st pe, (rd st pe).pending = pe := fun st pe => by rw [hrd]
  obtain ⟨L, hL⟩ : ∃ L, L = w.heap.size + 1 := ⟨_, rfl⟩
  obtain ⟨W1, hW1⟩ : ∃ W1, (w.alloc (.deferred (some []))).alloc (.loop (rd .ready none)) = W1 := ⟨_, rfl⟩
  obtain ⟨hD1, hL1, F1⟩ := heap_two hW1
  rw [← hL] at hL1
  have hI1 : I [] W1 := by rw [← hW1]; exact hI.alloc _ (hI.alloc _ h0)
  have hb1 : Below w0.heap.size w0 W1 := by
    refine hb0.trans ((Fr.below (S := fun _ => False) F1 (fun _ _ h => h)).mono hb0.size)
  have hs1 : W1.heap.size = w.heap.size + 2 := by rw [← hW1]; simp
  refine ⟨L, [{ target := .collected w.heap.size, args := #[] }], W1, { target := .fn (.func gf) lb, args := #[.func (.yield L) #[] #[]] }, W1, gf, #[.func (.yield L) #[] #[]] ++ lb, W1, ?_, ?_, ?_, ?_, fun _ => h1, ?_⟩
  · rw [← hW1, hL, hrd]; exact run_enterLoop_outer _ _ _ _ _
  · simp only [resolve, hg]
    simp [go_sem]
  · intro f' hf'; simp [Target.leads] at hf'; subst hf'; exact hFg
  · simp [invoke, go_sem, eg]
  -- what the two blocks of the loop's own hold
  have hwalk : ∀ {A : World} {row : Option Nat}, (∀ r, row = some r → W1.heap.size ≤ r ∧ ∃ o : Obj, A.heap[r]? = some o ∧ o.isCells = false) → (∀ r, row = some r → w.heap.size ≤ r ∧ ∃ o : Obj, A.heap[r]? = some o ∧ o.isCells = false) :=
    fun hr r e => by obtain ⟨hB, h⟩ := hr r e; exact ⟨by omega, h⟩
  have hold : ∀ {A B : World} {row : Option Nat} {b : Nat} {o : Obj}, A.grownBy B row → (∀ r, row = some r → W1.heap.size ≤ r ∧ ∃ o : Obj, A.heap[r]? = some o ∧ o.isCells = false) → b < W1.heap.size → A.heap[b]? = some o → B.heap[b]? = some o :=
    fun hg' hr hb ho => (hg'.block _ (lt_of_heap ho) (fun e => by have := (hr _ e.symm).1; omega)).trans ho
  have hY : ∀ pre x W, (I pre W ∧ W.heap[L]? = some (.loop (rd .ready none)) ∧ W.heap[w.heap.size]? = some (.deferred (some []))) → T x W → pre.length < N →
      YieldAt F (n - 1 - 1) P L (encs x) W fun e W' => (e = .returned (.bool true) ∧ (I (pre ++ [x]) W' ∧ W'.heap[L]? = some (.loop (rd .ready none)) ∧ W'.heap[w.heap.size]? = some (.deferred (some []))) ∧ Kp W W') ∨
        (e = .returned (.bool false) ∧ ∃ c, Ix c (pre ++ [x]) W' ∧ W'.heap[L]? = some (.loop (rd .done (some c))) ∧ W'.heap[w.heap.size]? = some (.deferred (some []))) := by
    rintro pre x W ⟨hi, hl, hk⟩ hT hlen
    have hy := run_yield (P := P) (args := encs x) hl (by rw [hrd]; exact hps x)
    rw [hrd] at hy
    refine ⟨fn, _, assign, body, hy, roundIn_of_wpIn hfn (hassign _ pre x W _ hi hT fun a' Wa hka hkp hia hax => ?_)⟩
    have hla := hka.same _ _ (by omega) hl rfl
    have hka' := hka.same _ _ (Nat.le_refl _) hk rfl
    have hlt : L < Wa.heap.size := lt_of_heap hla
    refine ⟨_, run_beginRound hla (rst _ _), ?_⟩
    obtain ⟨busy, hbusy⟩ : ∃ busy : Loop, { rd .ready none with state := .busy } = busy := ⟨_, rfl⟩
    rw [hbusy]
    have hl2 : (Wa.putObj L (.loop busy)).heap[L]? = some (.loop busy) := World.putObj_heap_same hlt
    have hk2 : (Wa.putObj L (.loop busy)).heap[w.heap.size]? = some (.deferred (some [])) := (World.putObj_heap_other (by omega)).trans hka'
    refine wpIn_mono (hbody _ pre x a' _ (by omega) ⟨_, hl2⟩ (hI.putObj _ hia (by omega) hla rfl) ((hAx x a').putObj (s := ()) _ hax (by omega) hla rfl) hlen) ?_
    have fin : ∀ (jump : Option Code) (W3 : World), KeepsFrom w.heap.size (Wa.putObj L (.loop busy)) W3 →
        (Instr.endRound L jump).run P W3 = .ok (.bool jump.isNone) (W3.putObj L (.loop (rd (if jump.isNone then .ready else .done) jump))) ∧ W3.heap[L]? = some (.loop busy) ∧
        (W3.putObj L (.loop (rd (if jump.isNone then .ready else .done) jump))).heap[L]? = some (.loop (rd (if jump.isNone then .ready else .done) jump)) ∧
        (W3.putObj L (.loop (rd (if jump.isNone then .ready else .done) jump))).heap[w.heap.size]? = some (.deferred (some [])) := fun jump W3 hk3 => by
      have hl3 := hk3.same _ _ (by omega) hl2 rfl
      refine ⟨?_, hl3, World.putObj_heap_same (lt_of_heap hl3), (World.putObj_heap_other (by omega)).trans (hk3.same _ _ (Nat.le_refl _) hk2 rfl)⟩
      have := run_endRound (P := P) jump hl3
      rw [← hbusy, hrd] at this
      rw [hrd]
      exact this
    have hw2 : Kp Wa (Wa.putObj L (.loop busy)) := hKb _ _ _ _ (by omega) hla rfl rfl
    rintro e a3 W3 hp
    have out : ∀ c, KeepsFrom w.heap.size (Wa.putObj L (.loop busy)) W3 ∧ Ix c (pre ++ [x]) W3 → ∃ v W4, (Instr.endRound L (some c)).run P W3 = .ok v W4 ∧ ((Ending.returned v = .returned (.bool true) ∧ (I (pre ++ [x]) W4 ∧ W4.heap[L]? = some (.loop (rd .ready none)) ∧ W4.heap[w.heap.size]? = some (.deferred (some []))) ∧ Kp W W4) ∨
        (Ending.returned v = .returned (.bool false) ∧ ∃ c, Ix c (pre ++ [x]) W4 ∧ W4.heap[L]? = some (.loop (rd .done (some c))) ∧ W4.heap[w.heap.size]? = some (.deferred (some [])))) := by
      rintro c ⟨hk3, hi3⟩
      obtain ⟨hr, hl3, hl4, hk4⟩ := fin (some c) W3 hk3
      exact ⟨_, _, hr, .inr ⟨rfl, c, (hIx c).putObj _ hi3 (by omega) hl3 rfl, hl4, hk4⟩⟩
    cases e with
    | normal =>
      obtain ⟨hk3, hkp3, hi3⟩ := hp
      obtain ⟨hr, hl3, hl4, hk4⟩ := fin none W3 hk3
      exact ⟨_, _, hr, .inl ⟨rfl, ⟨hI.putObj _ hi3 (by omega) hl3 rfl, hl4, hk4⟩, hKt hkp (hKt (hKt hw2 hkp3) (hKb _ _ _ _ (by omega) hl3 rfl rfl))⟩⟩
    | ret => exact out _ hp
    | exit id => exact out _ hp
    | goto t => exact out _ hp
    | panic ch => exact hp.elim
    | outgrown => exact hp.elim
  have hcall := hseq L (fun pre W => I pre W ∧ W.heap[L]? = some (.loop (rd .ready none)) ∧ W.heap[w.heap.size]? = some (.deferred (some [])))
    (fun pre W => ∃ c, Ix c pre W ∧ W.heap[L]? = some (.loop (rd .done (some c))) ∧ W.heap[w.heap.size]? = some (.deferred (some []))) W1 hb1
    (fun s A B row hs hg' hr => ⟨hI s A B row hs.1 hg' (hwalk hr), hold hg' hr (by omega) hs.2.1, hold hg' hr (by omega) hs.2.2⟩)
    (fun s A B row hs hg' hr => by
      obtain ⟨c, hc, hl, hk⟩ := hs
      exact ⟨c, hIx c s A B row hc hg' (hwalk hr), hold hg' hr (by omega) hl, hold hg' hr (by omega) hk⟩)
    (fun pre A C hj hR => ⟨hIR pre A C hj.1 hR, hRk A C _ _ hR (by omega) hj.2.1 rfl, hRk A C _ _ hR (Nat.le_refl _) hj.2.2 rfl⟩)
    hY ⟨hI1, hL1, hD1⟩
  refine hcall.mono ?_
  rintro e W2 ⟨⟨v, rfl⟩, (⟨xs, hS, ⟨hi, hl, hk⟩, hEn⟩ | ⟨pre, hSp, c, hi, hl, hk⟩)⟩
  · have hr := run_endLoop (P := P) hl (by rw [rst]; simp)
    rw [rpe] at hr
    exact ⟨none, _, hr, hdone _ xs _ (Nat.le_refl _) hS (hI.putObj _ hi (by omega) hl rfl) (hE _ _ _ _ (by omega) hl rfl rfl hEn) ((World.putObj_heap_other (by omega)).trans hk)⟩
  · have hr := run_endLoop (P := P) hl (by rw [rst]; simp)
    rw [rpe] at hr
    exact ⟨some c, _, hr, hstop _ c pre _ (Nat.le_refl _) hSp ((hIx c).putObj _ hi (by omega) hl rfl) ((World.putObj_heap_other (by omega)).trans hk)⟩
end Go.Sg
namespace Go.Proofs.YtgdhaaokolfdoaaGreatDoor
open Go.RowKit Go.Sg Go.Sg.Bits Go.Sg.Clk CP SF
abbrev Sd := Nat × Nat × Rf × List Bt
def slotsD : Tr → Nat → Nat → Nat → List Sd
  | .leaf r es, g, d, p => List.replicate (2 ^ g) (d, p, r, es)
  | .node l r, g, d, p => slotsD l (g - 1) (d + 1) (2 * p) ++ slotsD r (g - 1) (d + 1) (2 * p + 1)
def lvs : Tr → Nat → Nat → List Sd
  | .leaf r es, d, p => [(d, p, r, es)]
  | .node l r, d, p => lvs l (d + 1) (2 * p) ++ lvs r (d + 1) (2 * p + 1)
theorem slotsD_refs : ∀ (t : Tr) (g d p : Nat), (slotsD t g d p).map (·.2.2.1) = t.slots g
  | .leaf r es, g, d, p => by simp [slotsD, Tr.slots]
  | .node l r, g, d, p => by simp only [slotsD, Tr.slots, List.map_append, slotsD_refs l, slotsD_refs r]
theorem slotsD_len (t : Tr) (g d p : Nat) (h : t.high ≤ g) : (slotsD t g d p).length = 2 ^ g := by
  have := congrArg List.length (slotsD_refs t g d p)
  rw [List.length_map, Tr.slots_len t g h] at this
  exact this
theorem slotsD_mem : ∀ (t : Tr) (g d p : Nat) (s : Sd), s ∈ slotsD t g d p → s ∈ lvs t d p
  | .leaf r es, g, d, p, s, h => by
    have := List.eq_of_mem_replicate h
    simp [lvs, this]
  | .node l r, g, d, p, s, h => by
    simp only [slotsD, lvs, List.mem_append] at h ⊢
    exact h.imp (slotsD_mem l _ _ _ s) (slotsD_mem r _ _ _ s)
theorem lds_lvs : ∀ (t : Tr) (d p : Nat), lds t d p = (lvs t d p).map fun s => (s.2.2.1, packM s.1 s.2.1 s.2.2.2)
  | .leaf r es, d, p => rfl
  | .node l r, d, p => by simp only [lds, lvs, List.map_append, lds_lvs l, lds_lvs r]
theorem lvs_ok : ∀ (t : Tr) (d p : Nat), okT t d p → p < 2 ^ d → ∀ s ∈ lvs t d p, BkOk s.1 s.2.1 s.2.2.2 ∧ s.2.1 < 2 ^ s.1 ∧ d ≤ s.1 ∧ s.1 ≤ d + t.high
  | .leaf r es, d, p, h, hp, s, hs => by
    simp only [lvs, List.mem_singleton] at hs
    subst hs
    exact ⟨h, hp, Nat.le_refl _, Nat.le_add_right _ _⟩
  | .node l r, d, p, h, hp, s, hs => by
    simp only [lvs, List.mem_append] at hs
    simp only [Tr.high]
    have e : 2 ^ (d + 1) = 2 ^ d * 2 := Nat.pow_succ ..
    rcases hs with hs | hs
    · obtain ⟨h1, h2, h3, h4⟩ := lvs_ok l _ _ h.1 (by omega) s hs
      exact ⟨h1, h2, by omega, by omega⟩
    · obtain ⟨h1, h2, h3, h4⟩ := lvs_ok r _ _ h.2 (by omega) s hs
      exact ⟨h1, h2, by omega, by omega⟩
theorem nodup_inj {α β : Type} {f : α → β} : ∀ {l : List α}, (l.map f).Nodup → ∀ {x y : α}, x ∈ l → y ∈ l → f x = f y → x = y
  | [], _, x, y, hx, _, _ => by cases hx
  | a :: l, h, x, y, hx, hy, e => by
    rw [List.map_cons, List.nodup_cons] at h
    rcases List.mem_cons.1 hx with e1 | hx'
    · rcases List.mem_cons.1 hy with e2 | hy'
      · rw [e1, e2]
      · refine absurd ?_ h.1
        rw [← e1, e]; exact List.mem_map_of_mem hy'
    · rcases List.mem_cons.1 hy with e2 | hy'
      · refine absurd ?_ h.1
        rw [← e2, ← e]; exact List.mem_map_of_mem hx'
      · exact nodup_inj h.2 hx' hy' e
theorem lvs_inj {t : Tr} {L : List Bp} (hn : (bpg L).Nodup) (hP : L.Perm (lds t 0 0)) {s s' : Sd} (hs : s ∈ lvs t 0 0) (hs' : s' ∈ lvs t 0 0) (e : s.2.2.1 = s'.2.2.1) : s = s' := by
  have h1 : ((lds t 0 0).map fun q => q.1.1.toNat).Nodup := (hP.map _).nodup_iff.1 hn
  rw [lds_lvs, List.map_map] at h1
  exact nodup_inj h1 hs hs' (by simp only [Function.comp_apply, e])
theorem lvs_in {t : Tr} {L : List Bp} (hP : L.Perm (lds t 0 0)) {s : Sd} (hs : s ∈ lvs t 0 0) : (s.2.2.1, packM s.1 s.2.1 s.2.2.2) ∈ L := by
  rw [hP.mem_iff, lds_lvs]
  exact List.mem_map.2 ⟨s, hs, rfl⟩
def PtB (bo : Nat) (A : World) (g : Nat) : Prop := ∃ v : Value, A.heap[bo]? = some (.cells #[v] 124) ∧ v.ownBlock = some g
def OutB (bo : Nat) (A : World) (g : Nat) : Prop := PtB bo A g ∧ ∃ c f, A.heap[g]? = some (.cells c 131 f)
def BoxO (bo : Nat) (A : World) : Prop := ∃ v : Value, A.heap[bo]? = some (.cells #[v] 124)
structure KpO (m bo : Nat) (A C : World) : Prop where
  os : C.os = A.os
  tape : C.tape = A.tape
  output : C.output = A.output
  size : A.heap.size ≤ C.heap.size
  keep : ∀ b o, A.heap[b]? = some o → b ≠ bo → ¬ OutB bo A b → (b < m ∨ o.isCells = true) → C.heap[b]? = some o
  pt : ∀ g, PtB bo C g → A.heap.size ≤ g ∨ PtB bo A g
  box : BoxO bo A → BoxO bo C
theorem KpO.trans {m bo : Nat} {A C D : World} (h : KpO m bo A C) (k : KpO m bo C D) : KpO m bo A D := by
  refine ⟨k.os.trans h.os, k.tape.trans h.tape, k.output.trans h.output, Nat.le_trans h.size k.size, fun b o hb hne hno hc => ?_, fun g hg => ?_, fun hb => k.box (h.box hb)⟩
  · have h1 := h.keep b o hb hne hno hc
    refine k.keep b o h1 hne (fun ⟨hp, c, f, hcf⟩ => ?_) hc
    rcases h.pt b hp with hp | hp
    · have := lt_of_heap hb; omega
    · rw [h1] at hcf; cases hcf
      exact hno ⟨hp, c, f, hb⟩
  · rcases k.pt g hg with h1 | h1
    · exact .inl (Nat.le_trans h.size h1)
    · exact h.pt g h1
structure Acc (bo : Nat) (A C : World) : Prop where
  size : A.heap.size ≤ C.heap.size
  keep : ∀ b c t f, A.heap[b]? = some (.cells c t f) → t ∉ 131 :: mutT → b ≠ bo → C.heap[b]? = some (.cells c t f)
  pt : ∀ g, PtB bo C g → A.heap.size ≤ g ∨ PtB bo A g
  box : BoxO bo C
theorem Acc.refl {bo : Nat} {A : World} (h : BoxO bo A) : Acc bo A A := ⟨Nat.le_refl _, fun _ _ _ _ h _ _ => h, fun _ h => .inr h, h⟩
theorem Acc.trans {bo : Nat} {A C D : World} (h : Acc bo A C) (k : Acc bo C D) : Acc bo A D :=
  ⟨Nat.le_trans h.size k.size, fun b c t f hb ht hne => k.keep b c t f (h.keep b c t f hb ht hne) ht hne, fun g hg => (k.pt g hg).elim (fun h1 => .inl (Nat.le_trans h.size h1)) (h.pt g), k.box⟩
theorem KpO.acc {m bo : Nat} {A C : World} (h : KpO m bo A C) (hb : BoxO bo A) : Acc bo A C :=
  ⟨h.size, fun b c t f hc ht hne => h.keep b _ hc hne (fun ⟨_, c', f', e⟩ => by rw [hc] at e; cases e; exact ht (by simp)) (.inr rfl), h.pt, h.box hb⟩
theorem FrB.acc {B : Blk} {bo : Nat} {A C : World} (h : FrB B A C) (hb : BoxO bo A) : Acc bo A C := by
  obtain ⟨v, hv⟩ := hb
  have hc := h.heap hv (by decide)
  refine ⟨h.size, fun b c t f hc ht hne => h.heap hc (fun hm => ht (List.mem_cons_of_mem _ hm)), fun g ⟨v', hv', ho⟩ => ?_, ⟨v, hc⟩⟩
  rw [hc] at hv'; cases hv'
  exact .inr ⟨v, hv, ho⟩
theorem StoreAt.frG {S : Nat → Prop} {w w' : World} {B : Blk} {x : Sto} (h : StoreAt w B x) (F : Fr S w w') (h1 : ∀ r, ¬ S (B.at_ r)) (h4 : ∀ g c' t', t' ∈ 5 :: mutT → w.heap[g]? = some (.cells c' t') → ¬ S g) : StoreAt w' B x := by
  refine ⟨F.heap h.s (h1 .s), h.dev.fr F (h1 .d) (h1 .bf) (h1 .bq) fun g c' t' h5 hg => h4 g c' t' (by rcases h5 with rfl | rfl | rfl <;> decide) hg, h.bits.fr F (h1 .bs) (h1 .bw), h.fr.fr F (h1 .fr), h.dy.fr F (h1 .dy), h.de.fr F (h1 .de), h.mem.fr F (h1 .bc) (h1 .bp) (h1 .bm), fun k p hp => ?_, h.ne, h.ge, h.rg, h.inr⟩
  obtain ⟨bs, hb, hl⟩ := h.load k p hp
  exact ⟨bs, hb.fr F fun b c hc => h4 b c 5 (by decide) hc, hl⟩
theorem StoreC.frG {S : Nat → Prop} {w w' : World} {B : Blk} {y : Cs} {P : Prot} {a : Bool} {N : Nat} (h : StoreC w B y P a N) (F : Fr S w w') (h1 : ∀ r, ¬ S (B.at_ r)) (h4 : ∀ g c' t', t' ∈ 5 :: mutT → w.heap[g]? = some (.cells c' t') → ¬ S g) (h0 : ¬ S 0) : StoreC w' B y P a N := by
  obtain ⟨⟨x, c, hS, hy, hi⟩, hT, hb⟩ := h
  exact ⟨⟨x, c, hS.frG F h1 h4, hy, { hi with holds := ⟨hi.holds.ok, fun k q hq => by obtain ⟨st, bs, e1, e2, e3, e4⟩ := hi.holds.mem k q hq; exact ⟨st, bs, e1, e2, e3.fr F fun b c hc => h4 b c 5 (by decide) hc, e4⟩, hi.holds.dev⟩ }⟩, hT.fr F h0, hb⟩
theorem StoreC.roles {w : World} {B : Blk} {y : Cs} {P : Prot} {a : Bool} {N : Nat} (h : StoreC w B y P a N) (r : Role) : B.at_ r < w.heap.size := by
  obtain ⟨⟨x, c, hS, hy, hi⟩, hT, hb⟩ := h
  exact (hS.heaps r).2.2.1
theorem StoreC.role_kd {w : World} {B : Blk} {y : Cs} {P : Prot} {a : Bool} {N : Nat} (h : StoreC w B y P a N) (r : Role) {c : Array Value} {t : TypeId} {f : Nat × Nat} (hc : w.heap[B.at_ r]? = some (.cells c t f)) : t ∈ mutT := by
  obtain ⟨⟨x, c', hS, hy, hi⟩, hT, hb⟩ := h
  exact (hS.heaps r).2.1 c t f hc
section
variable {B : Blk} {bx bd : Nat} {y : Cs} {P : Prot} {a : Bool} {N : Nat} {x : DirD} {tops slots : List Rf} {L : List Bp} {sp : Int}
theorem IdxM.frG {S : Nat → Prop} {w w' : World} (h : IdxM w B bx bd y P a N x tops slots L sp) (F : Fr S w w') (h1 : ∀ r, ¬ S (B.at_ r)) (h4 : ∀ g c' t', t' ∈ 5 :: 227 :: 209 :: mutT → w.heap[g]? = some (.cells c' t') → ¬ S g) (h0 : ¬ S 0) : IdxM w' B bx bd y P a N x tops slots L sp :=
  { h with
    st := h.st.frG F h1 (fun g c t ht hg => h4 g c t (by simp only [List.mem_cons] at ht ⊢; rcases ht with ht | ht <;> simp [ht]) hg) h0
    idx := F.heap h.idx (h4 bx _ 227 (by simp) h.idx)
    dir := F.heap h.dir (h4 bd _ 209 (by simp) h.dir) }
theorem IdxM.kpO {m bo : Nat} {A C : World} (h : IdxM A B bx bd y P a N x tops slots L sp) (K : KpO m bo A C) (hm : ∀ r, B.at_ r < m) (hbo : BoxO bo A ∧ 0 < bo) (hp : ∀ g, PtB bo A g → 0 < g) (h0 : 0 < m) : IdxM C B bx bd y P a N x tops slots L sp := by
  have F : Fr (fun b => b = bo ∨ OutB bo A b ∨ (m ≤ b ∧ ∃ o, A.heap[b]? = some o ∧ o.isCells = false)) A C :=
    ⟨K.os, K.tape, K.output, K.size, fun b hb hs => by
      simp only [not_or] at hs
      obtain ⟨o, ho⟩ : ∃ o, A.heap[b]? = some o := ⟨_, Array.getElem?_eq_getElem hb⟩
      rw [ho]
      refine K.keep b o ho hs.1 hs.2.1 ?_
      by_cases hbm : b < m
      · exact .inl hbm
      · cases hc : o.isCells with
        | true => exact .inr rfl
        | false => exact absurd ⟨by omega, o, ho, hc⟩ hs.2.2⟩
  obtain ⟨⟨v, hv⟩, hbo0⟩ := hbo
  refine h.frG F (fun r hs => ?_) (fun g c' t' ht hg hs => ?_) (fun hs => ?_)
  · rcases hs with e | ⟨-, c, f, hc⟩ | ⟨hb, -⟩
    · rw [← e] at hv
      exact absurd (h.st.role_kd r hv) (by decide)
    · exact absurd (h.st.role_kd r hc) (by decide)
    · have := hm r; omega
  · rcases hs with e | ⟨-, c, f, hc⟩ | ⟨hb, o, ho, hc⟩
    · rw [e, hv] at hg; cases hg; exact absurd ht (by decide)
    · rw [hg] at hc; cases hc; exact absurd ht (by decide)
    · rw [hg] at ho; cases ho; cases hc
  · rcases hs with e | ⟨hp0, -⟩ | ⟨hb, -⟩
    · omega
    · have := hp 0 hp0; omega
    · omega
theorem IdxM.putL {m : Nat} {W : World} {l : Nat} {o o' : Obj} (h : IdxM W B bx bd y P a N x tops slots L sp) (hl : m ≤ l) (hm : ∀ r, B.at_ r < m) (h0 : 0 < m) (ho : W.heap[l]? = some o) (hc : o.isCells = false) : IdxM (W.putObj l o') B bx bd y P a N x tops slots L sp :=
  h.frG (S := fun b => b = l) ((Fr.refl (fun b => b = l) W).putObj (fun _ => rfl) o') (fun r e => by have := hm r; omega) (fun g c t _ hg e => by rw [e, ho] at hg; cases hg; cases hc) (by omega)
end
end Go.Proofs.YtgdhaaokolfdoaaGreatDoor
namespace Go.Proofs.YtgdhaaokolfdoaaGreatDoor
open Go.RowKit Go.Sg Go.Sg.Bits Go.Sg.Clk CP SF
def mxD (l : List Sd) : Nat := l.foldr (fun s a => max s.1 a) 0
theorem mxD_append (a b : List Sd) : mxD (a ++ b) = max (mxD a) (mxD b) := by
  induction a with
  | nil => simp [mxD]
  | cons x a ih =>
    show max x.1 (mxD (a ++ b)) = max (max x.1 (mxD a)) (mxD b)
    rw [ih]; omega
theorem mxD_rep (s : Sd) : ∀ n, mxD (List.replicate (n + 1) s) = s.1
  | 0 => by simp [mxD]
  | n + 1 => by
    rw [List.replicate_succ]
    show max s.1 (mxD (List.replicate (n + 1) s)) = s.1
    rw [mxD_rep s n]; omega
theorem mxD_slots : ∀ (t : Tr) (g d p : Nat), t.high ≤ g → mxD (slotsD t g d p) = d + t.high
  | .leaf r es, g, d, p, _ => by
    obtain ⟨m, hm⟩ : ∃ m, 2 ^ g = m + 1 := ⟨2 ^ g - 1, by have := Nat.pow_pos (n := g) (show 0 < 2 by decide); omega⟩
    simp only [slotsD, hm, mxD_rep, Tr.high, Nat.add_zero]
  | .node l r, g, d, p, h => by
    simp only [Tr.high] at h
    simp only [slotsD, mxD_append, mxD_slots l (g - 1) (d + 1) (2 * p) (by omega), mxD_slots r (g - 1) (d + 1) (2 * p + 1) (by omega), Tr.high]
    omega
theorem mxD_step {l : List Sd} {k : Nat} {s : Sd} (hs : l[k]? = some s) : mxD (l.take (k + 1)) = max (mxD (l.take k)) s.1 := by
  rw [List.take_add_one, hs, mxD_append]; simp [mxD]
def cnt : Option Rf → List Sd → Nat
  | _, [] => 0
  | o, s :: l => (if o = some s.2.2.1 then 0 else 1) + cnt (some s.2.2.1) l
def lastR (o : Option Rf) : List Sd → Option Rf
  | [] => o
  | s :: l => lastR (some s.2.2.1) l
theorem cnt_append : ∀ (a b : List Sd) (o : Option Rf), cnt o (a ++ b) = cnt o a + cnt (lastR o a) b
  | [], b, o => by simp [cnt, lastR]
  | s :: a, b, o => by
    show _ + cnt (some s.2.2.1) (a ++ b) = _ + cnt (some s.2.2.1) a + _
    rw [cnt_append a b]
    simp only [lastR]; omega
theorem lastR_append (s : Sd) : ∀ (a : List Sd) (o : Option Rf), lastR o (a ++ [s]) = some s.2.2.1
  | [], o => rfl
  | x :: a, o => lastR_append s a _
theorem lastR_mem : ∀ (a : List Sd) (o : Option Rf), a ≠ [] → ∃ s ∈ a, lastR o a = some s.2.2.1
  | [], _, h => absurd rfl h
  | [s], _, _ => ⟨s, by simp, rfl⟩
  | s :: x :: a, o, _ => by
    obtain ⟨z, hz, e⟩ := lastR_mem (x :: a) (some s.2.2.1) (by simp)
    exact ⟨z, List.mem_cons_of_mem _ hz, e⟩
theorem cnt_rep (s : Sd) : ∀ (n : Nat) (o : Option Rf), o ≠ some s.2.2.1 → cnt o (List.replicate (n + 1) s) = 1
  | 0, o, h => by simp [cnt, h]
  | n + 1, o, h => by
    have e : ∀ m, cnt (some s.2.2.1) (List.replicate m s) = 0 := fun m => by
      induction m with
      | zero => rfl
      | succ m ih => rw [List.replicate_succ]; simp [cnt, ih]
    rw [List.replicate_succ]
    simp only [cnt, if_neg h, e]
theorem slotsD_ne (t : Tr) (g d p : Nat) (h : t.high ≤ g) : slotsD t g d p ≠ [] := fun e => by
  have := slotsD_len t g d p h
  rw [e] at this
  have := Nat.pow_pos (n := g) (show 0 < 2 by decide)
  simp at *
  omega
theorem lvs_refs : ∀ (t : Tr) (d p : Nat), (lvs t d p).map (·.2.2.1) = t.refs
  | .leaf r es, d, p => rfl
  | .node l r, d, p => by simp only [lvs, Tr.refs, List.map_append, lvs_refs l, lvs_refs r]
theorem slotsD_ref {t : Tr} {g d p : Nat} {s : Sd} (h : s ∈ slotsD t g d p) : s.2.2.1 ∈ t.refs := by
  rw [← lvs_refs t d p]
  exact List.mem_map_of_mem (f := fun s : Sd => s.2.2.1) (slotsD_mem _ _ _ _ _ h)
theorem cnt_slots : ∀ (t : Tr) (g d p : Nat) (o : Option Rf), t.high ≤ g → t.refs.Nodup → (∀ r ∈ t.refs, o ≠ some r) → cnt o (slotsD t g d p) = t.refs.length
  | .leaf r es, g, d, p, o, _, _, h => by
    obtain ⟨m, hm⟩ : ∃ m, 2 ^ g = m + 1 := ⟨2 ^ g - 1, by have := Nat.pow_pos (n := g) (show 0 < 2 by decide); omega⟩
    simp only [slotsD, hm, Tr.refs]
    rw [cnt_rep _ _ _ (h r (by simp [Tr.refs]))]; rfl
  | .node l r, g, d, p, o, hg, hn, h => by
    simp only [Tr.high] at hg
    simp only [Tr.refs, List.nodup_append] at hn
    simp only [slotsD, Tr.refs, cnt_append, List.length_append]
    obtain ⟨z, hz, e⟩ := lastR_mem (slotsD l (g - 1) (d + 1) (2 * p)) o (slotsD_ne _ _ _ _ (by omega))
    rw [e, cnt_slots l _ _ _ o (by omega) hn.1 (fun q hq => h q (by simp [Tr.refs, hq])), cnt_slots r _ _ _ (some z.2.2.1) (by omega) hn.2.1 (fun q hq e' => hn.2.2 _ (slotsD_ref hz) _ hq (Option.some.inj e'))]
theorem lastR_take {l : List Sd} {k : Nat} {s : Sd} (hs : l[k]? = some s) : lastR none (l.take (k + 1)) = some s.2.2.1 := by
  rw [List.take_add_one, hs]; exact lastR_append s _ _
theorem cnt_step {l : List Sd} {k : Nat} {s : Sd} (hs : l[k]? = some s) : cnt none (l.take (k + 1)) = cnt none (l.take k) + (if lastR none (l.take k) = some s.2.2.1 then 0 else 1) := by
  rw [List.take_add_one, hs, cnt_append]; simp [cnt]
theorem refs_nodup {t : Tr} {L : List Bp} (hn : (bpg L).Nodup) (hP : L.Perm (lds t 0 0)) : t.refs.Nodup := by
  have h1 : ((lds t 0 0).map fun q => q.1.1.toNat).Nodup := (hP.map _).nodup_iff.1 hn
  rw [lds_lvs, List.map_map] at h1
  rw [← lvs_refs t 0 0]
  unfold List.Nodup at h1 ⊢
  rw [List.pairwise_map] at h1 ⊢
  refine h1.imp fun {a b} h e => h ?_
  simp only [Function.comp_apply, e]
end Go.Proofs.YtgdhaaokolfdoaaGreatDoor
namespace Go.Proofs.YtgdhaaokolfdoaaGreatDoor
open Go.RowKit Go.Sg Go.Sg.Bits Go.Sg.Clk CP SF
set_option maxRecDepth 100000 in
theorem xput_bad {E : Bt} (hh : E.hash < 18446744073709551616) (hb : rightE E = false) (bx : Nat) (o : Int) (w : World) :
    Calls Tryz.prog 64 #[xptr bx, btV E, .int .i64 o] w fun e w' => e = .returned (.tuple #[.bool false, .int .i64 5]) ∧ Fr (fun _ => False) w w' := by
  obtain ⟨w1, hw1⟩ : ∃ w1, w.alloc (.cells #[.int .u64 E.hash, .int .i64 E.rg, .int .i64 E.at_, .int .i64 E.sz] 118) = w1 := ⟨_, rfl⟩
  have b1 : w1.heap[w.heap.size]? = some (.cells #[.int .u64 E.hash, .int .i64 E.rg, .int .i64 E.at_, .int .i64 E.sz] 118) := by rw [← hw1]; exact heap_alloc_new _ _
  have F1 : Fr (fun _ => False) w w1 := by rw [← hw1]; exact (Fr.refl _ _).alloc _
  have HF := hid F1
  have hx := xentry17 hh w1
  rw [hb] at hx
  have HX := hid hx
  obtain ⟨t0, t1, t2, t3, tz, tl⟩ := cells4b b1
  have HW := hid hw1
  clear hw1 b1 F1 hx hb
  go_enter Tryz.func64, Tryz.ntmps64
  go_upto_region 1 with fail
  rw [HW.out]
  go_step3
  go_wp2_with fail
  refine HX.out.mono ?_
  rintro e w2 ⟨rfl, F2⟩
  have HF2 := hid (HF.out.trans F2 (fun _ _ h => h))
  clear F2 t0 t1 t2 t3 tz tl
  go_wp2_with fail
  simp only [Exit.noGoto]
  go_ret2
  exact ⟨rfl, HF2.out⟩
end Go.Proofs.YtgdhaaokolfdoaaGreatDoor
