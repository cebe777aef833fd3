/- A pack of texts: KY, RL, DI, FH, EA, OA, EB, EN, EC. Conditions: those that each text names. -/
import Derived.Test.YtgdhaaokolfdoaaGreatDoorQA
import Derived.Test.YtgdhaaokolfdoaaGreatDoorQF
import Derived.RangeFuncNested
import Derived.RangeFuncRecord
import Derived.Test.YtgdhaaokolfdoaaGreatDoorQC
import Derived.Shelf.RegionOpen
import Derived.Test.YtgdhaaokolfdoaaGreatDoorQH
import Derived.Test.YtgdhaaokolfdoaaGreatDoorQG
import Derived.Test.YtgdhaaokolfdoaaGreatDoorQB
/- The clock of pages: Keys. Conditions: the clock lies in the world as AtP says. -/
namespace Go.Proofs.YtgdhaaokolfdoaaGreatDoor
open Go.RowKit Go.Sg Go.Sg.Clk Go.Shelf CP
attribute [local go_sem] Oper.semAt_some
/-- The numbers of the places that are full. -/
def keysOf (pl : List Pl) : List Int := (fullAt pl.length pl).map (·.2.key)
def HoldsK (w : World) (pre : List (Nat × Pl)) (W : World) : Prop :=
  ∃ v, Boxed W w.heap.size 52 v ∧ W.ownsRow w.heap.size 3 1 v pre.length (pre.map (fun x => Value.int .i64 x.2.key)) ∧ True
set_option maxRecDepth 100000 in
set_option maxHeartbeats 2000000 in
theorem keys_at {w : World} {bc bp bm hand : Nat} {pl : List Pl} (h : AtP w bc bp bm pl hand) :
    Calls Tryz.prog 169 #[.pointer (some ⟨bc, 0, none⟩)] w fun e w' => ∃ v, e = .returned v ∧ w'.ownsRow w.heap.size 3 1 v (keysOf pl).length ((keysOf pl).map (Value.int .i64)) ∧ Fr (fun _ => False) w w' := by
  obtain ⟨i0, hi0, hz0, hz1, hz2⟩ := info_parts Tryz.info3
  refine (callsIn_wide (n := 10)).1 ?_
  have hr := h.room
  have F := hid (full_any (some ⟨bc, 0, none⟩) (w.alloc (.cells #[.slice none 0 0] 52)))
  refine callsIn_of_wp_marks Tryz.func169 rfl trivial ?_ rfl
  simp only [Tryz.ntmps169, List.size_toArray, List.length_cons, List.length_nil, Nat.reduceAdd, Nat.reduceSub, Array.replicate_succ, Array.replicate_zero, List.push_toArray, List.append_toArray, List.nil_append, List.cons_append]
  gi_wp2_with (gi_at_call 228; refine (callsIn_wide.2 F.out).mono ?_; rintro e w' ⟨rfl, rfl⟩)
  obtain ⟨W0, hW0⟩ : ∃ W0, (w.alloc (.cells #[.slice none 0 0] 52)).alloc (.cells #[.pointer (some ⟨bc, 0, none⟩)] 154) = W0 := ⟨_, rfl⟩
  have hF0 : Fr (fun _ => False) w W0 := by rw [← hW0]; exact ((Fr.refl _ w).alloc _).alloc _
  have hsz : W0.heap.size = w.heap.size + 1 + 1 := by rw [← hW0]; simp
  have hnx : W0.heap[w.heap.size]? = some (.cells #[.slice none 0 0] 52) := by rw [← hW0]; exact (heap_alloc_lt _ _ _ (by simp)).trans (heap_alloc_new _ _)
  have hbx : W0.cell? ⟨w.heap.size + 1, 0, none⟩ = some (.pointer (some ⟨bc, 0, none⟩)) := by rw [← hW0]; simp [go_sem]
  have h0 : AtP W0 bc bp bm pl hand := h.fr hF0 (fun h => h) (fun h => h) (fun h => h)
  have hbp := lt_of_heap h0.p
  have hlb := lt_of_heap h.p
  simp only [hW0]
  have hKB : ∀ (W : World) (l : Nat) (o o' : Obj), W0.heap.size ≤ l → W.heap[l]? = some o → o.isCells = false → o.isWalk = false → (W.putObj l o').heap[bp]? = W.heap[bp]? := fun W l o o' hl _ _ _ => heap_putObj_ne _ _ _ _ (by omega)
  refine wpIn_rangeFunc_ownH (F := Fence.wide) rfl (by omega) (gf := 268) (lb := #[.pointer (some ⟨w.heap.size + 1, 0, none⟩)]) rfl trivial (enters_of Tryz.func268 (by kernel_rfl) rfl)
    (fullf_stops h0 hbx) (fun h k => k.trans h) hKB (Below.refl _ _) (fun _ => rfl)
    (fun pre W => HoldsK w pre W ∧ Fr (fun _ => False) w W ∧ Fr (fun _ => True) W0 W)
    (fun _ _ _ => False)
    (own_and ((holdsRow_own w.heap.size w.heap.size 52 3 1 (fun pre : List (Nat × Pl) => pre.length) (fun pre => pre.map (fun x => Value.int .i64 x.2.key)) (fun _ _ => True)).from _) (own_and (own_fr (by omega)) (own_fr (Nat.le_refl _))))
    (fun _ _ _ _ _ h => h.elim)
    ⟨⟨_, hnx, World.ownsRow_nil _ _ _ _, trivial⟩, hF0, Fr.refl _ _⟩
    (fun x a' W => ∃ Bx, (W0.heap.size ≤ Bx ∧ W.heap[Bx]? = some (.cells #[.int .i64 x.2.key, .int .i64 x.2.v.stamp, .slice x.2.v.la x.2.v.ll x.2.v.lc, .bool x.2.v.dirty, .bool x.2.full, .bool x.2.marked] 264)) ∧ a' = { tmps := #[.pointer (some ⟨bc, 0, none⟩), undef, .slice none 0 0, .pointer (some ⟨w.heap.size, 0, none⟩), undef, .pointer (some ⟨Bx, 0, none⟩), .pointer (some ⟨bc, 0, none⟩), .bool false, .pointer (some ⟨bc, 0, none⟩), .func (.func 268) #[] #[.pointer (some ⟨w.heap.size + 1, 0, none⟩)], .int .i64 x.1, .agg #[.int .i64 x.2.key, .int .i64 x.2.v.stamp, .slice x.2.v.la x.2.v.ll x.2.v.lc, .bool x.2.v.dirty, .bool x.2.full, .bool x.2.marked], undef, undef, undef, undef, undef, undef], defers := [] })
    (fun x a' => own_ex fun Bx => own_and (own_and (own_pure _ _) (own_block _ _ _ (fun _ => .inl rfl))) (own_pure _ _))
    ?assign ?body ?done ?stop
  case assign =>
    rintro l pre x W K ⟨hI, hF, hFT⟩ hK
    have hsW := hF.size
    have FN : Fr (fun _ => False) W (W.alloc (.cells #[.int .i64 x.2.key, .int .i64 x.2.v.stamp, .slice x.2.v.la x.2.v.ll x.2.v.lc, .bool x.2.v.dirty, .bool x.2.full, .bool x.2.marked] 264)) := (Fr.refl _ _).alloc _
    obtain ⟨v, hv, hown, -⟩ := hI
    have hW0 : W0.heap.size ≤ W.heap.size := hFT.size
    have HI := hid (And.intro hv (And.intro hown (And.intro hF hFT)))
    have HK := hid hK
    clear hv hown hF hFT hK h0 hnx hbx
    gi_wp2
    obtain ⟨hv, hown, hF, hFT⟩ := HI.out
    refine HK.out _ _ ((KeepsOthers.alloc _ _).from _) (FN.block _ (by omega) (fun h => h)) ⟨⟨v, FN.heap hv (fun h => h), hown.alloc _, trivial⟩, hF.trans FN (fun _ _ h => h), hFT.alloc _⟩ ⟨W.heap.size, ⟨hW0, heap_alloc_new _ _⟩, rfl⟩
  case body =>
    rintro l pre x a' W hl ⟨r, hr⟩ ⟨⟨v, hv, hown, -⟩, hF, hFT⟩ ⟨Bx, ⟨hBx, hbX⟩, rfl⟩ hlen
    have e0 := hv.cell
    have e1 := hv.frozen
    have l1 := hv.lt
    have hsW := hF.size
    have z0 := cell_of_heap hbX 0
    simp at z0
    have HV := hid hv
    have HO := hid hown
    clear hv hown h0 hnx hbx hbX
    gi_wp2_with (gi_at_builtin; refine wpListIn_append_own _ rfl (.tmp 12) (.tmp 15) 52 rfl w.heap.size 3 i0 _ 1 8 Tryz.underlying52 hi0 hz0 hz1 hz2 rfl (by decide) _ _ _ rfl (HO.out.alloc _) ⟨W.heap.size, 0, none⟩ 1 1 [.int .i64 x.2.key] rfl rfl (cell_one_new _ _ _) (by simp [Value.oneCell']) ?c3 ?c4 ?c5 ?_)
    case c3 => simp [maxLen]; omega
    case c4 => omega
    case c5 => simp; omega
    intro v1 w2 hown2 hgrow hnil
    obtain ⟨g, cap, rfl⟩ := ownsRow_succ hown2
    obtain ⟨d1, d2, d3, d4, d5⟩ := HV.out.appended (by decide) HO.out hsW (Nat.le_refl _) hown2 hgrow
    have f0 := d1.cell
    have f1 := d1.frozen
    have D2 := hid d2
    have D3 := hid d3
    clear hown2 hgrow hnil d1 d2 d3
    gi_wp2
    refine ⟨d4.from _, d5.block _ (by omega), ⟨_, D2.out, by simpa using D3.out, trivial⟩, ?_, ⟨d5.os.trans hFT.os, d5.tape.trans hFT.tape, d5.output.trans hFT.output, Nat.le_trans hFT.size d5.size, fun _ _ hn => absurd trivial hn⟩⟩
    exact ⟨d5.os.trans hF.os, d5.tape.trans hF.tape, d5.output.trans hF.output, Nat.le_trans hF.size d5.size, fun b hb hn => (d5.block b hb).trans (hF.block b hb hn)⟩
  case done =>
    rintro D ys W hD rfl ⟨⟨v, hv, hown, -⟩, hF, -⟩ hK
    have e0 := hv.cell
    have HO := hid hown
    clear hown hv h0 hnx hbx
    gi_wp2
    have hI := ownsRow_putObj HO.out (.deferred none) hK rfl
    refine marks_ret1 (t := 2) rfl hK ⟨v, rfl, by simpa [keysOf, Function.comp_def] using hI, hF.putObj (fun hh => by omega) _⟩
  case stop => exact fun _ _ _ _ _ _ h => h.elim
theorem fullAt_mem (pl : List Pl) (n : Nat) (x : Nat × Pl) : x ∈ fullAt n pl ↔ x.1 < n ∧ pl[x.1]? = some x.2 ∧ x.2.full = true := by
  simp only [fullAt, List.mem_filterMap, List.mem_map, List.mem_range]
  constructor
  · rintro ⟨y, ⟨i, hi, rfl⟩, h⟩
    cases hp : pl[i]? with
    | none => rw [hp] at h; cases h
    | some p =>
      rw [hp] at h
      simp only [Option.bind_some] at h
      split at h
      · rename_i hf
        cases h
        exact ⟨hi, hp, hf⟩
      · cases h
  · rintro ⟨hi, hp, hf⟩
    refine ⟨_, ⟨x.1, hi, rfl⟩, ?_⟩
    simp [hp, hf]
theorem keysOf_mem {pl : List Pl} (hn : Nd pl) (k : Int) : k ∈ keysOf pl ↔ (memOf pl k).isSome = true := by
  rw [keysOf, List.mem_map]
  constructor
  · rintro ⟨x, hx, rfl⟩
    obtain ⟨_, hp, hf⟩ := (fullAt_mem _ _ _).1 hx
    rw [(memOf_iff hn _ x.2.v).2 ⟨x.1, x.2, hp, hf, rfl, rfl⟩]; rfl
  · intro h
    obtain ⟨v, hv⟩ := Option.isSome_iff_exists.1 h
    obtain ⟨i, p, hp, hf, hk, _⟩ := (memOf_iff hn k v).1 hv
    exact ⟨(i, p), (fullAt_mem _ _ _).2 ⟨(List.getElem?_eq_some_iff.1 hp).1, hp, hf⟩, hk⟩
theorem keysOf_nodup {pl : List Pl} (hn : Nd pl) : (keysOf pl).Nodup := by
  have : ∀ k, k ≤ pl.length → ((fullAt k pl).map (·.2.key)).Nodup := by
    intro k
    induction k with
    | zero => intro _; exact List.nodup_nil
    | succ k ih =>
      intro hk
      have hp := List.getElem?_eq_getElem (show k < pl.length by omega)
      rw [fullAt_succ k pl _ hp]
      split
      · rename_i hf
        rw [List.map_append, List.nodup_append]
        refine ⟨ih (by omega), by simp, ?_⟩
        rintro a ha b hb rfl
        simp at hb
        obtain ⟨x, hx, e⟩ := List.mem_map.1 ha
        obtain ⟨h1, h2, h3⟩ := (fullAt_mem _ _ _).1 hx
        have := hn x.1 k x.2 _ h2 hp h3 hf (by rw [e, hb])
        omega
      · exact ih (by omega)
  exact this _ (Nat.le_refl _)
theorem keysOf_len (pl : List Pl) : (keysOf pl).length ≤ pl.length := by
  rw [keysOf, List.length_map]; exact fullAt_len _ _
/-- What Keys tells of memory. -/
def KeysPost (m : Int → Option Pg) (n : Nat) (w : World) (e : Ending) (w' : World) : Prop :=
  ∃ (v : Value) (ks : List Int), e = .returned v ∧ w'.ownsRow w.heap.size 3 1 v ks.length (ks.map (Value.int .i64)) ∧ (∀ k, k ∈ ks ↔ (m k).isSome = true) ∧ ks.Nodup ∧ ks.length ≤ n ∧ Fr (fun _ => False) w w'
theorem keysmem_at {w : World} {bc bp bm n : Nat} {m : Int → Option Pg} (h : MemAt w bc bp bm n m) : Calls Tryz.prog 169 #[.pointer (some ⟨bc, 0, none⟩)] w (KeysPost m n w) := by
  obtain ⟨pl, hand, hA, hl, hm⟩ := h.ex
  refine (keys_at hA).mono fun e w' ⟨v, he, hI, hF⟩ => ⟨v, keysOf pl, he, hI, fun k => ?_, keysOf_nodup hA.nd, by rw [← hl]; exact keysOf_len pl, hF⟩
  rw [keysOf_mem hA.nd, hm]
end Go.Proofs.YtgdhaaokolfdoaaGreatDoor

/- A range over a function whose iterator reads what the body writes: the iterator's contract is asked only for what says the caller's invariant. Conditions: none. -/
namespace Go.Sg
open Go.RowKit
variable {F : Fence} {n : Nat} {P : Program}
/-- An iterator's contract, asked for what says the caller's invariant alone: so the iterator may use it. -/
def SeqTold {α : Type} (F : Fence) (n : Nat) (P : Program) (g : Nat) (lb : Array Value) (encs : α → Array Value) (I : List α → World → Prop) (Kp : World → World → Prop) (S Sp : List α → Prop) (N : Nat) (w : World) : Prop :=
  ∀ (l : Nat) (J Jx : List α → World → Prop) (W : World), (∀ pre W1, J pre W1 → I pre W1) → Below w.heap.size w W → AbidesFrom W.heap.size J → AbidesFrom W.heap.size Jx →
    (∀ pre x W1, J pre W1 → pre.length < N → YieldAt F (n - 1) P l (encs x) W1 fun e W' => (e = .returned (.bool true) ∧ J (pre ++ [x]) W' ∧ Kp W1 W') ∨ (e = .returned (.bool false) ∧ Jx (pre ++ [x]) W')) →
    J [] W → CallsIn F n P g (#[.func (.yield l) #[] #[]] ++ lb) W fun e W' => (∃ v, e = .returned v) ∧ ((∃ xs, S xs ∧ J xs W') ∨ (∃ pre, Sp pre ∧ Jx pre W'))
/-- How the body of a round may be left. -/
def bodyEnds {α : Type} (B : Nat) (Kp : World → World → Prop) (I : List α → World → Prop) (Ix : Code → List α → World → Prop) (xs : List α) (W : World) : Exit → Act → World → Prop
  | .normal, _, W' => KeepsFrom B W W' ∧ Kp W W' ∧ I xs W'
  | .ret, _, W' => KeepsFrom B W W' ∧ Ix .ret xs W'
  | .exit id, _, W' => KeepsFrom B W W' ∧ Ix (.exit id) xs W'
  | .goto t, _, W' => KeepsFrom B W W' ∧ Ix (.goto t) xs W'
  | _, _, _ => False
/-- The statement, its loop an outermost one. -/
theorem wpIn_range_told {α : Type} {g : Operand} {ps : Array Tmp} {assign body : Code} {Q : Exit → Act → World → Prop} {a : Act} {w : World}
    (hro : F.round = none) (h1 : 1 ≤ n) {gf : Nat} {lb : Array Value} (hg : a.eval g = .func (.func gf) #[] lb) (hFg : F.fn gf) (eg : ∀ args w, (callFunc gf args).run P w = .ok (.enter gf args) w)
    {encs : α → Array Value} {Kp : World → World → Prop} {S Sp : List α → Prop} {N : Nat} {w0 : World} (I : List α → World → Prop) (hseq : SeqTold F (n - 1) P gf lb encs I Kp S Sp N w0)
    (hKt : ∀ {A B C : World}, Kp A B → Kp B C → Kp A C) (hKb : ∀ (W : World) (l : Nat) (o o' : Obj), w.heap.size ≤ l → W.heap[l]? = some o → o.isCells = false → o.isWalk = false → Kp W (W.putObj l o'))
    (hb0 : Below w0.heap.size w0 w) (hps : ∀ x, (encs x).size = ps.size)
    (Ix : Code → List α → World → Prop) (hI : OwnFrom w.heap.size I) (hIx : ∀ c, OwnFrom w.heap.size (Ix c)) (h0 : I [] w) (Ax : α → Act → World → Prop) (hAx : ∀ x a', OwnFrom w.heap.size (fun (_ : Unit) W => Ax x a' W))
    (hassign : ∀ (l : Nat) (pre : List α) (x : α) (W : World) (K : Act → World → Prop), I pre W → (∀ a' W', KeepsFrom w.heap.size W W' → Kp W W' → I pre W' → Ax x a' W' → K a' W') →
      assign.wpIn (F.inRound l) (n - 1 - 1) P (Exit.then K (fun _ _ _ => False)) { tmps := (ps.zip (encs x)).foldl (fun t (p, v) => t.setIfInBounds p v) a.tmps, defers := [] } W)
    (hbody : ∀ (l : Nat) (pre : List α) (x : α) (a' : Act) (W : World), w.heap.size ≤ l → (∃ r, W.heap[l]? = some (.loop r)) → I pre W → Ax x a' W → pre.length < N → body.wpIn (F.inRound l) (n - 1 - 1) P (bodyEnds w.heap.size Kp I Ix (pre ++ [x]) W) a' W)
    (hdone : ∀ (D : Nat) (xs : List α) (W : World), w.heap.size ≤ D → S xs → I xs W → W.heap[D]? = some (.deferred (some [])) → Q .normal { a with defers := { target := .collected D, args := #[] } :: a.defers } W)
    (hstop : ∀ (D : Nat) (c : Code) (pre : List α) (W : World), w.heap.size ≤ D → Sp pre → Ix c pre W → W.heap[D]? = some (.deferred (some [])) → c.wpIn F n P Q { a with defers := { target := .collected D, args := #[] } :: a.defers } W) :
    (Code.rangeFunc g ps assign body).wpIn F n P Q a w := by
  refine wpIn_rangeFunc fun fn hfn => ?_
  rw [hro]
  -- the loop's record, in whatever state
  let rec_ : LoopState → Option Code → Loop := fun st pe => { state := st, pending := pe, fn, tmps := a.tmps, params := ps, assign, body, defers := w.heap.size }
  obtain ⟨rd, hrd⟩ : ∃ rd, rd = rec_ := ⟨_, rfl⟩
  have rst : ∀ st pe, (rd st pe).state = st := fun st pe => by rw [hrd]
  have rpe : ∀ st pe, (rd st pe).pending = pe := fun st pe => by rw [hrd]
  obtain ⟨L, hL⟩ : ∃ L, L = w.heap.size + 1 := ⟨_, rfl⟩
  obtain ⟨W1, hW1⟩ : ∃ W1, (w.alloc (.deferred (some []))).alloc (.loop (rd .ready none)) = W1 := ⟨_, rfl⟩
  obtain ⟨hD1, hL1, F1⟩ := heap_two hW1
  rw [← hL] at hL1
  have hI1 : I [] W1 := by rw [← hW1]; exact hI.alloc _ (hI.alloc _ h0)
  have hb1 : Below w0.heap.size w0 W1 := by
    refine hb0.trans ((Fr.below (S := fun _ => False) F1 (fun _ _ h => h)).mono hb0.size)
  have hs1 : W1.heap.size = w.heap.size + 2 := by rw [← hW1]; simp
  refine ⟨L, [{ target := .collected w.heap.size, args := #[] }], W1, { target := .fn (.func gf) lb, args := #[.func (.yield L) #[] #[]] }, W1, gf, #[.func (.yield L) #[] #[]] ++ lb, W1, ?_, ?_, ?_, ?_, fun _ => h1, ?_⟩
  · rw [← hW1, hL, hrd]; exact run_enterLoop_outer _ _ _ _ _
  · simp only [resolve, hg]
    simp [go_sem]
  · intro f' hf'; simp [Target.leads] at hf'; subst hf'; exact hFg
  · simp [invoke, go_sem, eg]
  -- what the two blocks of the loop's own hold
  have hwalk : ∀ {A B : World} {row : Option Nat}, (∀ r, row = some r → W1.heap.size ≤ r ∧ ∃ o : Obj, A.heap[r]? = some o ∧ o.isWalk = true) → (∀ r, row = some r → w.heap.size ≤ r ∧ ∃ o : Obj, A.heap[r]? = some o ∧ o.isCells = false) :=
    fun hr r e => by obtain ⟨hB, o, ho, hw⟩ := hr r e; exact ⟨by omega, o, ho, Obj.not_cells_of_walk hw⟩
  have hY : ∀ pre x W, (I pre W ∧ W.heap[L]? = some (.loop (rd .ready none)) ∧ W.heap[w.heap.size]? = some (.deferred (some []))) → pre.length < N →
      YieldAt F (n - 1 - 1) P L (encs x) W fun e W' => (e = .returned (.bool true) ∧ (I (pre ++ [x]) W' ∧ W'.heap[L]? = some (.loop (rd .ready none)) ∧ W'.heap[w.heap.size]? = some (.deferred (some []))) ∧ Kp W W') ∨
        (e = .returned (.bool false) ∧ ∃ c, Ix c (pre ++ [x]) W' ∧ W'.heap[L]? = some (.loop (rd .done (some c))) ∧ W'.heap[w.heap.size]? = some (.deferred (some []))) := by
    rintro pre x W ⟨hi, hl, hk⟩ hlen
    have hy := run_yield (P := P) (args := encs x) hl (by rw [hrd]; exact hps x)
    rw [hrd] at hy
    refine ⟨fn, _, assign, body, hy, roundIn_of_wpIn hfn (hassign _ pre x W _ hi fun a' Wa hka hkp hia hax => ?_)⟩
    have hla := hka.same _ _ (by omega) hl rfl
    have hka' := hka.same _ _ (Nat.le_refl _) hk rfl
    have hlt : L < Wa.heap.size := lt_of_heap hla
    refine ⟨_, run_beginRound hla (rst _ _), ?_⟩
    obtain ⟨busy, hbusy⟩ : ∃ busy : Loop, { rd .ready none with state := .busy } = busy := ⟨_, rfl⟩
    rw [hbusy]
    have hl2 : (Wa.putObj L (.loop busy)).heap[L]? = some (.loop busy) := World.putObj_heap_same hlt
    have hk2 : (Wa.putObj L (.loop busy)).heap[w.heap.size]? = some (.deferred (some [])) := (World.putObj_heap_other (by omega)).trans hka'
    refine wpIn_mono (hbody _ pre x a' _ (by omega) ⟨_, hl2⟩ (hI.putObj _ hia (by omega) hla rfl) ((hAx x a').putObj (s := ()) _ hax (by omega) hla rfl) hlen) ?_
    have fin : ∀ (jump : Option Code) (W3 : World), KeepsFrom w.heap.size (Wa.putObj L (.loop busy)) W3 →
        (Instr.endRound L jump).run P W3 = .ok (.bool jump.isNone) (W3.putObj L (.loop (rd (if jump.isNone then .ready else .done) jump))) ∧ W3.heap[L]? = some (.loop busy) ∧
        (W3.putObj L (.loop (rd (if jump.isNone then .ready else .done) jump))).heap[L]? = some (.loop (rd (if jump.isNone then .ready else .done) jump)) ∧
        (W3.putObj L (.loop (rd (if jump.isNone then .ready else .done) jump))).heap[w.heap.size]? = some (.deferred (some [])) := fun jump W3 hk3 => by
      have hl3 := hk3.same _ _ (by omega) hl2 rfl
      refine ⟨?_, hl3, World.putObj_heap_same (lt_of_heap hl3), (World.putObj_heap_other (by omega)).trans (hk3.same _ _ (Nat.le_refl _) hk2 rfl)⟩
      have := run_endRound (P := P) jump hl3
      rw [← hbusy, hrd] at this
      rw [hrd]
      exact this
    have hw2 : Kp Wa (Wa.putObj L (.loop busy)) := hKb _ _ _ _ (by omega) hla rfl rfl
    rintro e a3 W3 hp
    have out : ∀ c, KeepsFrom w.heap.size (Wa.putObj L (.loop busy)) W3 ∧ Ix c (pre ++ [x]) W3 → ∃ v W4, (Instr.endRound L (some c)).run P W3 = .ok v W4 ∧ ((Ending.returned v = .returned (.bool true) ∧ (I (pre ++ [x]) W4 ∧ W4.heap[L]? = some (.loop (rd .ready none)) ∧ W4.heap[w.heap.size]? = some (.deferred (some []))) ∧ Kp W W4) ∨
        (Ending.returned v = .returned (.bool false) ∧ ∃ c, Ix c (pre ++ [x]) W4 ∧ W4.heap[L]? = some (.loop (rd .done (some c))) ∧ W4.heap[w.heap.size]? = some (.deferred (some [])))) := by
      rintro c ⟨hk3, hi3⟩
      obtain ⟨hr, hl3, hl4, hk4⟩ := fin (some c) W3 hk3
      exact ⟨_, _, hr, .inr ⟨rfl, c, (hIx c).putObj _ hi3 (by omega) hl3 rfl, hl4, hk4⟩⟩
    cases e with
    | normal =>
      obtain ⟨hk3, hkp3, hi3⟩ := hp
      obtain ⟨hr, hl3, hl4, hk4⟩ := fin none W3 hk3
      exact ⟨_, _, hr, .inl ⟨rfl, ⟨hI.putObj _ hi3 (by omega) hl3 rfl, hl4, hk4⟩, hKt hkp (hKt (hKt hw2 hkp3) (hKb _ _ _ _ (by omega) hl3 rfl rfl))⟩⟩
    | ret => exact out _ hp
    | exit id => exact out _ hp
    | goto t => exact out _ hp
    | panic ch => exact hp.elim
    | outgrown => exact hp.elim
  have hcall := hseq L (fun pre W => I pre W ∧ W.heap[L]? = some (.loop (rd .ready none)) ∧ W.heap[w.heap.size]? = some (.deferred (some [])))
    (fun pre W => ∃ c, Ix c pre W ∧ W.heap[L]? = some (.loop (rd .done (some c))) ∧ W.heap[w.heap.size]? = some (.deferred (some []))) W1 (fun _ _ h => h.1) hb1
    (fun s A B row hs hg' hr => ⟨hI s A B row hs.1 hg' (hwalk (B := B) hr), (grownBy_keeps hg' (fun r e => (hr r e).2) hs.2.1 rfl).trans hs.2.1, (grownBy_keeps hg' (fun r e => (hr r e).2) hs.2.2 rfl).trans hs.2.2⟩)
    (fun s A B row hs hg' hr => by
      obtain ⟨c, hc, hl, hk⟩ := hs
      exact ⟨c, hIx c s A B row hc hg' (hwalk (B := B) hr), (grownBy_keeps hg' (fun r e => (hr r e).2) hl rfl).trans hl, (grownBy_keeps hg' (fun r e => (hr r e).2) hk rfl).trans hk⟩)
    hY ⟨hI1, hL1, hD1⟩
  refine hcall.mono ?_
  rintro e W2 ⟨⟨v, rfl⟩, (⟨xs, hS, hi, hl, hk⟩ | ⟨pre, hSp, c, hi, hl, hk⟩)⟩
  · have hr := run_endLoop (P := P) hl (by rw [rst]; simp)
    rw [rpe] at hr
    exact ⟨none, _, hr, hdone _ xs _ (Nat.le_refl _) hS (hI.putObj _ hi (by omega) hl rfl) ((World.putObj_heap_other (by omega)).trans hk)⟩
  · have hr := run_endLoop (P := P) hl (by rw [rst]; simp)
    rw [rpe] at hr
    exact ⟨some c, _, hr, hstop _ c pre _ (Nat.le_refl _) hSp ((hIx c).putObj _ hi (by omega) hl rfl) ((World.putObj_heap_other (by omega)).trans hk)⟩
end Go.Sg

/- The store: dirty, the iterator. Conditions: the caller's invariant says where the store lies and what is in memory. -/
namespace Go.Proofs.YtgdhaaokolfdoaaGreatDoor
open Go.RowKit Go.Sg Go.Sg.Clk Go.Shelf CP
attribute [local go_sem] Oper.semAt_some
theorem dirty_any (a : Option Addr) (w : World) :
    Calls Tryz.prog 109 #[.pointer a] w fun e w' => e = .returned (.func (.func 168) #[] #[.pointer (some ⟨w.heap.size, 0, none⟩)]) ∧ w.alloc (.cells #[.pointer a] 23) = w' := by
  go_enter Tryz.func109, Tryz.ntmps109
  go_wp2
  go_ret
  exact ⟨rfl, rfl⟩
/-- A page of memory that is dirty. -/
abbrev Dty (m : Int → Option Pg) := { p : Int × Pg // m p.1 = some p.2 ∧ p.2.dirty = true }
abbrev encD {m : Int → Option Pg} (x : Dty m) : Array Value := #[.int .i64 x.1.1, x.1.2.val]
def Pg.clean (q : Pg) : Pg := { q with dirty := false }
/-- Memory behind some of its pages were written. -/
def cleaned (m : Int → Option Pg) (L : List Int) : Int → Option Pg := fun k => if k ∈ L then (m k).map Pg.clean else m k
/-- The numbers of those that were. -/
def dks {m : Int → Option Pg} (pre : List (Dty m)) : List Int := pre.map (·.1.1)
/-- What the iterator must know while the body turns things. -/
def DView (B : Blk) (m : Int → Option Pg) (n bx : Nat) (pre : List (Dty m)) (W : World) : Prop :=
  W.heap[bx]? = some (.cells #[B.ptr] 23) ∧ ∃ x, StoreAt W B x ∧ x.places = n ∧ x.mem = cleaned m (dks pre)
/-- Rows of numbers stay. -/
def KpI (A C : World) : Prop := ∀ (g : Nat) (c : Array Value) (f : Nat × Nat), A.heap[g]? = some (.cells c 3 f) → C.heap[g]? = some (.cells c 3 f)
/-- All that was dirty has come, once. -/
def AllD (m : Int → Option Pg) (xs : List (Dty m)) : Prop := ∀ k q, m k = some q → q.dirty = true → k ∈ dks xs
theorem abides_fr {β : Type} {Bn : Nat} {J : β → World → Prop} (hJ : AbidesFrom Bn J) {s : β} {W W' : World} (h : J s W) (F : Fr (fun _ => False) W W') : J s W' :=
  hJ s W W' none h ⟨F.os, F.tape, F.output, F.size, fun b hb _ => F.block b hb (fun h => h)⟩ (fun r e => by cases e)
theorem ints_kp {A C : World} {b : Nat} {v : Value} {ks : List Int} (h : A.ownsRow b 3 1 v ks.length (ks.map (Value.int .i64))) (K : KpI A C) : C.ownsRow b 3 1 v ks.length (ks.map (Value.int .i64)) := by
  obtain ⟨hl, h0 | ⟨g, cap, cur, hv, hb, hg, r⟩⟩ := h
  · exact ⟨hl, .inl h0⟩
  · exact ⟨hl, .inr ⟨g, cap, cur, hv, hb, K g cur _ hg, r⟩⟩
theorem KpI.fr {A C : World} (F : Fr (fun _ => False) A C) : KpI A C := fun _ _ _ hg => F.heap hg (fun h => h)
theorem cleaned_dirty {m : Int → Option Pg} {L : List Int} {k : Int} {q : Pg} (h : cleaned m L k = some q) (hd : q.dirty = true) : m k = some q ∧ k ∉ L := by
  unfold cleaned at h
  split at h
  · cases hm : m k with
    | none => rw [hm] at h; cases h
    | some p => rw [hm] at h; simp at h; subst h; cases hd
  · rename_i hk; exact ⟨h, hk⟩
theorem own_ints_cell {w : World} {b : Nat} {a : Option Addr} {c n : Nat} {ks : List Int} (h : w.ownsRow b 3 1 (.slice a n c) ks.length (ks.map (Value.int .i64))) {i : Nat} {k : Int} (hk : ks[i]? = some k) : n = ks.length ∧ ∃ g, a = some ⟨g, 0, none⟩ ∧ w.cell? ⟨g, i, none⟩ = some (.int .i64 k) := by
  have hi := (List.getElem?_eq_some_iff.1 hk).1
  obtain ⟨hl, ⟨_, h1⟩ | ⟨g, cap, cur, hv, hb, hg, hc, hm, hs, ht⟩⟩ := h
  · omega
  · cases hv
    refine ⟨rfl, g, rfl, ?_⟩
    rw [cell_of_heap hg]
    have h2 : (cur.toList.take (ks.length * 1))[i]? = some (.int .i64 k) := by rw [ht, List.getElem?_map, hk]; rfl
    rw [List.getElem?_take, if_pos (by omega)] at h2
    simpa using h2
theorem own_ints_slice {w : World} {b : Nat} {v : Value} {ks : List Int} (h : w.ownsRow b 3 1 v ks.length (ks.map (Value.int .i64))) : ∃ a c, v = .slice a ks.length c := by
  obtain ⟨hl, ⟨h0, h1⟩ | ⟨g, cap, cur, hv, r⟩⟩ := h
  · exact ⟨none, 0, by rw [h0, h1]⟩
  · exact ⟨_, _, hv⟩
/-- The iterator behind k of the numbers. -/
def DRnd {m : Int → Option Pg} (J : List (Dty m) → World → Prop) (_ : Int → Option Pg) (ks : List Int) (ka : Option Addr) (kc b k : Nat) (wr : World) : Prop :=
  ∃ pre, J pre wr ∧ wr.ownsRow b 3 1 (.slice ka ks.length kc) ks.length (ks.map (Value.int .i64)) ∧ (∀ j ∈ dks pre, j ∈ ks.take k) ∧ pre.length ≤ k ∧ ∀ j q, m j = some q → q.dirty = true → j ∈ ks.take k → j ∈ dks pre
set_option maxRecDepth 100000 in
set_option maxHeartbeats 4000000 in
theorem dirtyf_told {w : World} {B : Blk} {m : Int → Option Pg} {n bx : Nat} {I : List (Dty m) → World → Prop} (hn : n ≤ 100000) (hI : ∀ pre W, I pre W → DView B m n bx pre W) :
    SeqTold Fence.wide 9 Tryz.prog 168 #[.pointer (some ⟨bx, 0, none⟩)] encD I KpI (fun xs => AllD m xs ∧ xs.length ≤ n) (fun pre => pre.length ≤ n) n w := fun l J Jx W hJI hW hJ _ hY h0 => by
  obtain ⟨hbx, x0, hS0, hn0, hm0⟩ := hI _ _ (hJI _ _ h0)
  have cx := cell_of_heap hbx 0
  simp at cx
  have c17 := hS0.sc.c17
  have HK := hid (keysmem_at hS0.mem)
  have H0 := hid (And.intro hbx (And.intro hS0 (And.intro hn0 (And.intro hm0 h0))))
  clear hbx hS0 hn0 hm0 h0
  refine callsIn_of_wp Tryz.func168 rfl trivial ?_ rfl
  simp only [Tryz.ntmps168, List.size_toArray, List.length_cons, List.length_nil, Nat.reduceAdd, Nat.reduceSub, Array.replicate_succ, Array.replicate_zero, List.push_toArray, List.append_toArray, List.nil_append, List.cons_append]
  gi_wp2_with (fail)
  refine (callsIn_wide.2 HK.out).mono ?_
  rintro e W1 ⟨v, ks, rfl, hks, hkm, hkn, hkl, F1⟩
  obtain ⟨ka, kc, rfl⟩ := own_ints_slice hks
  have hJ1 := abides_fr hJ H0.out.2.2.2.2 F1
  have hkl' : ks.length ≤ n := by rw [← H0.out.2.2.1]; exact hkl
  have HKS := hid (And.intro hks (And.intro hkm hkn))
  have HJ1 := hid hJ1
  clear hks hkm hkn hJ1 F1 hkl cx c17 HK
  gi_wp2
  gi_loopw [13] (fun i wr => ∃ k : Nat, k ≤ ks.length ∧ i = .int .i64 k ∧ DRnd J m ks ka kc W.heap.size k wr) (fun i _ => ks.length - (intOf i).toNat)
  case atStart => exact ⟨0, Nat.zero_le _, rfl, [], HJ1.out, HKS.out.1, (fun j hj => by cases hj), Nat.le_refl _, fun j q _ _ hj => by simp at hj⟩
  case round =>
    obtain ⟨k, hk, rfl, pre, hJp, hown, hin, hlen, hcov⟩ := hrel
    obtain ⟨hbx, x, hS, hxn, hxm⟩ := hI _ _ (hJI _ _ hJp)
    by_cases hlt : k < ks.length
    · obtain ⟨key, hkey⟩ : ∃ key, ks[k]? = some key := ⟨_, List.getElem?_eq_getElem hlt⟩
      obtain ⟨-, g, rfl, hcell⟩ := own_ints_cell hown hkey
      have hnew : key ∉ ks.take k := fun hm => by
        obtain ⟨j, hj⟩ := List.mem_iff_getElem?.1 hm
        rw [List.getElem?_take] at hj
        split at hj
        · rename_i hjk
          have := (List.getElem?_inj (by omega) HKS.out.2.2).1 (hj.trans hkey.symm)
          omega
        · cases hj
      have hnd : key ∉ dks pre := fun h => hnew (hin key h)
      obtain ⟨q, hq⟩ : ∃ q, m key = some q := by
        have h1 := (HKS.out.2.1 key).1 (List.mem_of_getElem? hkey)
        rw [H0.out.2.2.2.1] at h1
        simpa [cleaned, dks, Option.isSome_iff_exists] using h1
      have hxq : x.mem key = some q := by rw [hxm, cleaned, if_neg hnd]; exact hq
      have htk : ks.take (k + 1) = ks.take k ++ [key] := by rw [List.take_add_one, hkey]; rfl
      have cx := cell_of_heap hbx 0
      simp at cx
      have c17 := hS.sc.c17
      have HL := hid (lookmem_at hS.mem key)
      rw [hxq] at HL
      have HR := hid (And.intro hJp (And.intro hown (And.intro hin (And.intro hcov (And.intro htk (And.intro hq hxq))))))
      clear hbx hS hxn hxm hJp hown hin hcov hnew hnd htk hkey hxq
      obtain ⟨sta, la, ll, lc, di⟩ := q
      gi_wp2_with (fail)
      refine (callsIn_wide.2 HL.out).mono ?_
      rintro e w2 ⟨rfl, F2⟩
      have hJ2 := abides_fr hJ HR.out.1 (F2.alloc (.cells #[.int .i64 sta, .slice la ll lc, .bool di] 162))
      have hK2 : KpI wr (w2.alloc (.cells #[.int .i64 sta, .slice la ll lc, .bool di] 162)) := KpI.fr (F2.alloc _)
      have H2 := hid (And.intro hJ2 (ints_kp HR.out.2.1 hK2))
      clear F2 hJ2 hK2 cx c17 hcell HL
      simp only [Option.getD_some, Option.isSome_some]
      cases di with
      | false =>
        gi_wp2
        go_roundw
        case rel =>
          obtain ⟨hJp, hown, hin, hcov, htk, hq, hxq⟩ := HR.out
          refine ⟨k + 1, by omega, by go_num, pre, H2.out.1, H2.out.2, fun j hj => ?_, by omega, fun j q hj hd hjt => ?_⟩
          · rw [htk]; exact List.mem_append_left _ (hin j hj)
          · rw [htk] at hjt
            rcases List.mem_append.1 hjt with hjt | hjt
            · exact hcov j q hj hd hjt
            · simp at hjt
              subst hjt
              rw [hq] at hj; cases hj; cases hd
        case measure => simp [intOf]; omega
      | true =>
        obtain ⟨fn, tmps, assign, body, hy, hRR⟩ := hY _ ⟨(key, ⟨sta, la, ll, lc, true⟩), HR.out.2.2.2.2.2.1, rfl⟩ _ H2.out.1 (by omega)
        dsimp only [encD] at hy
        gi_wp2
        refine hRR.mono ?_
        rintro e W3 (⟨rfl, hJ3, hk3⟩ | ⟨rfl, hJx3⟩)
        · have H3 := hid (And.intro hJ3 (ints_kp H2.out.2 hk3))
          clear hJ3 hk3
          gi_wp2
          go_roundw
          case rel =>
            obtain ⟨hJp, hown, hin, hcov, htk, hq, hxq⟩ := HR.out
            refine ⟨k + 1, by omega, by go_num, _, H3.out.1, H3.out.2, fun j hj => ?_, by simp; omega, fun j q hj hd hjt => ?_⟩
            · rw [htk]
              simp only [dks, List.map_append, List.map_cons, List.map_nil] at hj
              rcases List.mem_append.1 hj with hj | hj
              · exact List.mem_append_left _ (hin j hj)
              · exact List.mem_append_right _ hj
            · rw [htk] at hjt
              simp only [dks, List.map_append, List.map_cons, List.map_nil]
              rcases List.mem_append.1 hjt with hjt | hjt
              · exact List.mem_append_left _ (hcov j q hj hd hjt)
              · exact List.mem_append_right _ hjt
          case measure => simp [intOf]; omega
        · have H3 := hid hJx3
          clear hJx3
          gi_wp2
          refine bodyPost_ret (results_none rfl _ _ _) rfl ?_
          exact ⟨⟨_, rfl⟩, .inr ⟨_, by simp; omega, H3.out⟩⟩
    · obtain rfl : k = ks.length := by omega
      have HR := hid (And.intro hJp (And.intro hin hcov))
      clear hbx hS hxn hxm hJp hown hin hcov
      gi_wp2
      go_end0
      refine ⟨⟨_, rfl⟩, .inl ⟨pre, ⟨fun j q hj hd => ?_, by omega⟩, HR.out.1⟩⟩
      refine HR.out.2.2 j q hj hd ?_
      rw [List.take_length]
      refine (HKS.out.2.1 j).2 ?_
      rw [H0.out.2.2.2.1]
      simp [cleaned, dks, hj]
end Go.Proofs.YtgdhaaokolfdoaaGreatDoor

/- The store: Flush. Conditions: the store lies in the world as StoreC says. -/
namespace Go.Proofs.YtgdhaaokolfdoaaGreatDoor
open Go.RowKit Go.Sg Go.Sg.Bits Go.Sg.Clk Go.Shelf CP SF
attribute [local go_sem] Oper.semAt_some
/-- A store while a flush goes on. -/
def flX (x : Sto) (L : List Int) (D : Dev) : Sto := { x with mem := cleaned x.mem L, dev := D }
/-- What a flush keeps. -/
structure FlI (w0 : World) (B : Blk) (x : Sto) (c : Cont) (P : Prot) (a : Bool) (N b0 bx br : Nat) (L : List Int) (k : Nat) (W : World) : Prop where
  b0 : W.heap[b0]? = some (.cells #[B.ptr] 23)
  bx : W.heap[bx]? = some (.cells #[B.ptr] 23)
  br : W.heap[br]? = some (.cells #[.int .i64 0] 24)
  ex : ∃ D, StoreAt W B (flX x L D) ∧ Holds W (flX x L D) c P ∧ DevOk D P a (N + k) ∧ D.down = false ∧ D.sectors = x.dev.sectors ∧ D.size = x.dev.size
  fr : FrB B w0 W
/-- What a flush leaves that went down. -/
structure FlX (w0 : World) (B : Blk) (x : Sto) (P : Prot) (a : Bool) (N br : Nat) (k : Nat) (W : World) : Prop where
  br : W.heap[br]? = some (.cells #[.int .i64 4] 24)
  ex : ∃ D, DevAt W B.base B.d B.bf B.bq D ∧ DevOk D P a (N + k) ∧ D.down = true ∧ D.sectors = x.dev.sectors ∧ D.size = x.dev.size
  fr : FrB B w0 W
  arm : a = true
theorem own_of {β : Type} {B0 : Nat} {I : β → World → Prop} (h0 : ∀ s W W', I s W → Fr (fun _ => False) W W' → I s W')
    (h1 : ∀ s W W' k, I s W → Fr (fun b => b = k) W W' → B0 ≤ k → (∀ c t f, W.heap[k]? ≠ some (.cells c t f)) → I s W') : OwnFrom B0 I := by
  intro s W W' row hs hg hr
  cases row with
  | none => exact h0 s W W' hs ⟨hg.os, hg.tape, hg.output, hg.size, fun b hb _ => hg.block b hb (by simp)⟩
  | some k =>
    obtain ⟨hk, o, ho, hc⟩ := hr k rfl
    refine h1 s W W' k hs ⟨hg.os, hg.tape, hg.output, hg.size, fun b hb hn => hg.block b hb (fun e => hn (by cases e; rfl))⟩ hk fun c t f e => ?_
    rw [ho] at e; cases e; cases hc
theorem Holds.frK {w w' : World} {x : Sto} {c : Cont} {P : Prot} (h : Holds w x c P) {k : Nat} (F : Fr (fun b => b = k) w w') (hk : ∀ cs t f, w.heap[k]? ≠ some (.cells cs t f)) : Holds w' x c P :=
  ⟨h.ok, fun j q hq => by obtain ⟨st, bs, h1, h2, h3, h4⟩ := h.mem j q hq; exact ⟨st, bs, h1, h2, h3.fr F (fun b cs hb e => by rw [e] at hb; exact hk _ _ _ hb), h4⟩, h.dev⟩
theorem fli_own {w0 : World} {B : Blk} {x : Sto} {c : Cont} {P : Prot} {a : Bool} {N b0 bx br B0 : Nat} (hb : ∀ r, B.at_ r < B0) (hw : w0.heap.size ≤ B0) : OwnFrom B0 (fun pre W => FlI w0 B x c P a N b0 bx br (dks (m := x.mem) pre) pre.length W) :=
  own_of (fun pre W W' h F => by
    obtain ⟨D, hS, hH, r⟩ := h.ex
    exact ⟨F.heap h.b0 (fun h => h), F.heap h.bx (fun h => h), F.heap h.br (fun h => h), ⟨D, hS.fr0 F, hH.frB (B := B) (FrB.none F), r⟩, h.fr.trans (FrB.none F)⟩)
   (fun pre W W' k h F hk hc => by
    obtain ⟨D, hS, hH, r⟩ := h.ex
    have n1 : ∀ b cs t f, W.heap[b]? = some (.cells cs t f) → ¬ b = k := fun b cs t f hb e => by rw [e] at hb; exact hc _ _ _ hb
    exact ⟨F.heap h.b0 (n1 _ _ _ _ h.b0), F.heap h.bx (n1 _ _ _ _ h.bx), F.heap h.br (n1 _ _ _ _ h.br), ⟨D, hS.frK F (fun r e => by have := hb r; omega) (fun cs t => hc cs t _), hH.frK F hc, r⟩,
      ⟨F.os.trans h.fr.os, F.tape.trans h.fr.tape, F.output.trans h.fr.output, Nat.le_trans h.fr.size F.size, fun b hb' hn => (F.block b (Nat.lt_of_lt_of_le hb' h.fr.size) (by omega)).trans (h.fr.block b hb' hn)⟩⟩)
theorem flx_own {w0 : World} {B : Blk} {x : Sto} {P : Prot} {a : Bool} {N br B0 : Nat} (hb : ∀ r, B.at_ r < B0) (hw : w0.heap.size ≤ B0) : OwnFrom B0 (fun (pre : List (Dty x.mem)) W => FlX w0 B x P a N br pre.length W) :=
  own_of (fun pre W W' h F => by
    obtain ⟨D, hS, r⟩ := h.ex
    exact ⟨F.heap h.br (fun h => h), ⟨D, hS.fr F (fun h => h) (fun h => h) (fun h => h) (fun _ _ _ _ _ h => h), r⟩, h.fr.trans (FrB.none F), h.arm⟩)
   (fun pre W W' k h F hk hc => by
    obtain ⟨D, hS, r⟩ := h.ex
    have n1 : ∀ b cs t f, W.heap[b]? = some (.cells cs t f) → ¬ b = k := fun b cs t f hb e => by rw [e] at hb; exact hc _ _ _ hb
    exact ⟨F.heap h.br (n1 _ _ _ _ h.br), ⟨D, hS.fr F (fun e => by have := hb .d; simp only [Blk.at_] at this; omega) (fun e => by have := hb .bf; simp only [Blk.at_] at this; omega) (fun e => by have := hb .bq; simp only [Blk.at_] at this; omega) (fun g cs t _ hg e => n1 _ _ _ _ hg e), r⟩,
      ⟨F.os.trans h.fr.os, F.tape.trans h.fr.tape, F.output.trans h.fr.output, Nat.le_trans h.fr.size F.size, fun b hb' hn => (F.block b (Nat.lt_of_lt_of_le hb' h.fr.size) (by omega)).trans (h.fr.block b hb' hn)⟩, h.arm⟩)
theorem cleaned_put {m : Int → Option Pg} {L : List Int} {k : Int} {q : Pg} (hq : m k = some q) : putF (cleaned m L) k (Pg.clean q) none = cleaned m (L ++ [k]) := by
  funext j
  simp only [putF, Option.map_none]
  by_cases hj : j = k
  · subst hj
    rw [if_pos rfl, cleaned, if_pos (by simp), hq]; rfl
  · rw [if_neg hj, if_neg (by simp)]
    unfold cleaned
    by_cases h : j ∈ L
    · rw [if_pos h, if_pos (by simp [h])]
    · rw [if_neg h, if_neg (by simp [h, hj])]
theorem cleaned_none {m : Int → Option Pg} {L : List Int} {k : Int} : cleaned m L k = none ↔ m k = none := by
  unfold cleaned; split <;> simp
theorem fl_step {W W' : World} {B : Blk} {x : Sto} {c : Cont} {P : Prot} {D : Dev} {L : List Int} {kn st : Nat} {bs : List Int} {q : Pg} (hH : Holds W (flX x L D) c P) (hq : x.mem kn = some q) (hc : c kn = some (st, bs)) (hz : D.size = x.dev.size) (F : FrB B W W') :
    Holds W' (flX x (L ++ [(kn : Int)]) (D.wrote (x.first + kn) (buildM x.dev.size 2 kn st bs))) c P := by
  have hsz : (D.wrote (x.first + kn) (buildM x.dev.size 2 kn st bs)).size = x.dev.size := hz
  refine ⟨hH.ok, fun k p hp => ?_, fun k s b hk hm => ?_⟩
  · have hp' : cleaned x.mem (L ++ [(kn : Int)]) k = some p := hp
    rw [← cleaned_put hq] at hp'
    show ∃ st bs, _ ∧ _ ∧ _ ∧ (_ → P (x.first + k) = none) ∧ (_ → (D.wrote _ _).sec (x.first + k) = buildM (D.wrote _ _).size 2 k.toNat st bs)
    rw [hsz, Dev.wrote_sec]
    by_cases hkn : k = kn
    · subst hkn
      simp only [putF, if_true, Option.some.injEq] at hp'
      subst hp'
      have hm : ∃ q', (flX x L D).mem kn = some q' ∧ q'.stamp = q.stamp ∧ q'.la = q.la ∧ q'.ll = q.ll ∧ q'.lc = q.lc := by
        show ∃ q', cleaned x.mem L kn = some q' ∧ _
        unfold cleaned
        split
        · exact ⟨Pg.clean q, by rw [hq]; rfl, rfl, rfl, rfl, rfl⟩
        · exact ⟨_, hq, rfl, rfl, rfl, rfl⟩
      obtain ⟨q', hq', e0, e1, e2, e3⟩ := hm
      obtain ⟨s0, b0, a1, a2, a3, a4, a5⟩ := hH.mem kn q' hq'
      rw [hc] at a1; cases a1
      refine ⟨st, bs, hc, by rw [← a2]; exact e0.symm, ?_, fun h => (by cases h), fun _ => by rw [if_pos rfl]; simp⟩
      rw [e1, e2, e3] at a3
      exact a3.frB F
    · simp only [putF, if_neg hkn, Option.map_none] at hp'
      rw [if_neg (by simp)] at hp'
      obtain ⟨s0, b0, a1, a2, a3, a4, a5⟩ := hH.mem k p hp'
      refine ⟨s0, b0, a1, a2, a3.frB F, a4, fun h => ?_⟩
      rw [if_neg (by omega)]
      have := a5 h
      rw [show (flX x L D).dev.size = x.dev.size from hz] at this
      exact this
  · have hm' : x.mem k = none := cleaned_none.1 hm
    have hkn : k ≠ kn := by rintro rfl; rw [hq] at hm'; cases hm'
    show (D.wrote _ _).sec (x.first + k) = buildM (D.wrote _ _).size 2 k.toNat s b
    rw [hsz, Dev.wrote_sec, if_neg (by omega)]
    have := hH.dev k s b hk (cleaned_none.2 hm')
    rw [show (flX x L D).dev.size = x.dev.size from hz] at this
    exact this
theorem fl_fin {w W w2 W3 w4 : World} {B : Blk} {x : Sto} {c : Cont} {P : Prot} {a : Bool} {N kn st Bx : Nat} {la : Option Addr} {ll lc : Nat} {bs : List Int} {pre : List (Dty x.mem)} {D : Dev} {g : Option (Int × Pg)} {B0 : Nat}
    (hI : FlI w B x c P a N w.heap.size (w.heap.size + 2) (w.heap.size + 1) (dks pre) pre.length W) (hS : StoreAt W B (flX x (dks pre) D)) (hH : Holds W (flX x (dks pre) D) c P) (hdo : D.act.down = false) (hds : D.sectors = x.dev.sectors) (hdz : D.size = x.dev.size)
    (hq : x.mem kn = some ⟨st, la, ll, lc, true⟩) (hc : c kn = some (st, bs)) (hbv : ByV W la ll lc bs) (hbl : bs.length ≤ x.room) (hD2 : DevOk (D.wrote (x.first + kn) (buildM x.dev.size 2 kn st bs)) P a (N + pre.length + 1)) (F2 : FrB B W w2)
    (hx2 : w2.heap[Bx]? = some (.cells #[.int .i64 st, .slice la ll lc, .bool true] 162)) (hBx : w.heap.size ≤ Bx) (hB0 : ∀ r, B.at_ r < B0) (hB0x : B0 ≤ Bx)
    (hW3 : w2.setCell ⟨Bx, 2, none⟩ (.bool false) = W3) (hS3 : StoreAt W3 B { flX x (dks pre) D with dev := D.wrote (x.first + kn) (buildM x.dev.size 2 kn st bs) }) (FN : Fr (fun b => b = Bx) w2 W3)
    (hb0 : W3.heap[w.heap.size]? = some (.cells #[B.ptr] 23)) (hbx : W3.heap[w.heap.size + 2]? = some (.cells #[B.ptr] 23)) (hbr : W3.heap[w.heap.size + 1]? = some (.cells #[.int .i64 0] 24))
    (hg : GoneOk (flX x (dks pre) D).mem (flX x (dks pre) D).places kn g) (hm4 : MemAt w4 B.bc B.bp B.bm (flX x (dks pre) D).places (putF (flX x (dks pre) D).mem kn ⟨st, la, ll, lc, false⟩ g)) (F4 : Fr (fun b => b = B.bc ∨ b = B.bp ∨ b = B.bm) W3 w4) :
    KeepsFrom B0 W w4 ∧ KpI W w4 ∧ FlI w B x c P a N w.heap.size (w.heap.size + 2) (w.heap.size + 1) (dks (m := x.mem) (pre ++ [⟨((kn : Int), ⟨st, la, ll, lc, true⟩), hq, rfl⟩])) (pre ++ [(⟨((kn : Int), ⟨st, la, ll, lc, true⟩), hq, rfl⟩ : Dty x.mem)]).length w4 := by
  have hgn : g = none := by
    cases g with
    | none => rfl
    | some g =>
      have h1 := hg.2.2.1
      have h2 : cleaned x.mem (dks pre) kn = none := h1
      rw [cleaned_none, hq] at h2; cases h2
  subst hgn
  have FR : FrR B [.bc, .bp, .bm] W3 w4 := F4.mono fun b _ h => clkR h
  have n5 : ∀ b cs t f, W3.heap[b]? = some (.cells cs t f) → t ∉ mutT → ¬ (b = B.bc ∨ b = B.bp ∨ b = B.bm) := fun b cs t f hb ht h => by
    obtain ⟨r, _, rfl⟩ := clkR h
    exact ht ((hS3.heaps r).2.1 cs t f hb)
  have hS4 : StoreAt w4 B (flX x (dks pre ++ [(kn : Int)]) (D.wrote (x.first + kn) (buildM x.dev.size 2 kn st bs))) := by
    have h1 := hS3.withMem FR (m := putF (cleaned x.mem (dks pre)) kn ⟨st, la, ll, lc, false⟩ none) hm4 (load_putF hS3 FR (n := kn) (p := ⟨st, la, ll, lc, false⟩) (g := none) ⟨bs, (hbv.frB F2).frL FN hx2 (by decide), hbl⟩)
    rw [show (⟨st, la, ll, lc, false⟩ : Pg) = Pg.clean ⟨st, la, ll, lc, true⟩ from rfl, cleaned_put hq] at h1
    exact h1
  have hL : dks (m := x.mem) (pre ++ [⟨((kn : Int), ⟨st, la, ll, lc, true⟩), hq, rfl⟩]) = dks pre ++ [(kn : Int)] := by simp [dks]
  have hlen : (pre ++ [(⟨((kn : Int), ⟨st, la, ll, lc, true⟩), hq, rfl⟩ : Dty x.mem)]).length = pre.length + 1 := by simp
  have hH4 := (((fl_step hH hq hc hdz F2).frL FN hx2 (by decide))).frB (hS3.frB FR)
  refine ⟨?_, ?_, ?_⟩
  · have k1 := (F2.keeps hB0).trans (((KeepsOthers.setCell w2 ⟨Bx, 2, none⟩ (.bool false)).from B0))
    rw [hW3] at k1
    refine k1.trans ⟨F4.size, fun k o hk ho hc => F4.heap ho fun h => ?_⟩
    obtain ⟨r, _, rfl⟩ := clkR h
    have := hB0 r; omega
  · intro g' c' f' hg'
    have h2 := F2.heap hg' (by decide)
    have h3 := FN.heap h2 (fun e => by rw [e, hx2] at h2; cases h2)
    exact F4.heap h3 (n5 _ _ _ _ h3 (by decide))
  · rw [hL, hlen]
    have F03 : FrB B w W3 := by
      rw [← hW3]
      exact (hI.fr.trans F2).setCell (a := ⟨Bx, 2, none⟩) (fun h => absurd h (by simp; omega)) _
    exact ⟨F4.heap hb0 (n5 _ _ _ _ hb0 (by decide)), F4.heap hbx (n5 _ _ _ _ hbx (by decide)), F4.heap hbr (n5 _ _ _ _ hbr (by decide)),
      ⟨_, hS4, hH4, hD2, hdo, hds, hdz⟩, F03.trans (hS3.frB FR)⟩
theorem flush_ret {n : Nat} {R : Ending → World → Prop} {tmps : Array Value} {DD br : Nat} {W : World} {v : Int} (q : W.heap[br]? = some (.cells #[.int .i64 v] 24))
    (hK : W.heap[DD]? = some (.deferred (some []))) (hD : br < DD) (hR : R (.returned (.int .i64 v)) (W.putObj DD (.deferred none))) (t2 : tmps.getD 2 undef = .pointer (some ⟨br, 0, none⟩)) :
    bodyPostM Fence.wide n Tryz.prog Tryz.f39 R .ret { tmps := tmps, defers := [{ target := .collected DD, args := #[] }] } W := by
  have e1 : (W.putObj DD (.deferred none)).cell? ⟨br, 0, none⟩ = some (.int .i64 v) := by
    have := cell_of_heap ((heap_putObj_ne W DD (.deferred none) br (by omega)).trans q) 0
    simpa using this
  refine ⟨by simp, .inl ⟨_, _, rfl, run_takeDeferred hK, _, ?_, hR⟩⟩
  rw [Array.getD_eq_getD_getElem?] at t2
  simp [results, Tryz.results39, go_sem, t2, e1]
/-- What Flush does. -/
def FlushC (B : Blk) (x : Sto) (c : Cont) (P : Prot) (a : Bool) (N : Nat) (w : World) (e : Ending) (w' : World) : Prop :=
  ∃ err, e = .returned (.int .i64 err) ∧ FrB B w w' ∧
    ((err = 0 ∧ ∃ L D, StoreAt w' B (flX x L D) ∧ Holds w' (flX x L D) c P ∧ DevOk D P a (N + x.places) ∧ D.down = false ∧ D.sectors = x.dev.sectors ∧ D.size = x.dev.size ∧ ∀ k q, cleaned x.mem L k = some q → q.dirty = false) ∨
     (err = 4 ∧ a = true ∧ ∃ D, DevAt w' B.base B.d B.bf B.bq D ∧ DevOk D P a (N + x.places) ∧ D.down = true ∧ D.sectors = x.dev.sectors ∧ D.size = x.dev.size))
set_option maxRecDepth 100000 in
set_option maxHeartbeats 4000000 in
theorem flush_at {w : World} {B : Blk} {x : Sto} {c : Cont} {P : Prot} {a : Bool} {N : Nat} (h : StoreAt w B x) (hi : Is w x c P a N) (hN : N + x.places ≤ 90000) :
    Calls Tryz.prog 39 #[B.ptr] w (FlushC B x c P a N w) := by
  refine (callsIn_wide (n := 10)).1 ?_
  obtain ⟨W1, hW1⟩ : ∃ W1, (w.alloc (.cells #[B.ptr] 23)).alloc (.cells #[.int .i64 0] 24) = W1 := ⟨_, rfl⟩
  obtain ⟨x0, x1, F1⟩ := heap_two hW1
  have s1 : W1.heap.size = w.heap.size + 2 := by rw [← hW1]; simp
  have c0 := cell_of_heap x0 0
  simp at c0
  have HDI := hid (dirty_any (some ⟨B.s, 0, none⟩) W1)
  have HX := hid (And.intro x0 (And.intro x1 F1))
  have H := hid (And.intro h hi)
  have HW1 := hid hW1
  have l1 := lt_of_heap x0
  clear hW1 x0 x1 F1 h hi
  refine callsIn_of_wp_marks Tryz.func39 rfl trivial ?_ rfl
  simp only [Tryz.ntmps39, List.size_toArray, List.length_cons, List.length_nil, Nat.reduceAdd, Nat.reduceSub, Array.replicate_succ, Array.replicate_zero, List.push_toArray, List.append_toArray, List.nil_append, List.cons_append]
  gi_wp2_with (fail)
  rw [HW1.out]
  refine (callsIn_wide.2 HDI.out).mono ?_
  rintro e w' ⟨rfl, rfl⟩
  gi_wp2_with (fail)
  obtain ⟨W0, hW0⟩ : ∃ W0, W1.alloc (.cells #[B.ptr] 23) = W0 := ⟨_, rfl⟩
  have F10 : Fr (fun _ => False) W1 W0 := by rw [← hW0]; exact (Fr.refl _ _).alloc _
  have hbx : W0.heap[w.heap.size + 2]? = some (.cells #[B.ptr] 23) := by rw [← hW0, ← s1]; exact heap_alloc_new _ _
  have hF0 := HX.out.2.2.trans F10 (fun _ _ h => h)
  have hsz : W0.heap.size = w.heap.size + 3 := by rw [← hW0]; simp; omega
  have hm0 : cleaned x.mem [] = x.mem := by funext k; simp [cleaned]
  have hX0 : flX x [] x.dev = x := by rw [flX, hm0]
  have hI0 : FlI w B x c P a N w.heap.size (w.heap.size + 2) (w.heap.size + 1) [] 0 W0 :=
    ⟨F10.heap HX.out.1 (fun h => h), hbx, F10.heap HX.out.2.1 (fun h => h), ⟨x.dev, by rw [hX0]; exact H.out.1.fr0 hF0, by rw [hX0]; exact H.out.2.holds.frB (B := B) (FrB.none hF0), H.out.2.dev, H.out.2.down, rfl, rfl⟩, FrB.none hF0⟩
  have hbl : ∀ r, B.at_ r < W0.heap.size := fun r => by have := (H.out.1.heaps r).2.2.1; omega
  rw [hW0]
  refine wpIn_range_told (F := Fence.wide) rfl (by omega) (gf := 168) (lb := #[.pointer (some ⟨w.heap.size + 2, 0, none⟩)]) rfl trivial (enters_of Tryz.func168 (by kernel_rfl) rfl)
    (fun pre W => FlI w B x c P a N w.heap.size (w.heap.size + 2) (w.heap.size + 1) (dks (m := x.mem) pre) pre.length W)
    (dirtyf_told (w := W0) (B := B) (n := x.places) (by omega) (fun pre W hI => ⟨hI.bx, by obtain ⟨D, hS, _⟩ := hI.ex; exact ⟨_, hS, rfl, rfl⟩⟩))
    (fun h k g c f hg => k g c f (h g c f hg)) (fun W l o o' hl ho hc _ g c f hg => by rw [heap_putObj_ne _ _ _ _ (by rintro rfl; rw [hg] at ho; cases ho; cases hc)]; exact hg) (Below.refl _ _) (fun _ => rfl)
    (fun cc pre W => cc = .ret ∧ FlX w B x P a N (w.heap.size + 1) pre.length W)
    (fli_own hbl (by omega)) (fun cc => own_and (own_pure _ _) (flx_own hbl (by omega))) hI0
    (fun y a' W => ∃ Bx, (W0.heap.size ≤ Bx ∧ W.heap[Bx]? = some (.cells #[.int .i64 y.1.2.stamp, .slice y.1.2.la y.1.2.ll y.1.2.lc, .bool y.1.2.dirty] 162)) ∧ a' = { tmps := #[B.ptr, .pointer (some ⟨w.heap.size, 0, none⟩), .pointer (some ⟨w.heap.size + 1, 0, none⟩), .int .i64 y.1.1, .pointer (some ⟨Bx, 0, none⟩), undef, B.ptr, .bool false, B.ptr, .func (.func 168) #[] #[.pointer (some ⟨w.heap.size + 2, 0, none⟩)], .int .i64 y.1.1, y.1.2.val, undef, undef, undef, undef, undef, undef, undef, undef, undef, undef, undef, undef, undef, undef, undef], defers := [] })
    (fun x a' => own_ex fun Bx => own_and (own_and (own_pure _ _) (own_block _ _ _ (fun _ => .inl rfl))) (own_pure _ _))
    ?assign ?body ?done ?stop
  case assign =>
    rintro l pre ⟨⟨key, ⟨sta, la, ll, lc, di⟩⟩, hq, hd⟩ W K hI hK
    simp only at hq hd
    subst hd
    have hsW : W0.heap.size ≤ W.heap.size := by have := lt_of_heap hI.bx; omega
    have FN : Fr (fun _ => False) W (W.alloc (.cells #[.int .i64 sta, .slice la ll lc, .bool true] 162)) := (Fr.refl _ _).alloc _
    have HI := hid hI
    have HK := hid hK
    clear hI hK
    gi_wp2
    obtain ⟨h0, h1, h2, ⟨D, hS, hH, r⟩, hF⟩ := HI.out
    exact HK.out _ _ ((KeepsOthers.alloc _ _).from _) (KpI.fr FN) ⟨FN.heap h0 (fun h => h), FN.heap h1 (fun h => h), FN.heap h2 (fun h => h), ⟨D, hS.fr0 FN, hH.frB (B := B) (FrB.none FN), r⟩, hF.trans (FrB.none FN)⟩ ⟨W.heap.size, ⟨hsW, heap_alloc_new _ _⟩, rfl⟩
  case body =>
    rintro l pre ⟨⟨key, ⟨sta, la, ll, lc, di⟩⟩, hq, hd⟩ a' W hl ⟨r, hr⟩ hI ⟨Bx, ⟨hBx, hbX⟩, rfl⟩ hlen
    simp only at hq hd hbX
    subst hd
    obtain ⟨D, hS, hH, hD, hdn, hds, hdz⟩ := hI.ex
    obtain ⟨st, bs, hc, hst, _, hP, _⟩ := H.out.2.holds.mem key _ hq
    obtain ⟨g1, g2, g3, g4⟩ := H.out.2.holds.ok key st bs hc
    simp only at hst hP
    subst hst
    obtain ⟨kn, rfl⟩ := Int.eq_ofNat_of_zero_le g1.1
    have hbv : ByV W la ll lc bs := by
      have hmk : ∃ q', (flX x (dks pre) D).mem kn = some q' ∧ q'.la = la ∧ q'.ll = ll ∧ q'.lc = lc := by
        show ∃ q', cleaned x.mem (dks pre) kn = some q' ∧ _
        unfold cleaned
        split
        · exact ⟨_, by rw [hq]; rfl, rfl, rfl, rfl⟩
        · exact ⟨_, hq, rfl, rfl, rfl⟩
      obtain ⟨q', hq', rfl, rfl, rfl⟩ := hmk
      obtain ⟨st', bs', hc', _, hb', _⟩ := hH.mem kn q' hq'
      rw [hc] at hc'; cases hc'
      exact hb'
    have hbl' := hbv.len
    have hrg := hS.rg
    have HO := hid (out_ok hS hdn (Nat.le_trans hD.acts (by omega)) hD.armed (Nat.le_trans hD.many (by omega)) kn (show kn < x.pages by omega) st g2 true hbv g4 (show ll ≤ x.room by omega))
    have HI := hid (And.intro hI (And.intro hS (And.intro hH (And.intro hD (And.intro hdn (And.intro hds hdz))))))
    have HC := hid (And.intro hc (And.intro (hP trivial) (And.intro g4 hbv)))
    have HX2 := hid hbX
    have y0 := cell_of_heap hI.b0 0
    obtain ⟨z0, z1, z2, zz, zl⟩ := cells3 hbX
    simp at y0
    clear hI hS hH hD hdn hds hdz hc hP hbv g4 hbX hr
    gi_wp2_with (fail)
    refine (CallsIn.inRound l (callsIn_wide.2 HO.out)).mono ?_
    rintro e w2 ⟨D2, err, rfl, hwr, hS2, F2⟩
    obtain ⟨hI, hS, hH, hD, hdn, hds, hdz⟩ := HI.out
    obtain ⟨hc, hPn, g4, hbv⟩ := HC.out
    have hb2 : (buildM x.dev.size 2 kn st bs).length = x.dev.size := buildM_length (by have := H.out.1.rg.2.2.2.2; omega)
    have hwr' : (D2, err) = (D.wrote (x.first + kn) (buildM x.dev.size 2 kn st bs), if D.act.down then 4 else 0) := by
      rw [hwr]
      show D.write (x.first + kn) (buildM D.size 2 (kn : Int).toNat (st : Int).toNat bs) = _
      rw [hdz]
      exact Dev.write_ok hdn (by have := H.out.1.rg; omega) (by rw [hdz]; exact hb2)
    obtain ⟨rfl, herr⟩ := Prod.mk.inj hwr'
    have hD2 := hD.wrote (at_ := x.first + kn) (bs := buildM x.dev.size 2 kn st bs) (by rw [hdz]; exact hb2) hPn (buildM_byte g4)
    have hx2 := F2.heap HX2.out (by decide)
    have hb02 := F2.heap hI.b0 (by decide)
    have hbx2 := F2.heap hI.bx (by decide)
    have hbr2 := F2.heap hI.br (by decide)
    have HK2 := hid (F2.keeps hbl)
    have HE := hid herr
    have H2 := hid (And.intro hS2 (And.intro hD2 (And.intro F2 (And.intro hx2 (And.intro hb02 (And.intro hbx2 hbr2))))))
    have nr : ∀ r, B.at_ r < w.heap.size := fun r => (H.out.1.heaps r).2.2.1
    have NR := hid nr
    have sW := hI.fr.size
    have hBw : W0.heap.size ≤ Bx := hBx
    clear hI hS hH hD hdn hds hdz hc hPn g4 hbv hwr hwr' hS2 hD2 F2 herr nr
    obtain ⟨y1, y2, y3, yz, yl⟩ := cells3 hx2
    have u0 := cell_of_heap hb02 0
    have u1 := cell_of_heap hbr2 0
    have uz := frozen_of_heap hbr2 0
    simp at u0 u1
    clear hx2 hb02 hbx2 hbr2
    by_cases hdo : D.act.down = true
    · obtain rfl : err = 4 := by have := HE.out; rw [if_pos hdo] at this; exact this
      have HDO := hid hdo
      clear hdo
      gi_wp2
      obtain ⟨hS2, hD2, F2, hx2, hb02, hbx2, hbr2⟩ := H2.out
      obtain ⟨hI, hS, hH, hD, hdn, hds, hdz⟩ := HI.out
      have FL : Fr (fun b => b = w.heap.size + 1) w2 (w2.setCell ⟨w.heap.size + 1, 0, none⟩ (.int .i64 4)) := (Fr.refl (fun b => b = w.heap.size + 1) _).setCell (a := ⟨w.heap.size + 1, 0, none⟩) (fun _ => rfl) _
      refine ⟨HK2.out.trans ((KeepsOthers.setCell _ _ _).from _), rfl, ?_⟩
      refine ⟨by rw [heap_setCell_cells _ _ _ _ hbr2]; rfl, ⟨_, hS2.dev.fr FL (by have := NR.out .d; simp only [Blk.at_] at this; omega) (by have := NR.out .bf; simp only [Blk.at_] at this; omega) (by have := NR.out .bq; simp only [Blk.at_] at this; omega) (fun g cs t ht hg e => by rw [e, hbr2] at hg; cases hg; rcases ht with h | h | h <;> cases h), by simpa [Nat.add_assoc] using hD2, HDO.out, hds, hdz⟩, ?_, ?_⟩
      · exact (hI.fr.trans F2).setCell (a := ⟨w.heap.size + 1, 0, none⟩) (fun h => absurd h (by simp)) _
      · cases a with
        | true => rfl
        | false => have := HDO.out; rw [Dev.calm_up hdn (hD.calm rfl)] at this; cases this
    · obtain rfl : err = 0 := by have := HE.out; rw [if_neg hdo] at this; exact this
      have HDO := hid hdo
      clear hdo
      obtain ⟨W3, hW3⟩ : ∃ W3, w2.setCell ⟨Bx, 2, none⟩ (.bool false) = W3 := ⟨_, rfl⟩
      have FN : Fr (fun b => b = Bx) w2 W3 := by rw [← hW3]; exact (Fr.refl (fun b => b = Bx) _).setCell (a := ⟨Bx, 2, none⟩) (fun _ => rfl) _
      have hx3 : W3.heap[Bx]? = some (.cells #[.int .i64 st, .slice la ll lc, .bool false] 162) := by rw [← hW3, heap_setCell_cells _ _ _ _ H2.out.2.2.2.1]; rfl
      have hb03 := FN.heap H2.out.2.2.2.2.1 (by omega)
      have hbx3 := FN.heap H2.out.2.2.2.2.2.1 (by omega)
      have hbr3 := FN.heap H2.out.2.2.2.2.2.2 (by omega)
      have hS3 := H2.out.1.frL FN H2.out.2.2.2.1 (by decide)
      have HPM := hid (fun Wd (F : Fr (fun _ => False) W3 Wd) => putmem_at ((hS3.fr0 F).mem) kn ⟨st, la, ll, lc, false⟩)
      obtain ⟨v1, v2, v3, vz, vl⟩ := cells3 hx3
      have t0 := cell_of_heap hb03 0
      simp at t0
      have c17 := hS3.sc.c17
      have l3 := hS3.sc.lt
      have HW3 := hid hW3
      have H3 := hid (And.intro hS3 (And.intro FN (And.intro hx3 (And.intro hb03 (And.intro hbx3 hbr3)))))
      have hmix : Tryz.prog.follows .mixedOrders = true := by kernel_rfl
      have FIN := hid (fun (w4 : World) (g : Option (Int × Pg)) (hg : GoneOk (flX x (dks pre) D).mem (flX x (dks pre) D).places kn g) (hm4 : MemAt w4 B.bc B.bp B.bm (flX x (dks pre) D).places (putF (flX x (dks pre) D).mem kn ⟨st, la, ll, lc, false⟩ g)) (F4 : Fr (fun b => b = B.bc ∨ b = B.bp ∨ b = B.bm) W3 w4) =>
        fl_fin HI.out.1 HI.out.2.1 HI.out.2.2.1 (by simpa using HDO.out) HI.out.2.2.2.2.2.1 HI.out.2.2.2.2.2.2 hq HC.out.1 HC.out.2.2.2 g3 H2.out.2.1 H2.out.2.2.1 H2.out.2.2.2.1 (by omega) hbl hBw hW3 hS3 FN hb03 hbx3 hbr3 hg hm4 F4)
      clear hS3 FN hx3 hb03 hbx3 hbr3 hW3
      gi_upto_region 10 with fail
      rw [HW3.out]
      clear y1 y2 y3 yz yl u0 u1 uz z0 z1 z2 zz y0
      gi_region_with_o ((gi_at_call 111; refine (CallsIn.inRound l (callsIn_wide.2 (HPM.out _ (by first | exact Fr.refl _ _ | exact (Fr.refl _ _).drew)))).mono ?_; rintro e w4 ⟨g, hg, rfl, hm4, F4⟩))
      all_goals exact FIN.out w4 g hg hm4 (by first | with_reducible exact F4 | exact (Fr.refl _ _).drew.trans F4 (fun _ _ h => h))
  case done =>
    rintro DD xs W hDD ⟨hxs, hxl⟩ hI hK
    have u1 := cell_of_heap hI.br 0
    have uz := frozen_of_heap hI.br 0
    simp at u1
    have HI := hid (And.intro hI hK)
    clear hI hK
    gi_wp2
    obtain ⟨hI, hK⟩ := HI.out
    obtain ⟨D, hS, hH, hD, hdn, hds, hdz⟩ := hI.ex
    obtain ⟨W3, hW3⟩ : ∃ W3, W.setCell ⟨w.heap.size + 1, 0, none⟩ (.int .i64 0) = W3 := ⟨_, rfl⟩
    have FL : Fr (fun b => b = w.heap.size + 1) W W3 := by rw [← hW3]; exact (Fr.refl (fun b => b = w.heap.size + 1) _).setCell (a := ⟨w.heap.size + 1, 0, none⟩) (fun _ => rfl) _
    have hr3 : W3.heap[w.heap.size + 1]? = some (.cells #[.int .i64 0] 24) := by rw [← hW3, heap_setCell_cells _ _ _ _ hI.br]; rfl
    have hK3 := FL.heap hK (by omega)
    have F03 : FrB B w W3 := by rw [← hW3]; exact hI.fr.setCell (a := ⟨w.heap.size + 1, 0, none⟩) (fun h => absurd h (by simp)) _
    have hS3 := hS.frL FL hI.br (by decide)
    have hH3 := hH.frL FL hI.br (by decide)
    have FP : Fr (fun b => b = DD) W3 (W3.putObj DD (.deferred none)) := (Fr.refl (fun b => b = DD) _).putObj (fun _ => rfl) _
    have nc : ∀ c t f, W3.heap[DD]? ≠ some (.cells c t f) := fun c t f e => by rw [hK3] at e; cases e
    rw [hW3]
    refine flush_ret hr3 hK3 (by omega) ⟨0, rfl, F03.putObj (fun h => absurd h (by omega)) _, .inl ⟨rfl, dks xs, D, hS3.frK FP (fun r e => by have := hbl r; omega) (fun cs t => nc cs t _), hH3.frK FP nc, hD.mono (by omega), hdn, hds, hdz, fun k q hk => ?_⟩⟩ rfl
    cases hq : q.dirty with
    | false => rfl
    | true =>
      obtain ⟨h1, h2⟩ := cleaned_dirty hk hq
      exact absurd (hxs k q h1 hq) h2
  case stop =>
    rintro DD cc pre W hDD hSp ⟨rfl, hX⟩ hK
    have HX2 := hid (And.intro hX hK)
    clear hX hK
    gi_wp2
    obtain ⟨hX, hK⟩ := HX2.out
    obtain ⟨D, hD, hok, hdn, hds, hdz⟩ := hX.ex
    have FP : Fr (fun b => b = DD) W (W.putObj DD (.deferred none)) := (Fr.refl (fun b => b = DD) _).putObj (fun _ => rfl) _
    have nc : ∀ g cs t f, W.heap[g]? = some (.cells cs t f) → ¬ g = DD := fun g cs t f e e' => by rw [e', hK] at e; cases e
    refine flush_ret hX.br hK (by omega) ⟨4, rfl, hX.fr.putObj (fun h => absurd h (by omega)) _, .inr ⟨rfl, hX.arm, D, hD.fr FP (by have := hbl .d; simp only [Blk.at_] at this; omega) (by have := hbl .bf; simp only [Blk.at_] at this; omega) (by have := hbl .bq; simp only [Blk.at_] at this; omega) (fun g cs t _ hg => nc g cs t _ hg), hok.mono (by omega), hdn, hds, hdz⟩⟩ rfl
/-- A store of which all that is in memory lies on the device, too (1), and fast (2). -/
structure StoreL (l : Nat) (w : World) (B : Blk) (y : Cs) (P : Prot) (a : Bool) (N : Nat) : Prop where
  ex : ∃ x c, StoreAt w B x ∧ y = x.cs c ∧ Is w x c P a N ∧ (1 ≤ l → ∀ k q, x.mem k = some q → q.dirty = false) ∧ (2 ≤ l → x.dev.loose = [])
  tab : Tab w
  base : 0 < B.base
theorem StoreL.c {l : Nat} {w : World} {B : Blk} {y : Cs} {P : Prot} {a : Bool} {N : Nat} (h : StoreL l w B y P a N) : StoreC w B y P a N := by
  obtain ⟨x, c, h1, h2, h3, _⟩ := h.ex
  exact ⟨⟨x, c, h1, h2, h3⟩, h.tab, h.base⟩
theorem StoreL.fr0 {l : Nat} {w w' : World} {B : Blk} {y : Cs} {P : Prot} {a : Bool} {N : Nat} (h : StoreL l w B y P a N) (F : Fr (fun _ => False) w w') : StoreL l w' B y P a N := by
  obtain ⟨⟨x, c, hS, hy, hi, hl⟩, ht, hb⟩ := h
  exact ⟨⟨x, c, hS.fr0 F, hy, { hi with holds := hi.holds.frB (B := B) (FrB.none F) }, hl⟩, ht.fr F (fun h => h), hb⟩
/-- What Flush does, to its callers. -/
def FlushY (B : Blk) (y : Cs) (P : Prot) (a : Bool) (N : Nat) (w : World) (e : Ending) (w' : World) : Prop :=
  ∃ err, e = .returned (.int .i64 err) ∧ FrB B w w' ∧ ((err = 0 ∧ StoreL 1 w' B y P a (N + y.places)) ∨ (err = 4 ∧ a = true ∧ DownC w' B y P (N + y.places)))
theorem flush_c {w : World} {B : Blk} {y : Cs} {P : Prot} {a : Bool} {N : Nat} (h : StoreC w B y P a N) (hN : N + y.places ≤ 90000) : Calls Tryz.prog 39 #[B.ptr] w (FlushY B y P a N w) := by
  obtain ⟨⟨x, c, hS, rfl, hi⟩, hT, hb⟩ := h
  refine (flush_at hS hi hN).mono ?_
  rintro e w' ⟨err, he, F, ⟨rfl, L, D, hS', hH', hD', hdn, hds, hdz, hcl⟩ | ⟨rfl, ha, D, hA, hD', hdn, hds, hdz⟩⟩
  · refine ⟨0, he, F, .inl ⟨rfl, ⟨⟨flX x L D, c, hS', ?_, ⟨hdn, hD', hH', hi.ptk, hi.apart, hN⟩, fun _ => hcl, fun h => absurd h (by omega)⟩, hT.fr F (fun h => by omega), hb⟩⟩⟩
    simp [Sto.cs, flX, hds, hdz]
  · subst ha
    exact ⟨4, he, F, .inr ⟨rfl, rfl, ⟨D, hA, hD', hdn, hds, hdz⟩⟩⟩
end Go.Proofs.YtgdhaaokolfdoaaGreatDoor

/- Chapter 13's acts as they lie in a world; light, ref. Conditions: the acts lie in the world as ActR says. -/
namespace Go.Proofs.YtgdhaaokolfdoaaGreatDoor
open Go.RowKit Go.Sg CP SF
structure ActV where
  kind : Int
  n : Int
  la : Option Addr
  ll : Nat
  lc : Nat
  bs : List Int
/-- An act's values are in range, its bytes lie in the world. -/
structure ActOk (w : World) (x : ActV) : Prop where
  wk : (Lit.int .i64 x.kind).wf = true
  wn : (Lit.int .i64 x.n).wf = true
  slb : SlB w x.la x.ll x.lc x.bs
  by_ : ∀ b ∈ x.bs, 0 ≤ b ∧ b < 256
  lt : ∀ b off, x.la = some ⟨b, off, none⟩ → x.ll = 0 ∨ b < w.heap.size
theorem ActOk.fr {w w' : World} {x : ActV} (h : ActOk w x) (F : Fr (fun _ => False) w w') : ActOk w' x :=
  ⟨h.wk, h.wn, ⟨h.slb.by_.fr F (fun _ _ _ _ h => h), h.slb.at_⟩, h.by_, fun b off e => (h.lt b off e).imp id fun h => Nat.lt_of_lt_of_le h F.size⟩
theorem ActOk.inp {w w' : World} {B : Blk} {x : ActV} (h : ActOk w x) (hB : w.heap.size ≤ B.base) (F : Fr (fun _ => False) w w') : Inp w' B x.la x.ll x.lc x.bs :=
  ⟨⟨h.slb.by_.fr F (fun _ _ _ _ h => h), h.slb.at_⟩, fun b off e => (h.lt b off e).imp id fun h => .inl (Nat.lt_of_lt_of_le h hB)⟩
abbrev ActV.val (x : ActV) : Value := .agg #[.int .i64 x.kind, .int .i64 x.n, .slice x.la x.ll x.lc]
structure ActR (w : World) (a : Option Addr) (l : List ActV) : Prop where
  at_ : ∀ (i : Nat) (x : ActV), l[i]? = some x → ∃ b off, a = some ⟨b, off, none⟩ ∧ b < w.heap.size ∧ w.cell? ⟨b, off + i * 3, none⟩ = some (.int .i64 x.kind) ∧ w.cell? ⟨b, off + i * 3 + 1, none⟩ = some (.int .i64 x.n) ∧ w.cell? ⟨b, off + i * 3 + 2, none⟩ = some (.slice x.la x.ll x.lc) ∧ ActOk w x
theorem ActR.fr {w w' : World} {a : Option Addr} {l : List ActV} (h : ActR w a l) (F : Fr (fun _ => False) w w') : ActR w' a l :=
  ⟨fun i x hx => by
    obtain ⟨b, off, h1, h2, h3, h4, h5, h6⟩ := h.at_ i x hx
    exact ⟨b, off, h1, Nat.lt_of_lt_of_le h2 F.size, (F.cell (p := ⟨b, _, none⟩) h2 (fun h => h)).trans h3, (F.cell (p := ⟨b, _, none⟩) h2 (fun h => h)).trans h4, (F.cell (p := ⟨b, _, none⟩) h2 (fun h => h)).trans h5, h6.fr F⟩⟩
def LightP (n : Nat) (l : List ActV) (w : World) (e : Ending) (w' : World) : Prop := (∃ b, e = .returned (.bool b) ∧ (b = true → n ≤ 100 ∧ ∀ x ∈ l, x.ll ≤ 80)) ∧ w = w'
set_option maxHeartbeats 1000000 in
theorem light_ok {w : World} {a : Option Addr} {c : Nat} {l : List ActV} (h : ActR w a l) (n : Nat) (hn : l.length = n) :
    Calls Tryz.prog 34 #[.slice a n c] w (LightP n l w) := by
  have H := hid h
  have HN := hid hn
  clear h hn
  go_enter Tryz.func34, Tryz.ntmps34
  by_cases hle : n ≤ 100
  · have hd : decide ((100 : Int) < (n : Int)) = false := by simp; omega
    go_wp2_with fail
    go_loopw [3] (fun i wr => ∃ k : Nat, k ≤ n ∧ i = .int .i64 k ∧ wr = w ∧ ∀ (j : Nat) x, j < k → l[j]? = some x → x.ll ≤ 80) (fun i _ => n - (intOf i).toNat)
    case atStart => exact ⟨0, Nat.zero_le _, rfl, rfl, fun j x hj => by omega⟩
    case round =>
      obtain ⟨k, hk, rfl, rfl, hall⟩ := hrel
      have HA := hid hall
      clear hall
      by_cases hlt : k < n
      · have hx : l[k]? = some (l[k]'(by rw [HN.out]; exact hlt)) := List.getElem?_eq_getElem _
        generalize l[k]'(by rw [HN.out]; exact hlt) = x at hx
        obtain ⟨b, off, rfl, hb, h0, h1, h2, hok⟩ := H.out.at_ k x hx
        have hdl : decide ((k : Int) < (n : Int)) = true := by simp; omega
        have HX := hid (And.intro hx hok)
        clear hx hok h0 h1
        by_cases hll : x.ll ≤ 80
        · have hdx : decide ((80 : Int) < (x.ll : Int)) = false := by simp; omega
          go_wp2_with fail
          go_roundw
          case rel =>
            refine ⟨k + 1, by omega, by go_num, trivial, fun j y hj hy => ?_⟩
            by_cases hjk : j = k
            · subst hjk; rw [HX.out.1] at hy; cases hy; exact hll
            · exact HA.out j y (by omega) hy
          case measure => simp [intOf]; omega
        · have hdx : decide ((80 : Int) < (x.ll : Int)) = true := by simp; omega
          go_wp2_with fail
          go_ret
          exact ⟨⟨false, rfl, fun h => by cases h⟩, rfl⟩
      · obtain rfl : k = n := by omega
        go_wp2_with fail
        go_ret
        refine ⟨⟨true, rfl, fun _ => ⟨hle, fun x hx => ?_⟩⟩, rfl⟩
        obtain ⟨j, hj, rfl⟩ := List.mem_iff_getElem.1 hx
        exact HA.out j _ (by rw [HN.out] at hj; exact hj) (List.getElem?_eq_getElem hj)
  · have hd : decide ((100 : Int) < (n : Int)) = true := by simp; omega
    go_wp2_with fail
    go_ret
    exact ⟨⟨false, rfl, fun h => by cases h⟩, rfl⟩
theorem ref13_ok (p : RPg) (w : World) : Calls Tryz.prog 103 #[pgV p] w fun e w' => e = .returned (.agg #[.int .i64 p.page, .int .i64 p.stamp]) ∧ Fr (fun _ => False) w w' := by
  obtain ⟨w1, hw1⟩ : ∃ w1, ((w.alloc (.cells #[.int .i64 p.page, .int .i64 p.stamp, .string (strOfNums p.load)] 71)).alloc (.cells #[.int .i64 0, .int .i64 0] 35)) = w1 := ⟨_, rfl⟩
  obtain ⟨b0, b1, F1⟩ := heap_two hw1
  obtain ⟨c0, c1, c2, cz, cl⟩ := cells3 b0
  obtain ⟨d0, d1, dz, dl⟩ := cells2 b1
  have HW := hid hw1
  have HF := hid F1
  clear hw1 b0 b1 F1
  go_enter Tryz.func103, Tryz.ntmps103
  go_upto_region 1 with fail
  rw [HW.out]
  go_wp2_with fail
  refine bodyPost_ret (v := .agg #[.int .i64 p.page, .int .i64 p.stamp]) (by simp [results, go_sem, *]) rfl ⟨rfl, ?_⟩
  exact (HF.out.setNew (by omega) _).setNew (by omega) _
end Go.Proofs.YtgdhaaokolfdoaaGreatDoor

/- An argument that is a slice of chapter 13's acts, opened. Conditions: none. -/
namespace Go.Proofs.YtgdhaaokolfdoaaGreatDoor
open Go.ChangeShapes Go.WideShapes Go.RowKit Go.Sg Go.Deep
section
variable {H : Type} {enc : TypeId × Value → H} {W : World}
theorem byts_of_trod {fuel : Nat} {cs : List Value} {x : DataW H × List MemPlace} (h : DataW.trod enc Tryz.prog W 0 (fun _ => true) true fuel 22 cs = some x) :
    ∃ (a : Option Addr) (n c : Nat) (bs : List Int), cs = [.slice a n c] ∧ SlB W a n c bs ∧ (∀ x ∈ bs, 0 ≤ x ∧ x < 256) ∧ ∀ b off, a = some ⟨b, off, none⟩ → n = 0 ∨ b < W.heap.size := by
  rcases open_ints Tryz.underlying22 Tryz.underlying5 cells5 h with ⟨hcs, hx⟩ | ⟨a', len, cap, zs, hcs, _, hl, hm, hz, hx, hcell, hwz⟩
  · exact ⟨none, 0, 0, [], hcs, (ByV.nil W).slb, (fun x hx => by cases hx), fun b off e => by cases e⟩
  · simp only [if_true] at hz
    have hat : ∀ i, i < len → a' = ⟨a'.block, a'.off, none⟩ ∧ a'.block < W.heap.size ∧ W.cell? ⟨a'.block, a'.off + i, none⟩ = some (.int .u8 (zs.getD i 0)) := fun i hi => by
      have h0 := hcell 0 (by omega)
      have hs0 : a'.add 0 = a' := by cases a' with | mk b o s => cases s <;> simp [Addr.add]
      rw [hs0] at h0
      have hs := spot_none h0
      have hi' := hcell i (by omega)
      rw [hs, Sg.add_plain] at hi'
      exact ⟨hs, World.block_lt_of_cell? _ _ h0, hi'⟩
    refine ⟨some a', len, cap, zs.take len, hcs, ⟨⟨by rw [List.length_take]; omega, fun i x hx => ?_⟩, .inr ⟨_, rfl⟩⟩, fun x hx => ?_, fun b off e => ?_⟩
    · rw [List.getElem?_take] at hx
      split at hx
      · rename_i hi
        obtain ⟨h1, h2, h3⟩ := hat i hi
        refine ⟨a'.block, a'.off, by rw [← h1], h2, ?_⟩
        rw [h3, List.getD_eq_getElem?_getD, hx]; rfl
      · cases hx
    · have := hwz x (List.mem_of_mem_take hx)
      simp [Lit.wf, IntKind.min, IntKind.max, IntKind.bits, IntKind.signed] at this
      omega
    · by_cases hl0 : len = 0
      · exact .inl hl0
      · have := (hat 0 (by omega)).2.1
        cases e
        exact .inr this
instance : Inhabited ActV := ⟨⟨0, 0, none, 0, 0, []⟩⟩
theorem cells69 : Tryz.prog.cellsOf 69 = 3 := by kernel_rfl
theorem act_fields : ∃ f0 f1 f2 : Field, Tryz.prog.underlying 69 = some (.struct #[f0, f1, f2]) ∧ (f0.offset = 0 ∧ f0.type = 3) ∧ (f1.offset = 1 ∧ f1.type = 3) ∧ (f2.offset = 2 ∧ f2.type = 22) := ⟨_, _, _, Tryz.underlying69, ⟨rfl, rfl⟩, ⟨rfl, rfl⟩, ⟨rfl, rfl⟩⟩
theorem cells22 : Tryz.prog.cellsOf 22 = 1 := by kernel_rfl
theorem cells3_ : Tryz.prog.cellsOf 3 = 1 := by kernel_rfl
set_option maxRecDepth 100000 in
theorem open_acts {base : Nat} {v : Value} {d : DataW H} {p : List MemPlace} (hv : Value.okWide Tryz.prog W .any base 57 v) (h : DataW.Trod enc Tryz.prog W 0 (fun _ => true) true 57 v d p) :
    ∃ (a : Option Addr) (n c : Nat) (l : List ActV), v = .slice a n c ∧ l.length = n ∧ ActR W a l := by
  obtain ⟨a, len, cap, rfl⟩ := okWide_slice Tryz.underlying57 hv
  obtain ⟨f0, f1, f2, he, h0, h1, h2⟩ := act_fields
  obtain ⟨fuel, hf⟩ := h
  rcases open_slice Tryz.underlying57 hf with ⟨hcs, _⟩ | ⟨a', len', cap', m, n, D, Pl, hcs, _, hl, hm, hmm, _, hx⟩
  · simp [Value.cells] at hcs
    obtain ⟨rfl, rfl, rfl⟩ := hcs
    exact ⟨none, 0, 0, [], rfl, rfl, ⟨fun i x hx => by simp at hx⟩⟩
  · simp [Value.cells] at hcs
    obtain ⟨rfl, rfl, rfl⟩ := hcs
    simp at hmm
    subst hmm
    have key : ∀ i, i < len → ∃ x : ActV, W.cell? (a'.add (i * 3)) = some (.int .i64 x.kind) ∧ W.cell? ((a'.add (i * 3)).add 1) = some (.int .i64 x.n) ∧ W.cell? ((a'.add (i * 3)).add 2) = some (.slice x.la x.ll x.lc) ∧ ActOk W x := by
      intro i hil
      obtain ⟨cs', hc, ht'⟩ := hx i (by omega)
      rw [cells69] at hc
      obtain ⟨_, hcl, hat⟩ := World.cells?_some hc
      obtain ⟨ys, n', _, _, _, hyl, hg⟩ := DataW.trod_struct he ht'
      have one : ∀ (j : Nat) (f : Field), (#[f0, f1, f2] : Array Field)[j]? = some f → f.offset = j → f.type = 3 → j < 3 → ∃ z, cs'[j]? = some (.int .i64 z) ∧ (Lit.int .i64 z).wf = true := by
        intro j f hj ho hty hj3
        have h3 := hg j f hj
        have hys : ys[j]? = some (ys[j]'(by rw [hyl]; exact hj3)) := List.getElem?_eq_getElem _
        rw [hys, hty] at h3
        obtain ⟨z, hz, _, hw⟩ := DataW.trod_int Tryz.underlying3 h3
        refine ⟨z, ?_, hw⟩
        have h4 : ((cs'.drop f.offset).take (Tryz.prog.cellsOf 3))[0]? = some (.int .i64 z) := by rw [hz]; rfl
        rw [List.getElem?_take] at h4
        split at h4
        · simpa [ho] using h4
        · cases h4
      obtain ⟨z0, e0, w0⟩ := one 0 f0 rfl h0.1 h0.2 (by omega)
      obtain ⟨z1, e1, w1⟩ := one 1 f1 rfl h1.1 h1.2 (by omega)
      obtain ⟨la, ll, lc, bs, hb, hsl, hby, hlt⟩ : ∃ (a : Option Addr) (n c : Nat) (bs : List Int), cs'[2]? = some (.slice a n c) ∧ SlB W a n c bs ∧ (∀ x ∈ bs, 0 ≤ x ∧ x < 256) ∧ ∀ b off, a = some ⟨b, off, none⟩ → n = 0 ∨ b < W.heap.size := by
        have h3 := hg 2 f2 rfl
        have hys : ys[2]? = some (ys[2]'(by rw [hyl]; exact (show 2 < 3 by decide))) := List.getElem?_eq_getElem _
        rw [hys, h2.2] at h3
        obtain ⟨a, n, c, bs, hz, k1, k2, k3⟩ := byts_of_trod h3
        refine ⟨a, n, c, bs, ?_, k1, k2, k3⟩
        have h4 : ((cs'.drop f2.offset).take (Tryz.prog.cellsOf 22))[0]? = some (.slice a n c) := by rw [hz]; rfl
        rw [List.getElem?_take] at h4
        split at h4
        · simpa [h2.1] using h4
        · cases h4
      have q0 := (hat 0 (by omega)).trans e0
      have q1 := (hat 1 (by omega)).trans e1
      have q2 := (hat 2 (by omega)).trans hb
      exact ⟨⟨z0, z1, la, ll, lc, bs⟩, by simpa [Addr.add] using q0, q1, q2, ⟨w0, w1, hsl, hby, hlt⟩⟩
    obtain ⟨V, hV⟩ := choose_lt (α := ActV) key
    refine ⟨_, len, _, (List.range len).map V, rfl, by simp, ⟨fun i x hx => ?_⟩⟩
    have hil : i < len := by
      have := (List.getElem?_eq_some_iff.1 hx).1
      simpa using this
    simp [hil] at hx
    subst hx
    obtain ⟨k0, k1, k2, kw⟩ := hV i hil
    have hs0 := (hV 0 (by omega)).1
    simp [Addr.add] at hs0
    have hs := spot_none hs0
    obtain ⟨b, off, hab⟩ : ∃ b off, a' = ⟨b, off, none⟩ := ⟨_, _, hs⟩
    subst hab
    rw [Sg.add_plain] at k0 k1 k2
    rw [Sg.add_plain] at k1 k2
    exact ⟨b, off, rfl, World.block_lt_of_cell? _ _ k0, k0, k1, k2, kw⟩
end
end Go.Proofs.YtgdhaaokolfdoaaGreatDoor

/- Chapter 13's did: an act goes to the store and to the document's. Conditions: the store, the document's rows and the act lie in the world, and go together. -/
namespace Go.Proofs.YtgdhaaokolfdoaaGreatDoor
open Go.RowKit Go.Sg Go.Sg.Bits Go.Sg.Clk CP SF
/-- Which kind of act. -/
def kindOf (k : Int) : Int := (wrap64 (k.tmod 9 + 9)).tmod 9
theorem len_nodup {l : List Int} {n : Nat} (h : l.Nodup) (hn : ∀ k ∈ l, 0 ≤ k ∧ k < n) : l.length ≤ n := by
  have h1 : (l.map Int.toNat).Nodup := by
    rw [List.Nodup, List.pairwise_map]
    refine List.Pairwise.imp_of_mem ?_ h
    intro a b ha hb hab
    have := hn a ha
    have := hn b hb
    omega
  have h2 : (l.map Int.toNat).length ≤ (List.range n).length := by
    refine List.Nodup.length_le_of_subset h1 ?_
    intro x hx
    obtain ⟨k, hk, rfl⟩ := List.mem_map.1 hx
    have := hn k hk
    simp; omega
  simpa using h2
theorem RowOf.nodup {f : Int → Bool} {L : List Int} (h : RowOf f L) : L.Nodup := h.2.imp (fun h => by omega)
theorem RowOf.len {f : Int → Bool} {L : List Int} (h : RowOf f L) {n : Nat} (hn : ∀ k, f k = true → 0 ≤ k ∧ k < n) : L.length ≤ n := len_nodup h.nodup fun k hk => hn k ((h.1 k).1 hk)
theorem Rel.lens {y : Cs} {r : R13} (h : Rel y r) : r.live.length ≤ y.pages ∧ r.fresh.length ≤ y.pages ∧ r.dying.length ≤ y.pages ∧ r.dead.length ≤ y.pages := by
  refine ⟨?_, h.fresh.len h.inr.1, h.dying.len h.inr.2.1, h.dead.len h.inr.2.2⟩
  have := len_nodup (n := y.pages) h.nodup (fun k hk => by
    obtain ⟨p, hp, rfl⟩ := List.mem_map.1 hk
    obtain ⟨m, st, e1, e2, e3, _⟩ := h.live p hp
    rw [e1]; omega)
  simpa using this
theorem make_none_all {y : Cs} {r : R13} (h : Rel y r) {bs : List Int} (hm : r.make bs = none) : allTaken y.taken y.pages 0 y.pages := by
  intro i _ hi _
  unfold R13.make at hm
  split at hm
  · rename_i ht
    unfold takeR at ht
    rw [List.find?_eq_none] at ht
    have hl := h.len
    have hhd : r.hand.toNat = y.hand := by rw [h.hand.1]; simp
    have hh := h.hand.2
    obtain ⟨k, hk, e⟩ : ∃ k, k < y.pages ∧ (y.hand + k) % y.pages = i := by
      by_cases c : y.hand ≤ i
      · exact ⟨i - y.hand, by omega, by rw [show y.hand + (i - y.hand) = i by omega]; exact Nat.mod_eq_of_lt hi⟩
      · exact ⟨i + y.pages - y.hand, by omega, by rw [show y.hand + (i + y.pages - y.hand) = i + y.pages by omega, Nat.add_mod_right]; exact Nat.mod_eq_of_lt hi⟩
    have := ht i (List.mem_map.2 ⟨k, by simpa [hl] using hk, by rw [hl, hhd]; exact e⟩)
    rw [getD_of (h.taken i hi)] at this
    simpa using this
  · cases hm
def RefP (p : RPg) (w : World) (e : Ending) (w' : World) : Prop := e = .returned (.agg #[.int .i64 p.page, .int .i64 p.stamp]) ∧ Fr (fun _ => False) w w'
theorem ref13_p (p : RPg) (w : World) : Calls Tryz.prog 103 #[pgV p] w (RefP p w) := ref13_ok p w
/-- What no call turns. -/
structure Like (y y' : Cs) : Prop where
  plan : y'.plan = y.plan
  first : y'.first = y.first
  pages : y'.pages = y.pages
  room : y'.room = y.room
  places : y'.places = y.places
  sectors : y'.sectors = y.sectors
  size : y'.size = y.size
theorem Like.refl (y : Cs) : Like y y := ⟨rfl, rfl, rfl, rfl, rfl, rfl, rfl⟩
theorem Like.trans {y y1 y2 : Cs} (h : Like y y1) (k : Like y1 y2) : Like y y2 :=
  ⟨k.plan.trans h.plan, k.first.trans h.first, k.pages.trans h.pages, k.room.trans h.room, k.places.trans h.places, k.sectors.trans h.sectors, k.size.trans h.size⟩
/-- What an act that is no commit does. -/
def DidP (B : Blk) (y : Cs) (P : Prot) (a : Bool) (N : Nat) (w : World) (e : Ending) (w' : World) : Prop :=
  ∃ y' r' v err, e = .returned (.tuple #[v, .int .i64 err, .bool true]) ∧ FrB B w w' ∧ Like y y' ∧ y'.dead = y.dead ∧ y'.gen = y.gen ∧
    ((err = 0 ∧ Rel y' r' ∧ RefIs w' r' v ∧ StoreC w' B y' P a (N + 9)) ∨ (err = 4 ∧ a = true ∧ DownC w' B y P (N + 9)))
theorem _root_.Go.Sg.FrB.trans' {S : Nat → Prop} {B : Blk} {w w1 w2 : World} (h : FrB B w w1) (k : Fr S w1 w2) (hs : ∀ b, b < w.heap.size → ¬ S b) : FrB B w w2 := Fr.trans h k fun b hb hb' => absurd hb' (hs b hb)
/-- The box of the result: where a store lies on. -/
theorem StoreC.box {w w' : World} {B : Blk} {y : Cs} {P : Prot} {a : Bool} {N : Nat} (h : StoreC w B y P a N) {k : Nat} (F : Fr (fun b => b = k) w w') {c : Array Value} (hk : w.heap[k]? = some (.cells c 64)) (h0 : 0 < k) : StoreC w' B y P a N :=
  h.frL F hk (by decide) h0
theorem DownC.mono {w : World} {B : Blk} {y : Cs} {P : Prot} {N N' : Nat} (h : DownC w B y P N) (hN : N ≤ N') : DownC w B y P N' := by
  obtain ⟨D, h1, h2, h3⟩ := h.ex
  exact ⟨D, h1, h2.mono hN, h3⟩
theorem DownC.frL {w w' : World} {B : Blk} {y : Cs} {P : Prot} {N : Nat} (h : DownC w B y P N) {k : Nat} (F : Fr (fun b => b = k) w w') {c : Array Value} {t : TypeId} (hk : w.heap[k]? = some (.cells c t)) (ht : t ∉ 5 :: mutT) : DownC w' B y P N := by
  obtain ⟨D, h1, h2, h3⟩ := h.ex
  have h1' := h1
  obtain ⟨lv, hd, _⟩ := h1.dc
  obtain ⟨l, ck, hf, _⟩ := h1.fast
  obtain ⟨l', ck', hq, _⟩ := h1.past
  refine ⟨D, h1'.fr F (fun e => ?_) (fun e => ?_) (fun e => ?_) (fun g c' t' ht' hg e => ?_), h2, h3⟩
  · rw [e, hk] at hd; cases hd; exact ht (by decide)
  · rw [e, hk] at hf; cases hf
  · rw [e, hk] at hq; cases hq
  · rw [e, hk] at hg; cases hg; rcases ht' with rfl | rfl | rfl <;> exact ht (by decide)
theorem DownC.fr0 {w w' : World} {B : Blk} {y : Cs} {P : Prot} {N : Nat} (h : DownC w B y P N) (F : Fr (fun _ => False) w w') : DownC w' B y P N := by
  obtain ⟨D, h1, h2, h3⟩ := h.ex
  exact ⟨D, h1.fr F (fun h => h) (fun h => h) (fun h => h) (fun _ _ _ _ _ h => h), h2, h3⟩
/-- An act is over: its result lies in the box k. -/
theorem did_end {w W4 W' : World} {B : Blk} {y y' : Cs} {P : Prot} {a : Bool} {N : Nat} {r' : R13} {t l f yy d : Value} {k : Nat} {c : Array Value} (hk : w.heap.size ≤ k) (hk0 : 0 < k) (k2 : W4.heap[k]? = some (.cells c 64)) (F4 : FrB B w W4) (F : Fr (fun b => b = k) W4 W')
    (hS : StoreC W4 B y' P a (N + 9)) (hr : RefAt W4 r' t l f yy d) (hR : Rel y' r') (hl : Like y y') (hd : y'.dead = y.dead) (hg : y'.gen = y.gen) : DidP B y P a N w (.returned (.tuple #[refV r' t l f yy d, .int .i64 0, .bool true])) W' :=
  ⟨y', r', _, 0, rfl, F4.trans' F (fun b hb e => by omega), hl, hd, hg, .inl ⟨rfl, hR, ⟨_, _, _, _, _, rfl, ref_64 hr F (fun b hb => by subst hb; exact ⟨_, k2⟩)⟩, hS.box F k2 hk0⟩⟩
theorem did_down {w W4 W' : World} {B : Blk} {y : Cs} {P : Prot} {N : Nat} {v : Value} {k : Nat} {c : Array Value} {r0 : R13} (hk : w.heap.size ≤ k) (k2 : W4.heap[k]? = some (.cells c 64)) (F4 : FrB B w W4) (F : Fr (fun b => b = k) W4 W')
    (hD : DownC W4 B y P (N + 9)) : DidP B y P true N w (.returned (.tuple #[v, .int .i64 4, .bool true])) W' :=
  ⟨y, r0, v, 4, rfl, F4.trans' F (fun b hb e => by omega), Like.refl y, rfl, rfl, .inr ⟨rfl, rfl, hD.frL F k2 (by decide)⟩⟩
theorem not_all {t : Nat → Bool} {n : Nat} (h : ¬ allTaken t n 0 n) : ∃ j, j < n ∧ t j = false := by
  refine Classical.byContradiction fun hc => h fun i _ hi _ => ?_
  cases e : t i with
  | true => rfl
  | false => exact absurd ⟨i, hi, e⟩ hc
theorem at_ok {n : Int} {L : Nat} (hL : 0 < L) (hL' : L ≤ 65536) : ∃ i : Nat, i < L ∧ wrap64 ((IntKind.u64.wrap n).tmod (L : Int)) = (i : Int) := by
  have h0 : 0 ≤ IntKind.u64.wrap n := by
    simp only [IntKind.wrap, IntKind.signed, IntKind.bits]
    exact Int.emod_nonneg _ (by decide)
  obtain ⟨m, hm⟩ := Int.eq_ofNat_of_zero_le h0
  refine ⟨m % L, Nat.mod_lt _ hL, ?_⟩
  rw [hm, show ((m : Int)).tmod (L : Int) = ((m % L : Nat) : Int) from (Int.ofNat_tmod m L).symm]
  have := Nat.mod_lt m hL
  simp only [wrap64]
  omega
end Go.Proofs.YtgdhaaokolfdoaaGreatDoor

/- Chapter 13's did: New. Conditions: the store, the document's rows and the act lie in the world, and go together. -/
namespace Go.Proofs.YtgdhaaokolfdoaaGreatDoor
open Go.RowKit Go.Sg Go.Sg.Bits Go.Sg.Clk CP SF
set_option maxHeartbeats 4000000 in
set_option maxRecDepth 100000 in
theorem did_new {w w0 : World} {B : Blk} {y : Cs} {P : Prot} {a : Bool} {N : Nat} (h : StoreC w B y P a N) {r : R13} {t l f yy d : Value} (hr : RefAt w r t l f yy d) {x : ActV} (hx : ActOk w0 x) (hF0 : Fr (fun _ => False) w0 w) (hB0 : w0.heap.size ≤ B.base) (hR : Rel y r) (hN : N + 9 ≤ 90000) (hp0 : 0 < y.pages) (hp1 : y.pages ≤ 65535) (hroom : y.room = 77)
    (kd : Int) (hk3 : kd = 0 ∨ kd = 1 ∨ kd = 2) (hk : (wrap64 (x.kind.tmod 9 + 9)).tmod 9 = kd) (hll : x.ll ≤ 77) :
    Calls Tryz.prog 36 #[B.ptr, refV r t l f yy d, x.val] w (DidP B y P a N w) := by
  have HL := hid (And.intro hR.lens hR.len)
  have hnd : decide ((77 : Int) < (x.ll : Int)) = false := by simp; omega
  obtain ⟨ta, tc, rfl, -, -, -, -⟩ := own_slice hr.taken
  obtain ⟨la, lc, rfl, -, -, -, -⟩ := own_slice hr.live
  obtain ⟨fa, fc, rfl, -, -, -, -⟩ := own_slice hr.fresh
  obtain ⟨ya, yc, rfl, -, -, -, -⟩ := own_slice hr.dying
  obtain ⟨da, dc, rfl, -, -, -, -⟩ := own_slice hr.dead
  obtain ⟨w1, hw1⟩ : ∃ w1, ((w.alloc (.cells #[.slice ta r.taken.length tc, .int .i64 r.hand, .int .i64 r.gen, .slice la r.live.length lc, .slice fa r.fresh.length fc, .slice ya r.dying.length yc, .slice da r.dead.length dc] 64)).alloc (.cells #[.int .i64 x.kind, .int .i64 x.n, .slice x.la x.ll x.lc] 69)).alloc (.cells z64 64) = w1 := ⟨_, rfl⟩
  obtain ⟨b0, b1, b2, F1⟩ := heap_three hw1
  have HW := hid hw1
  have H1 := hid (And.intro b0 (And.intro b1 (And.intro b2 F1)))
  have H0 := hid hr
  have HS := hid h
  have HX := hid hx
  have HR := hid hR
  unfold z64 at HW
  obtain ⟨c0, c1, c2, c3, c4, c5, c6, cz, cl⟩ := cells7 b0
  obtain ⟨x0, x1, x2, xz, xl⟩ := cells3 b1
  clear hw1 b0 b1 b2 F1 hr h hx hR
  have HF0 := hid hF0
  clear hF0
  have hcv : (convert 22 9 (.slice x.la x.ll x.lc)).run Tryz.prog w1 = .ok (.string (strOfNums x.bs)) w1 := str_at ⟨HX.out.slb.by_.fr (HF0.out.trans H1.out.2.2.2 (fun _ _ h => h)) (fun _ _ _ _ h => h), HX.out.slb.at_⟩ 9 Tryz.underlying9
  go_enter Tryz.func36, Tryz.ntmps36
  go_upto_region 1 with fail
  rw [HW.out]
  have q1 : decide ((3 : Int) ≤ kd) = false := by simp; omega
  have q2 : decide (kd ≤ (4 : Int)) = true := by simp; omega
  have q3 : (kd == 3) = false := by simp; omega
  have q4 : (kd == 4) = false := by simp; omega
  have q5 : (kd == 5) = false := by simp; omega
  have q6 : (kd == 6) = false := by simp; omega
  have q7 : (kd == 7) = false := by simp; omega
  have q8 : (kd == 8) = false := by simp; omega
  have HM := hid (rmake_ok (H0.out.fr H1.out.2.2.2) (by have := HL.out.2; omega) (by rw [HR.out.hand.1]; omega) (by rw [HR.out.hand.1, HR.out.len]; have := HR.out.hand.2; omega) (by have := HL.out.1.1; omega) (by have := HL.out.1.2.1; omega) x.bs)
  have hll6 : r.live.length ≤ 65535 := by have := HL.out.1.1; omega
  have hdl : 0 < r.live.length ∧ decide ((0 : Int) < (r.live.length : Int)) = true ∨ ¬ 0 < r.live.length ∧ decide ((0 : Int) < (r.live.length : Int)) = false := by
    by_cases hl0 : 0 < r.live.length
    · exact .inl ⟨hl0, by simpa using hl0⟩
    · exact .inr ⟨hl0, by simpa using hl0⟩
  rcases hdl with ⟨hl0, hd0⟩ | ⟨hl0, hd0⟩
  all_goals
    go_upto_region 31 with (go_at_call 106; refine HM.out.mono ?_)
    rintro e W2 ⟨F2, hmk⟩
    have F02 : Fr (fun _ => False) w W2 := H1.out.2.2.2.trans F2 (fun _ _ h => h)
    have k0 := F2.heap H1.out.1 (fun h => h)
    have k1 := F2.heap H1.out.2.1 (fun h => h)
    have k2 := F2.heap H1.out.2.2.1 (fun h => h)
    obtain ⟨d0, d1, d2, d3, d4, d5, d6, dz, dl⟩ := cells7 k0
    obtain ⟨e0, e1, e2, ez, el⟩ := cells3 k1
    have H2 := hid (And.intro F02 (And.intro k0 (And.intro k1 k2)))
    clear c0 c1 c2 c3 c4 c5 c6 cz cl x0 x1 x2 xz xl hcv F2 F02 k0 k1 k2
    rcases hmake : r.make x.bs with _ | ⟨r2, q⟩
    · rw [hmake] at hmk
      obtain ⟨v, rfl, hv⟩ := hmk
      obtain ⟨ta2, tc2, la2, lc2, fa2, fc2, ya2, yc2, da2, dc2, rfl, -⟩ := hv.slices
      have HFull := hid (make_none_all HR.out hmake)
      clear hmake hv
      unfold pg0
      go_upto_region 31 with fail
      obtain ⟨W3, hW3⟩ : ∃ W3, ((W2.alloc (.cells #[.slice ta2 r.taken.length tc2, .int .i64 r.hand, .int .i64 r.gen, .slice la2 r.live.length lc2, .slice fa2 r.fresh.length fc2, .slice ya2 r.dying.length yc2, .slice da2 r.dead.length dc2] 64)).alloc (.cells #[.int .i64 0, .int .i64 0, .string ⟨#[]⟩] 71)) = W3 := ⟨_, rfl⟩
      rw [hW3]
      obtain ⟨_, _, F23⟩ := heap_two hW3
      have F03 := H2.out.1.trans F23 (fun _ _ h => h)
      have HN := hid (new_full_c (HS.out.fr0 F03) x.la x.ll x.lc (by rw [hroom]; exact hll) HFull.out)
      have k0 := F23.heap H2.out.2.1 (fun h => h)
      have k1 := F23.heap H2.out.2.2.1 (fun h => h)
      have k2 := F23.heap H2.out.2.2.2 (fun h => h)
      have H3 := hid (And.intro F03 (And.intro k0 k2))
      clear d0 d1 d2 d3 d4 d5 d6 dz dl e0 e1 e2 ez el F23 F03 k0 k2 hW3
      obtain ⟨e0, e1, e2, ez, el⟩ := cells3 k1
      clear k1
      go_wp2_with (go_at_call 22; refine HN.out.mono ?_)
      rintro _ W4 ⟨rfl, F4⟩
      have k0 := F4.heap H3.out.2.1 (fun h => h)
      have k2 := F4.heap H3.out.2.2 (fun h => h)
      have H4 := hid (And.intro (H3.out.1.trans F4 (fun _ _ h => h)) k2)
      clear e0 e1 e2 ez el F4
      obtain ⟨d0, d1, d2, d3, d4, d5, d6, dz, dl⟩ := cells7 k0
      obtain ⟨g0, g1, g2, g3, g4, g5, g6, gz, gl⟩ := cells7 k2
      clear k0 k2
      go_wp2_with fail
      refine bodyPost_ret (v := .tuple #[refV r (.slice ta r.taken.length tc) (.slice la r.live.length lc) (.slice fa r.fresh.length fc) (.slice ya r.dying.length yc) (.slice da r.dead.length dc), .int .i64 0, .bool true]) (by simp [results, go_sem, *]) rfl ?_
      refine did_end (k := w.heap.size + 1 + 1) (by omega) (by omega) H4.out.2 (FrB.none H4.out.1) ?_ ((HS.out.fr0 H4.out.1).mono (by omega) hN) (H0.out.fr H4.out.1) HR.out (Like.refl y) rfl rfl
      with_reducible (repeat (first | exact Fr.refl _ _ | apply Fr.drew | apply Fr.alloc | refine Fr.setCell ?_ (fun _ => by simp) _))
    · rw [hmake] at hmk
      obtain ⟨v, rfl, hv⟩ := hmk
      obtain ⟨ta2, tc2, la2, lc2, fa2, fc2, ya2, yc2, da2, dc2, rfl, hv2⟩ := hv.slices
      obtain ⟨j, hj, hjf⟩ := not_all (fun h => by rw [rel_full HR.out h x.bs] at hmake; cases hmake)
      have HV := hid (And.intro hmake hv2)
      clear hmake hv hv2
      go_upto_region 31 with fail
      obtain ⟨W3, hW3⟩ : ∃ W3, ((W2.alloc (.cells #[.slice ta2 r2.taken.length tc2, .int .i64 r2.hand, .int .i64 r2.gen, .slice la2 r2.live.length lc2, .slice fa2 r2.fresh.length fc2, .slice ya2 r2.dying.length yc2, .slice da2 r2.dead.length dc2] 64)).alloc (.cells #[.int .i64 q.page, .int .i64 q.stamp, .string (strOfNums q.load)] 71)) = W3 := ⟨_, rfl⟩
      rw [hW3]
      obtain ⟨j0, j1, F23⟩ := heap_two hW3
      have F03 := H2.out.1.trans F23 (fun _ _ h => h)
      have HN := hid (new_c (HS.out.fr0 F03) (HX.out.inp hB0 (HF0.out.trans F03 (fun _ _ h => h))) HX.out.by_ (by rw [hroom]; exact hll) hj hjf (by omega))
      have k1 := F23.heap H2.out.2.2.1 (fun h => h)
      have k2 := F23.heap H2.out.2.2.2 (fun h => h)
      have H3 := hid (And.intro F03 (And.intro k2 (And.intro j0 (And.intro j1 (HV.out.2.fr F23)))))
      clear d0 d1 d2 d3 d4 d5 d6 dz dl e0 e1 e2 ez el F23 F03 k2 hW3 j0 j1
      obtain ⟨e0, e1, e2, ez, el⟩ := cells3 k1
      clear k1
      go_wp2_with (go_at_call 22; refine HN.out.mono ?_)
      rintro _ W4 ⟨n, err, hn, rfl, hw, F4⟩
      obtain ⟨r', hm', hR', -⟩ := rel_make HR.out hn x.bs hp0
      rw [HV.out.1] at hm'
      obtain ⟨rfl, rfl⟩ : r2 = r' ∧ q = ⟨n, y.gen, x.bs⟩ := by cases hm'; exact ⟨rfl, rfl⟩
      have k2 := F4.heap H3.out.2.1 (by decide)
      have j0 := F4.heap H3.out.2.2.1 (by decide)
      have j1 := F4.heap H3.out.2.2.2.1 (by decide)
      have H4 := hid (And.intro (FrB.trans (FrB.none H3.out.1) F4) (And.intro k2 (And.intro (H3.out.2.2.2.2.frB F4) hR')))
      clear e0 e1 e2 ez el F4 hm' hn hR'
      have j0' := j0
      have j1' := j1
      obtain ⟨g0, g1, g2, g3, g4, g5, g6, gz, gl⟩ := cells7 k2
      obtain ⟨d0, d1, d2, d3, d4, d5, d6, dz, dl⟩ := cells7 j0
      obtain ⟨e0, e1, e2, ez, el⟩ := cells3 j1
      clear k2 j0 j1
      rcases hw with ⟨rfl, hS4⟩ | ⟨rfl, ha, hD4⟩
      · simp only [SF.refV, if_pos]
        have HS4 := hid hS4
        clear hS4
        go_upto_region 34 with fail
        obtain ⟨W5, hW5⟩ : ∃ W5, W4.alloc (.cells #[.int .i64 n, .int .i64 y.gen] 35) = W5 := ⟨_, rfl⟩
        rw [hW5]
        have F45 : Fr (fun _ => False) W4 W5 := by rw [← hW5]; exact (Fr.refl _ _).alloc _
        have j9 : W5.heap[W4.heap.size]? = some (.cells #[.int .i64 n, .int .i64 y.gen] 35) := by rw [← hW5]; exact heap_alloc_new _ _
        have j2 := F45.heap H4.out.2.1 (fun h => h)
        have j0 := F45.heap j0' (fun h => h)
        have j1 := F45.heap j1' (fun h => h)
        have H5 := hid (And.intro F45 (And.intro j9 (And.intro j2 (And.intro j0 j1))))
        clear F45 hW5 g0 g1 g2 g3 g4 g5 g6 gz gl d0 d1 d2 d3 d4 d5 d6 dz dl e0 e1 e2 ez el q1 q2 q3 q4 q5 q6 q7 q8 hd0 hnd j0' j1'
        obtain ⟨g0, g1, g2, g3, g4, g5, g6, gz, gl⟩ := cells7 j2
        obtain ⟨d0, d1, d2, d3, d4, d5, d6, dz, dl⟩ := cells7 j0
        obtain ⟨e0, e1, e2, ez, el⟩ := cells3 j1
        obtain ⟨f0, f1, fz, fl⟩ := cells2 j9
        clear j2 j0 j1 j9
        have sa := lt_of_heap H2.out.2.2.2
        have sb := lt_of_heap H4.out.2.1
        have n1 : ¬ w.heap.size + 1 + 1 = W2.heap.size := by omega
        have n2 : ¬ w.heap.size + 1 + 1 = W2.heap.size + 1 := by omega
        have n3 : ¬ w.heap.size + 1 + 1 = W4.heap.size := by omega
        have n4 : ¬ W2.heap.size = w.heap.size + 1 + 1 := by omega
        have n5 : ¬ W2.heap.size + 1 = w.heap.size + 1 + 1 := by omega
        have n6 : ¬ W4.heap.size = w.heap.size + 1 + 1 := by omega
        have n7 : ¬ w.heap.size + 1 = W2.heap.size := by omega
        have n8 : ¬ W2.heap.size = w.heap.size + 1 := by omega
        go_region_held3 (fun W => (W.cell? ⟨W2.heap.size, 0, none⟩ = some (.slice ta2 r2.taken.length tc2) ∧ W.cell? ⟨W2.heap.size, 1, none⟩ = some (.int .i64 r2.hand) ∧ W.cell? ⟨W2.heap.size, 2, none⟩ = some (.int .i64 r2.gen) ∧ W.cell? ⟨W2.heap.size, 3, none⟩ = some (.slice la2 r2.live.length lc2) ∧ W.cell? ⟨W2.heap.size, 4, none⟩ = some (.slice fa2 r2.fresh.length fc2) ∧ W.cell? ⟨W2.heap.size, 5, none⟩ = some (.slice ya2 r2.dying.length yc2) ∧ W.cell? ⟨W2.heap.size, 6, none⟩ = some (.slice da2 r2.dead.length dc2)) ∧ (W.cell? ⟨W4.heap.size, 0, none⟩ = some (.int .i64 n) ∧ W.cell? ⟨W4.heap.size, 1, none⟩ = some (.int .i64 y.gen)) ∧ (W.cell? ⟨W2.heap.size + 1, 0, none⟩ = some (.int .i64 n) ∧ W.cell? ⟨W2.heap.size + 1, 1, none⟩ = some (.int .i64 y.gen) ∧ W.cell? ⟨W2.heap.size + 1, 2, none⟩ = some (.string (strOfNums x.bs)))) (go_keep)
          ((go_at_call 103; refine (ref13_ok ⟨n, y.gen, x.bs⟩ _).mono ?_; rintro _ W6 ⟨rfl, F6⟩; have F56 : Fr (fun _ => False) W5 W6 := Fr.trans (by with_reducible (repeat (first | exact Fr.refl _ _ | apply Fr.drew))) F6 (fun _ _ h => h); have h2 := F56.heap H5.out.2.2.1 (fun h => h); have h0 := F56.heap H5.out.2.2.2.1 (fun h => h); have h1 := F56.heap H5.out.2.2.2.2 (fun h => h); have h9 := F56.heap H5.out.2.1 (fun h => h); have H6 := hid (And.intro F56 h2); clear g0 g1 g2 g3 g4 g5 g6 gz gl d0 d1 d2 d3 d4 d5 d6 dz dl e0 e1 e2 ez el f0 f1 fz fl F6 F56; obtain ⟨g0, g1, g2, g3, g4, g5, g6, gz, gl⟩ := cells7 h2; obtain ⟨d0, d1, d2, d3, d4, d5, d6, dz, dl⟩ := cells7 h0; obtain ⟨e0, e1, e2, ez, el⟩ := cells3 h1; obtain ⟨f0, f1, fz, fl⟩ := cells2 h9; clear h2 h0 h1 h9))
        all_goals (go_wp2_with fail)
        all_goals refine bodyPost_ret (v := .tuple #[refV r2 (.slice ta2 r2.taken.length tc2) (.slice la2 r2.live.length lc2) (.slice fa2 r2.fresh.length fc2) (.slice ya2 r2.dying.length yc2) (.slice da2 r2.dead.length dc2), .int .i64 0, .bool true]) (by simp [results, go_sem, *]) rfl ?_
        all_goals (
          have F46 := H5.out.1.trans H6.out.1 (fun _ _ h => h)
          refine did_end (k := w.heap.size + 1 + 1) (by omega) (by omega) H6.out.2 (H4.out.1.trans' F46 (fun _ _ h => h)) ?_ ((HS4.out.fr0 F46).mono (by omega) hN) (H4.out.2.2.1.fr F46) H4.out.2.2.2 ⟨rfl, rfl, rfl, rfl, rfl, rfl, rfl⟩ rfl rfl
          with_reducible (repeat (first | exact Fr.refl _ _ | apply Fr.drew | apply Fr.alloc | refine Fr.setCell ?_ (fun _ => by simp) _)))
      · subst ha
        simp only [SF.refV, if_neg (show ¬ (4 : Int) = 0 by decide)]
        have HD4 := hid hD4
        clear hD4
        go_upto_region 34 with fail
        obtain ⟨W5, hW5⟩ : ∃ W5, W4.alloc (.cells #[.int .i64 0, .int .i64 0] 35) = W5 := ⟨_, rfl⟩
        rw [hW5]
        have F45 : Fr (fun _ => False) W4 W5 := by rw [← hW5]; exact (Fr.refl _ _).alloc _
        have j2 := F45.heap H4.out.2.1 (fun h => h)
        have j0 := F45.heap j0' (fun h => h)
        have H5 := hid (And.intro F45 j2)
        clear F45 hW5 g0 g1 g2 g3 g4 g5 g6 gz gl d0 d1 d2 d3 d4 d5 d6 dz dl e0 e1 e2 ez el q1 q2 q3 q4 q5 q6 q7 q8 hd0 hnd j0' j1'
        obtain ⟨g0, g1, g2, g3, g4, g5, g6, gz, gl⟩ := cells7 j2
        obtain ⟨d0, d1, d2, d3, d4, d5, d6, dz, dl⟩ := cells7 j0
        clear j2 j0
        have sa := lt_of_heap H2.out.2.2.2
        have n1 : ¬ w.heap.size + 1 + 1 = W2.heap.size := by omega
        have n4 : ¬ W2.heap.size = w.heap.size + 1 + 1 := by omega
        go_region
        all_goals (go_wp2_with fail)
        all_goals refine bodyPost_ret (v := .tuple #[refV r2 (.slice ta2 r2.taken.length tc2) (.slice la2 r2.live.length lc2) (.slice fa2 r2.fresh.length fc2) (.slice ya2 r2.dying.length yc2) (.slice da2 r2.dead.length dc2), .int .i64 4, .bool true]) (by simp [results, go_sem, *]) rfl ?_
        all_goals (
          refine did_down (r0 := r) (k := w.heap.size + 1 + 1) (by omega) H5.out.2 (H4.out.1.trans' H5.out.1 (fun _ _ h => h)) ?_ ((HD4.out.fr0 H5.out.1).mono (by omega))
          with_reducible (repeat (first | exact Fr.refl _ _ | apply Fr.drew | apply Fr.alloc | refine Fr.setCell ?_ (fun _ => by simp) _)))
end Go.Proofs.YtgdhaaokolfdoaaGreatDoor

/- Chapter 13's did: acts on nothing, long ones, Flush, Commit. Conditions: the store, the document's rows and the act lie in the world, and go together. -/
namespace Go.Proofs.YtgdhaaokolfdoaaGreatDoor
open Go.RowKit Go.Sg Go.Sg.Bits Go.Sg.Clk CP SF
set_option maxHeartbeats 4000000 in
set_option maxRecDepth 100000 in
theorem did_none {w w0 : World} {B : Blk} {y : Cs} {P : Prot} {a : Bool} {N : Nat} (h : StoreC w B y P a N) {r : R13} {t l f yy d : Value} (hr : RefAt w r t l f yy d) {x : ActV} (hx : ActOk w0 x) (hF0 : Fr (fun _ => False) w0 w) (hB0 : w0.heap.size ≤ B.base) (hR : Rel y r) (hN : N + 9 ≤ 90000) (hp0 : 0 < y.pages) (hp1 : y.pages ≤ 65535) (hroom : y.room = 77)
    (kd : Int) (hk3 : 3 ≤ kd ∧ kd ≤ 6) (hk : (wrap64 (x.kind.tmod 9 + 9)).tmod 9 = kd) (hl0 : r.live.length = 0) :
    Calls Tryz.prog 36 #[B.ptr, refV r t l f yy d, x.val] w (DidP B y P a N w) := by
  have HL := hid (And.intro hR.lens hR.len)
  obtain ⟨ta, tc, rfl, -, -, -, -⟩ := own_slice hr.taken
  obtain ⟨la, lc, rfl, -, -, -, -⟩ := own_slice hr.live
  obtain ⟨fa, fc, rfl, -, -, -, -⟩ := own_slice hr.fresh
  obtain ⟨ya, yc, rfl, -, -, -, -⟩ := own_slice hr.dying
  obtain ⟨da, dc, rfl, -, -, -, -⟩ := own_slice hr.dead
  obtain ⟨w1, hw1⟩ : ∃ w1, ((w.alloc (.cells #[.slice ta r.taken.length tc, .int .i64 r.hand, .int .i64 r.gen, .slice la r.live.length lc, .slice fa r.fresh.length fc, .slice ya r.dying.length yc, .slice da r.dead.length dc] 64)).alloc (.cells #[.int .i64 x.kind, .int .i64 x.n, .slice x.la x.ll x.lc] 69)).alloc (.cells z64 64) = w1 := ⟨_, rfl⟩
  obtain ⟨b0, b1, b2, F1⟩ := heap_three hw1
  have HW := hid hw1
  have H1 := hid (And.intro b0 (And.intro b1 (And.intro b2 F1)))
  have H0 := hid hr
  have HS := hid h
  have HX := hid hx
  have HR := hid hR
  unfold z64 at HW
  obtain ⟨c0, c1, c2, c3, c4, c5, c6, cz, cl⟩ := cells7 b0
  obtain ⟨x0, x1, x2, xz, xl⟩ := cells3 b1
  clear hw1 b0 b1 b2 F1 hr h hx hR
  have HF0 := hid hF0
  clear hF0
  have q1 : decide ((3 : Int) ≤ kd) = true := by simp; omega
  have q2 : decide (kd ≤ (6 : Int)) = true := by simp; omega
  have hd0 : decide ((0 : Int) < (r.live.length : Int)) = false := decide_eq_false (by omega)
  obtain ⟨g0, g1, g2, g3, g4, g5, g6, gz, gl⟩ := cells7 H1.out.2.2.1
  have hnl : ¬ 0 < r.live.length := by omega
  clear hl0
  go_enter Tryz.func36, Tryz.ntmps36
  go_upto_region 1 with fail
  rw [HW.out]
  go_wp2_with fail
  refine bodyPost_ret (v := .tuple #[refV r (.slice ta r.taken.length tc) (.slice la r.live.length lc) (.slice fa r.fresh.length fc) (.slice ya r.dying.length yc) (.slice da r.dead.length dc), .int .i64 0, .bool true]) (by simp [results, go_sem, *]) rfl ?_
  refine did_end (k := w.heap.size + 1 + 1) (by omega) (by omega) H1.out.2.2.1 (FrB.none H1.out.2.2.2) ?_ ((HS.out.fr0 H1.out.2.2.2).mono (by omega) hN) (H0.out.fr H1.out.2.2.2) HR.out (Like.refl y) rfl rfl
  with_reducible (repeat (first | exact Fr.refl _ _ | apply Fr.drew | apply Fr.alloc | refine Fr.setCell ?_ (fun _ => by simp) _))
set_option maxHeartbeats 4000000 in
set_option maxRecDepth 100000 in
theorem did_long {w w0 : World} {B : Blk} {y : Cs} {P : Prot} {a : Bool} {N : Nat} (h : StoreC w B y P a N) {r : R13} {t l f yy d : Value} (hr : RefAt w r t l f yy d) {x : ActV} (hx : ActOk w0 x) (hF0 : Fr (fun _ => False) w0 w) (hB0 : w0.heap.size ≤ B.base) (hR : Rel y r) (hN : N + 9 ≤ 90000) (hp0 : 0 < y.pages) (hp1 : y.pages ≤ 65535) (hroom : y.room = 77)
    (kd : Int) (hk3 : 0 ≤ kd ∧ kd ≤ 4) (hk : (wrap64 (x.kind.tmod 9 + 9)).tmod 9 = kd) (hl3 : 0 < r.live.length ∨ kd < 3) (hll : 77 < x.ll) :
    Calls Tryz.prog 36 #[B.ptr, refV r t l f yy d, x.val] w (DidP B y P a N w) := by
  have HL := hid (And.intro hR.lens hR.len)
  obtain ⟨ta, tc, rfl, -, -, -, -⟩ := own_slice hr.taken
  obtain ⟨la, lc, rfl, -, -, -, -⟩ := own_slice hr.live
  obtain ⟨fa, fc, rfl, -, -, -, -⟩ := own_slice hr.fresh
  obtain ⟨ya, yc, rfl, -, -, -, -⟩ := own_slice hr.dying
  obtain ⟨da, dc, rfl, -, -, -, -⟩ := own_slice hr.dead
  obtain ⟨w1, hw1⟩ : ∃ w1, ((w.alloc (.cells #[.slice ta r.taken.length tc, .int .i64 r.hand, .int .i64 r.gen, .slice la r.live.length lc, .slice fa r.fresh.length fc, .slice ya r.dying.length yc, .slice da r.dead.length dc] 64)).alloc (.cells #[.int .i64 x.kind, .int .i64 x.n, .slice x.la x.ll x.lc] 69)).alloc (.cells z64 64) = w1 := ⟨_, rfl⟩
  obtain ⟨b0, b1, b2, F1⟩ := heap_three hw1
  have HW := hid hw1
  have H1 := hid (And.intro b0 (And.intro b1 (And.intro b2 F1)))
  have H0 := hid hr
  have HS := hid h
  have HX := hid hx
  have HR := hid hR
  unfold z64 at HW
  obtain ⟨c0, c1, c2, c3, c4, c5, c6, cz, cl⟩ := cells7 b0
  obtain ⟨x0, x1, x2, xz, xl⟩ := cells3 b1
  clear hw1 b0 b1 b2 F1 hr h hx hR
  have HF0 := hid hF0
  clear hF0
  have hnd : decide ((77 : Int) < (x.ll : Int)) = true := by simp; omega
  have q2 : decide (kd ≤ (4 : Int)) = true := by simp; omega
  have hFw1 := H1.out.2.2.2
  have HN := hid (new_long_c (HS.out.fr0 hFw1) x.la x.ll x.lc (by rw [hroom]; exact hll))
  clear hFw1
  have hll6 : r.live.length ≤ 65535 := by have := HL.out.1.1; omega
  have hdl : 0 < r.live.length ∧ decide ((0 : Int) < (r.live.length : Int)) = true ∨ ¬ 0 < r.live.length ∧ decide ((0 : Int) < (r.live.length : Int)) = false ∧ decide ((3 : Int) ≤ kd) = false := by
    by_cases hl0 : 0 < r.live.length
    · exact .inl ⟨hl0, by simpa using hl0⟩
    · exact .inr ⟨hl0, by simpa using hl0, by simp; omega⟩
  go_enter Tryz.func36, Tryz.ntmps36
  go_upto_region 1 with fail
  rw [HW.out]
  rcases hdl with ⟨hl0, hd0⟩ | ⟨hl0, hd0, q3⟩
  all_goals
    go_wp2_with (go_at_call 22; refine HN.out.mono ?_)
    rintro _ W4 ⟨rfl, F4⟩
    have k0 := F4.heap H1.out.1 (fun h => h)
    have k2 := F4.heap H1.out.2.2.1 (fun h => h)
    have H4 := hid (And.intro (H1.out.2.2.2.trans F4 (fun _ _ h => h)) k2)
    clear x0 x1 x2 xz xl c0 c1 c2 c3 c4 c5 c6 cz cl F4
    obtain ⟨d0, d1, d2, d3, d4, d5, d6, dz, dl⟩ := cells7 k0
    obtain ⟨g0, g1, g2, g3, g4, g5, g6, gz, gl⟩ := cells7 k2
    clear k0 k2
    go_wp2_with fail
    refine bodyPost_ret (v := .tuple #[refV r (.slice ta r.taken.length tc) (.slice la r.live.length lc) (.slice fa r.fresh.length fc) (.slice ya r.dying.length yc) (.slice da r.dead.length dc), .int .i64 0, .bool true]) (by simp [results, go_sem, *]) rfl ?_
    refine did_end (k := w.heap.size + 1 + 1) (by omega) (by omega) H4.out.2 (FrB.none H4.out.1) ?_ ((HS.out.fr0 H4.out.1).mono (by omega) hN) (H0.out.fr H4.out.1) HR.out (Like.refl y) rfl rfl
    with_reducible (repeat (first | exact Fr.refl _ _ | apply Fr.drew | apply Fr.alloc | refine Fr.setCell ?_ (fun _ => by simp) _))
set_option maxHeartbeats 4000000 in
set_option maxRecDepth 100000 in
theorem did_flush {w w0 : World} {B : Blk} {y : Cs} {P : Prot} {a : Bool} {N : Nat} (h : StoreC w B y P a N) {r : R13} {t l f yy d : Value} (hr : RefAt w r t l f yy d) {x : ActV} (hx : ActOk w0 x) (hF0 : Fr (fun _ => False) w0 w) (hB0 : w0.heap.size ≤ B.base) (hR : Rel y r) (hN : N + 9 ≤ 90000) (hp0 : 0 < y.pages) (hp1 : y.pages ≤ 65535) (hroom : y.room = 77) (hpl : y.places ≤ 8)
    (hk : (wrap64 (x.kind.tmod 9 + 9)).tmod 9 = 7) :
    Calls Tryz.prog 36 #[B.ptr, refV r t l f yy d, x.val] w (DidP B y P a N w) := by
  have HL := hid (And.intro hR.lens hR.len)
  obtain ⟨ta, tc, rfl, -, -, -, -⟩ := own_slice hr.taken
  obtain ⟨la, lc, rfl, -, -, -, -⟩ := own_slice hr.live
  obtain ⟨fa, fc, rfl, -, -, -, -⟩ := own_slice hr.fresh
  obtain ⟨ya, yc, rfl, -, -, -, -⟩ := own_slice hr.dying
  obtain ⟨da, dc, rfl, -, -, -, -⟩ := own_slice hr.dead
  obtain ⟨w1, hw1⟩ : ∃ w1, ((w.alloc (.cells #[.slice ta r.taken.length tc, .int .i64 r.hand, .int .i64 r.gen, .slice la r.live.length lc, .slice fa r.fresh.length fc, .slice ya r.dying.length yc, .slice da r.dead.length dc] 64)).alloc (.cells #[.int .i64 x.kind, .int .i64 x.n, .slice x.la x.ll x.lc] 69)).alloc (.cells z64 64) = w1 := ⟨_, rfl⟩
  obtain ⟨b0, b1, b2, F1⟩ := heap_three hw1
  have HW := hid hw1
  have H1 := hid (And.intro b0 (And.intro b1 (And.intro b2 F1)))
  have H0 := hid hr
  have HS := hid h
  have HX := hid hx
  have HR := hid hR
  unfold z64 at HW
  obtain ⟨c0, c1, c2, c3, c4, c5, c6, cz, cl⟩ := cells7 b0
  obtain ⟨x0, x1, x2, xz, xl⟩ := cells3 b1
  clear hw1 b0 b1 b2 F1 hr h hx hR
  have HF0 := hid hF0
  clear hF0
  have hFw1 := H1.out.2.2.2
  have HN := hid (flush_c (HS.out.fr0 hFw1) (by omega))
  clear hFw1
  have hll6 : r.live.length ≤ 65535 := by have := HL.out.1.1; omega
  have hdl : 0 < r.live.length ∧ decide ((0 : Int) < (r.live.length : Int)) = true ∨ ¬ 0 < r.live.length ∧ decide ((0 : Int) < (r.live.length : Int)) = false := by
    by_cases hl0 : 0 < r.live.length
    · exact .inl ⟨hl0, by simpa using hl0⟩
    · exact .inr ⟨hl0, by simpa using hl0⟩
  go_enter Tryz.func36, Tryz.ntmps36
  go_upto_region 1 with fail
  rw [HW.out]
  rcases hdl with ⟨hl0, hd0⟩ | ⟨hl0, hd0⟩
  all_goals
    go_wp2_with (go_at_call 39; refine HN.out.mono ?_)
    rintro _ W4 ⟨err, rfl, F4, hw⟩
    have k0 := F4.heap H1.out.1 (by decide)
    have k2 := F4.heap H1.out.2.2.1 (by decide)
    have H4 := hid (And.intro (FrB.trans (FrB.none H1.out.2.2.2) F4) k2)
    clear x0 x1 x2 xz xl c0 c1 c2 c3 c4 c5 c6 cz cl F4
    obtain ⟨d0, d1, d2, d3, d4, d5, d6, dz, dl⟩ := cells7 k0
    obtain ⟨g0, g1, g2, g3, g4, g5, g6, gz, gl⟩ := cells7 k2
    clear k0 k2
    rcases hw with ⟨rfl, hS4⟩ | ⟨rfl, ha, hD4⟩
    · have HS4 := hid hS4
      clear hS4
      go_wp2_with fail
      refine bodyPost_ret (v := .tuple #[refV r (.slice ta r.taken.length tc) (.slice la r.live.length lc) (.slice fa r.fresh.length fc) (.slice ya r.dying.length yc) (.slice da r.dead.length dc), .int .i64 0, .bool true]) (by simp [results, go_sem, *]) rfl ?_
      refine did_end (k := w.heap.size + 1 + 1) (by omega) (by omega) H4.out.2 H4.out.1 ?_ (HS4.out.c.mono (by omega) hN) (H0.out.frB H4.out.1) HR.out (Like.refl y) rfl rfl
      with_reducible (repeat (first | exact Fr.refl _ _ | apply Fr.drew | apply Fr.alloc | refine Fr.setCell ?_ (fun _ => by simp) _))
    · subst ha
      have HD4 := hid hD4
      clear hD4
      go_wp2_with fail
      refine bodyPost_ret (v := .tuple #[refV r (.slice ta r.taken.length tc) (.slice la r.live.length lc) (.slice fa r.fresh.length fc) (.slice ya r.dying.length yc) (.slice da r.dead.length dc), .int .i64 4, .bool true]) (by simp [results, go_sem, *]) rfl ?_
      refine did_down (r0 := r) (k := w.heap.size + 1 + 1) (by omega) H4.out.2 H4.out.1 ?_ (HD4.out.mono (by omega))
      with_reducible (repeat (first | exact Fr.refl _ _ | apply Fr.drew | apply Fr.alloc | refine Fr.setCell ?_ (fun _ => by simp) _))
/-- A commit. -/
def DidC (B : Blk) (r : R13) (Q : World → Prop) (w : World) (e : Ending) (w' : World) : Prop :=
  ∃ v, e = .returned (.tuple #[v, .int .i64 0, .bool true]) ∧ FrB B w w' ∧ RefIs w' r.commit v ∧ Q w'
theorem didc_end {w W4 W' : World} {B : Blk} {r : R13} {Q : World → Prop} {t l f yy d : Value} {k : Nat} {c : Array Value} (hQ : ∀ W W' (k : Nat) (c : Array Value), Q W → W.heap[k]? = some (.cells c 64) → 0 < k → Fr (fun b => b = k) W W' → Q W')
    (hk : w.heap.size ≤ k) (hk0 : 0 < k) (k2 : W4.heap[k]? = some (.cells c 64)) (F4 : FrB B w W4) (F : Fr (fun b => b = k) W4 W') (hq : Q W4) (hr : RefAt W4 r.commit t l f yy d) : DidC B r Q w (.returned (.tuple #[refV r.commit t l f yy d, .int .i64 0, .bool true])) W' :=
  ⟨_, rfl, F4.trans' F (fun b hb e => by omega), ⟨_, _, _, _, _, rfl, ref_64 hr F (fun b hb => by subst hb; exact ⟨_, k2⟩)⟩, hQ _ _ _ _ hq k2 hk0 F⟩
set_option maxHeartbeats 4000000 in
set_option maxRecDepth 100000 in
theorem did_commit {w w0 : World} {B : Blk} {y : Cs} {P : Prot} {a : Bool} {N : Nat} (h : StoreC w B y P a N) {r : R13} {t l f yy d : Value} (hr : RefAt w r t l f yy d) {x : ActV} (hx : ActOk w0 x) (hF0 : Fr (fun _ => False) w0 w) (hB0 : w0.heap.size ≤ B.base) (hR : Rel y r) (hN : N + 9 ≤ 90000) (hp0 : 0 < y.pages) (hp1 : y.pages ≤ 65535) (hroom : y.room = 77) (hg : y.gen ≤ 1000000) (Q : World → Prop) (hQ0 : ∀ W W', Q W → Fr (fun _ => False) W W' → Q W') (hQ : ∀ W W' (k : Nat) (c : Array Value), Q W → W.heap[k]? = some (.cells c 64) → 0 < k → Fr (fun b => b = k) W W' → Q W')
    (hCm : ∀ W, Fr (fun _ => False) w W → Calls Tryz.prog 37 #[B.ptr] W (fun e w' => e = .returned (.tuple #[]) ∧ FrB B W w' ∧ Q w'))
    (hk : (wrap64 (x.kind.tmod 9 + 9)).tmod 9 = 8) :
    Calls Tryz.prog 36 #[B.ptr, refV r t l f yy d, x.val] w (DidC B r Q w) := by
  have HL := hid (And.intro hR.lens hR.len)
  obtain ⟨ta, tc, rfl, -, -, -, -⟩ := own_slice hr.taken
  obtain ⟨la, lc, rfl, -, -, -, -⟩ := own_slice hr.live
  obtain ⟨fa, fc, rfl, -, -, -, -⟩ := own_slice hr.fresh
  obtain ⟨ya, yc, rfl, -, -, -, -⟩ := own_slice hr.dying
  obtain ⟨da, dc, rfl, -, -, -, -⟩ := own_slice hr.dead
  obtain ⟨w1, hw1⟩ : ∃ w1, ((w.alloc (.cells #[.slice ta r.taken.length tc, .int .i64 r.hand, .int .i64 r.gen, .slice la r.live.length lc, .slice fa r.fresh.length fc, .slice ya r.dying.length yc, .slice da r.dead.length dc] 64)).alloc (.cells #[.int .i64 x.kind, .int .i64 x.n, .slice x.la x.ll x.lc] 69)).alloc (.cells z64 64) = w1 := ⟨_, rfl⟩
  obtain ⟨b0, b1, b2, F1⟩ := heap_three hw1
  have HW := hid hw1
  have H1 := hid (And.intro b0 (And.intro b1 (And.intro b2 F1)))
  have H0 := hid hr
  have HS := hid h
  have HX := hid hx
  have HR := hid hR
  unfold z64 at HW
  obtain ⟨c0, c1, c2, c3, c4, c5, c6, cz, cl⟩ := cells7 b0
  obtain ⟨x0, x1, x2, xz, xl⟩ := cells3 b1
  clear hw1 b0 b1 b2 F1 hr h hx hR
  have HF0 := hid hF0
  clear hF0
  have HN := hid (hCm _ H1.out.2.2.2)
  have HQ := hid (And.intro hQ0 hQ)
  clear hCm hQ0 hQ
  have hll6 : r.live.length ≤ 65535 := by have := HL.out.1.1; omega
  have hdl : 0 < r.live.length ∧ decide ((0 : Int) < (r.live.length : Int)) = true ∨ ¬ 0 < r.live.length ∧ decide ((0 : Int) < (r.live.length : Int)) = false := by
    by_cases hl0 : 0 < r.live.length
    · exact .inl ⟨hl0, by simpa using hl0⟩
    · exact .inr ⟨hl0, by simpa using hl0⟩
  go_enter Tryz.func36, Tryz.ntmps36
  go_upto_region 1 with fail
  rw [HW.out]
  rcases hdl with ⟨hl0, hd0⟩ | ⟨hl0, hd0⟩
  all_goals
    go_wp2_with (go_at_call 37; refine HN.out.mono ?_)
    rintro _ W4 ⟨rfl, F4, hq⟩
    have k0 := F4.heap H1.out.1 (by decide)
    have k2 := F4.heap H1.out.2.2.1 (by decide)
    have F04 := FrB.trans (FrB.none H1.out.2.2.2) F4
    have H4 := hid (And.intro F04 (And.intro k2 hq))
    have HC := hid (rcommit_ok (H0.out.frB F04) (by have := HL.out.2; omega) (by have := HL.out.1.2.2.2; omega) (by rw [HR.out.gen]; omega) (by rw [HR.out.gen]; omega) (fun z hz => by
      have := HR.out.inr.2.2 z ((HR.out.dead.1 z).1 hz)
      exact ⟨z.toNat, by omega, by rw [HL.out.2]; omega⟩))
    clear x0 x1 x2 xz xl c0 c1 c2 c3 c4 c5 c6 cz cl F4 hq F04
    obtain ⟨d0, d1, d2, d3, d4, d5, d6, dz, dl⟩ := cells7 k0
    clear k0
    go_wp2_with (go_at_call 105; refine HC.out.mono ?_)
    rintro _ W5 ⟨F5, v, rfl, hv⟩
    obtain ⟨ta2, tc2, la2, lc2, fa2, fc2, ya2, yc2, da2, dc2, rfl, hv2⟩ := hv.slices
    have k5 := F5.heap k2 (fun h => h)
    have H5 := hid (And.intro F5 (And.intro k5 hv2))
    clear d0 d1 d2 d3 d4 d5 d6 dz dl hv hv2 F5 k2
    obtain ⟨g0, g1, g2, g3, g4, g5, g6, gz, gl⟩ := cells7 k5
    clear k5
    go_wp2_with fail
    refine bodyPost_ret (v := .tuple #[refV r.commit (.slice ta2 r.commit.taken.length tc2) (.slice la2 r.commit.live.length lc2) (.slice fa2 r.commit.fresh.length fc2) (.slice ya2 r.commit.dying.length yc2) (.slice da2 r.commit.dead.length dc2), .int .i64 0, .bool true]) (by simp [results, go_sem, *]) rfl ?_
    refine didc_end HQ.out.2 (k := w.heap.size + 1 + 1) (by omega) (by omega) H5.out.2.1 (H4.out.1.trans' H5.out.1 (fun _ _ h => h)) ?_ (HQ.out.1 _ _ H4.out.2.2 H5.out.1) H5.out.2.2
    with_reducible (repeat (first | exact Fr.refl _ _ | apply Fr.drew | apply Fr.alloc | refine Fr.setCell ?_ (fun _ => by simp) _))
end Go.Proofs.YtgdhaaokolfdoaaGreatDoor
