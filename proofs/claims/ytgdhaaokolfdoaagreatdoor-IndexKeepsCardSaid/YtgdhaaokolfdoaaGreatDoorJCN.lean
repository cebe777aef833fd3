/- A pack of texts: IK2, IK3. Conditions: those that each text names. -/
import Derived.Test.YtgdhaaokolfdoaaGreatDoorJCM
import Derived.Test.YtgdhaaokolfdoaaGreatDoorJCL
set_option linter.unusedVariables false
set_option linter.unusedSimpArgs false
set_option linter.unnecessarySimpa false
namespace Go.Proofs.YtgdhaaokolfdoaaGreatDoor
open Go.RowKit Go.Sg Go.Sg.Bits Go.Sg.Clk CP SF
theorem putS_refs {E : Bt} {o : Int} : ∀ (f : Nat) (t : Tr) (g : Nat) (sp : Int), sp + 1 = t.refs.length → (putS f t g sp E o).sp + 1 = (putS f t g sp E o).t.refs.length
  | 0, t, g, sp, h => h
  | n + 1, t, g, sp, h => by
    obtain ⟨⟨D, p, r, es⟩, hz⟩ : ∃ z, t.at_ g (preM E.hash g) 0 0 = z := ⟨_, rfl⟩
    simp only [putS, hz]
    obtain ⟨es', hes⟩ : ∃ es', freshE es E.hash o = es' := ⟨_, rfl⟩
    rw [hes]
    have h1 := refs_put (leafE (putB es' E)) 1 (fun _ _ => rfl) t g (preM E.hash g)
    have h2 := refs_put (nodeE D es') 2 (fun _ _ => rfl) t (g + 1) (2 * preM E.hash g)
    have h3 := refs_put (nodeE D es') 2 (fun _ _ => rfl) t g (preM E.hash g)
    have h4 := refs_put (leafE (putB (es'.eraseIdx (bestI es' es'.length).toNat) E)) 1 (fun _ _ => rfl) t g (preM E.hash g)
    by_cases hr : roomB es' E.hash 3 = true
    · rw [if_pos hr]; show sp + 1 = _; simp only; omega
    · rw [if_neg hr]
      by_cases hD : D < 3
      · rw [if_pos hD]
        by_cases hg : D = g
        · rw [if_pos hg]; exact putS_refs n _ _ _ (by omega)
        · rw [if_neg hg]; exact putS_refs n _ _ _ (by omega)
      · rw [if_neg hD]; show sp + 1 = _; simp only; omega
theorem frX2_frI {B : Blk} {w w' : World} {bx bd s sl most : Nat} {sp : Int} {x : DirD} (h : FrX B (fun b => b = bd ∨ b = bx) w w') (hD : DirAt w bd s x) (hI : IdxAt w bx s bd sl most sp) (hb : B.base ≤ bd ∧ B.base ≤ bx) : FrI B.base w w' := Fr.mono h fun b _ hs => by
  rcases hs with hs | rfl | rfl
  · exact ⟨hs.1, fun c t f hc => List.mem_cons_of_mem _ (List.mem_cons_of_mem _ (hs.2.1 c t f hc))⟩
  · exact ⟨hb.1, fun c t f hc => by rw [hD] at hc; cases hc; simp⟩
  · exact ⟨hb.2, fun c t f hc => by rw [hI] at hc; cases hc; simp⟩
def KqI (w0 : World) (base bx k : Nat) (t : Tr) (V : World) : Prop :=
  ∃ (B : Blk) (bd : Nat) (y : Cs) (x : DirD) (t' : Tr) (N : Nat) (sp : Int), IdxT V B bx bd y noP false N x t' sp ∧ (N + 150 ≤ 153 + 60 * k + 150 * t'.refs.length ∧ sp + 1 = t'.refs.length) ∧ bare t' = t ∧ B.base = base ∧ Fr (fun _ => False) w0 V ∧ (base = w0.heap.size ∧ base ≤ bx ∧ base ≤ bd)
section
variable {w0 V V' : World} {base bx k : Nat} {t : Tr}
theorem KqI.fr (h : KqI w0 base bx k t V) : Fr (fun _ => False) w0 V := by
  obtain ⟨_, _, _, _, _, _, _, _, _, _, _, h, _⟩ := h; exact h
theorem KqI.fr0 (h : KqI w0 base bx k t V) (F : Fr (fun _ => False) V V') : KqI w0 base bx k t V' := by
  obtain ⟨B, bd, y, x, t', N, sp, hT, h2, h3, h4, h5, h6⟩ := h
  exact ⟨B, bd, y, x, t', N, sp, hT.fr0 F, h2, h3, h4, h5.trans F (fun _ _ h => h), h6⟩
theorem KqI.mono (h : KqI w0 base bx k t V) {k' : Nat} (hk : k ≤ k') : KqI w0 base bx k' t V := by
  obtain ⟨B, bd, y, x, t', N, sp, hT, h2, h3, h4, h5, h6⟩ := h
  exact ⟨B, bd, y, x, t', N, sp, hT, ⟨by omega, h2.2⟩, h3, h4, h5, h6⟩
theorem KqI.setc (h : KqI w0 base bx k t V) {g : Nat} {c : Array Value} (F : Fr (fun b => b = g) V V') (hg : V.heap[g]? = some (.cells c 3)) (hb : base ≤ g) (h0 : 0 < base) : KqI w0 base bx k t V' := by
  obtain ⟨B, bd, y, x, t', N, sp, hT, h2, h3, h4, h5, h6⟩ := h
  obtain ⟨tops, L, hM, hP⟩ := hT.ex
  refine ⟨B, bd, y, x, t', N, sp, ⟨⟨tops, L, hM.setNew F hg (by decide) (by omega), hP⟩, hT.high, hT.ok⟩, h2, h3, h4, h5.trans F (fun b hb' e => by omega), h6⟩
theorem KqI.high (h : KqI w0 base bx k t V) : t.high ≤ 3 := by
  obtain ⟨B, bd, y, x, t', N, sp, hT, h2, rfl, h4, h5, h6⟩ := h
  rw [bare_high, hT.high]; exact hT.depth
theorem KqI.ok (h : KqI w0 base bx k t V) : okT t 0 0 := by
  obtain ⟨B, bd, y, x, t', N, sp, hT, h2, rfl, h4, h5, h6⟩ := h
  exact ok_bare _ _ _ hT.ok
theorem refs8 {t : Tr} (h : t.high ≤ 3) : t.refs.length ≤ 8 := by
  have h1 := refs_le t
  have h2 : (2 : Nat) ^ t.high ≤ 2 ^ 3 := Nat.pow_le_pow_right (by decide) h
  omega
theorem kp_put (h : KqI w0 base bx k t V) (E : Bt) (o : Int) (hE : goodE E) (hk : k ≤ 400) {R : PutRes} (hR : putS 8 t t.high ((t.refs.length : Int) - 1) E o = R) : Calls Tryz.prog 64 #[xptr bx, btV E, .int .i64 o] V (fun e w' => e = .returned (.tuple #[.bool R.lost, .int .i64 0]) ∧ KqI w0 base bx (k + 1) R.t w' ∧ FrI base V w') := by
  have h8 := refs8 h.high
  obtain ⟨B, bd, y, x, t', N, sp, hT, ⟨hN, hsp⟩, rfl, hB, hF, hbs⟩ := h
  obtain ⟨tops, L, hM, -⟩ := hT.ex
  have hr1 := refs_pos t'
  rw [refs_bare] at h8 hR
  rw [bare_high, hT.high, show ((t'.refs.length : Int) - 1) = sp by omega] at hR
  have hp := xput_ok hT E o hE (by omega) (by omega)
  rw [hR] at hp
  refine hp.mono ?_
  rintro e w' ⟨lost, err, rfl, F, ⟨rfl, rfl, y', x', t2, N', hT', hN', hb', hx', -⟩ | ⟨_, ha, _⟩⟩
  · have hsr : R.sp + 1 = R.t.refs.length := by
      rw [← hR]; exact putS_refs 8 _ _ _ (by rw [refs_bare]; exact hsp)
    have FI : FrI base V w' := by rw [← hB]; exact frX2_frI F hM.dir hM.idx (by omega)
    refine ⟨rfl, ⟨B, bd, y', x', t2, N', R.sp, hT', ⟨by omega, by rw [hsr, ← hb', refs_bare]⟩, hb', hB, FI.fr0 (by omega) hF, hbs⟩, FI⟩
  · cases ha
theorem kp_drop (h : KqI w0 base bx k t V) {hash : Nat} (hh : hash < 18446744073709551616) (hk : k ≤ 400) : Calls Tryz.prog 70 #[xptr bx, .int .u64 hash] V (fun e w' => e = .returned (.tuple #[.bool (dropS t t.high hash).2, .int .i64 0]) ∧ KqI w0 base bx (k + 1) (dropS t t.high hash).1 w' ∧ FrI base V w') := by
  have h8 := refs8 h.high
  obtain ⟨B, bd, y, x, t', N, sp, hT, ⟨hN, hsp⟩, rfl, hB, hF, hbs⟩ := h
  obtain ⟨tops, L, hM, -⟩ := hT.ex
  rw [refs_bare] at h8
  have hp := xdrop_ok hT hh (by omega)
  rw [bare_high, hT.high]
  refine hp.mono ?_
  rintro e w' ⟨was, err, rfl, F, ⟨rfl, rfl, y', x', t2, hT', ⟨hb', hrl⟩, hx', -⟩ | ⟨_, ha, _⟩⟩
  · have FI : FrI base V w' := by rw [← hB]; exact frX2_frI F hM.dir hM.idx (by omega)
    exact ⟨rfl, ⟨B, bd, y', x', t2, N + 23, sp, hT', ⟨by omega, by omega⟩, hb', hB, FI.fr0 (by omega) hF, hbs⟩, FI⟩
  · cases ha
theorem kp_find (h : KqI w0 base bx k t V) {hash : Nat} (hh : hash < 18446744073709551616) (hk : k ≤ 400) : Calls Tryz.prog 66 #[xptr bx, .int .u64 hash] V (fun e w' => e = .returned (.tuple #[locV (Mx t hash), .bool (Mx t hash).isSome, .int .i64 0]) ∧ KqI w0 base bx (k + 1) t w' ∧ FrI base V w') := by
  have h8 := refs8 h.high
  have hk2 := h.ok
  have hh3 := h.high
  obtain ⟨B, bd, y, x, t', N, sp, hT, ⟨hN, hsp⟩, rfl, hB, hF, hbs⟩ := h
  rw [refs_bare] at h8
  refine (hT.find hh (by omega)).mono ?_
  rintro e w' ⟨c0, c1, c2, ok, err, rfl, F, ⟨rfl, h1, h2, hI⟩ | ⟨_, ha, _⟩⟩
  · rw [bare_high] at hh3
    obtain ⟨p, hbk⟩ := look_ok hh (show (bare t').high ≤ x.depth by rw [bare_high, hT.high]; exact Nat.le_refl _) (by have := hT.depth; omega) hk2
    have he : entT t' x.depth hash = (look (bare t') 0 hash).2 := by
      rw [entT_look hh (Nat.le_of_eq hT.high) (by have := hT.depth; omega), look_bare]
    rw [he] at h1 h2
    rw [atB_fnd hbk.2.1] at h2
    rw [hasB_fnd] at h1
    have FI : FrI base V w' := by rw [← hB]; exact frB_frI F
    exact ⟨by rw [h1, h2]; rfl, ⟨B, bd, y, x, t', N + 3, sp, hI, ⟨by omega, hsp⟩, rfl, hB, FI.fr0 (by omega) hF, hbs⟩, FI⟩
  · cases ha
theorem kp_map_put (h : KqI w0 base bx k t V) {E : Bt} (hE : goodE E) (hl : (putS 8 t t.high ((t.refs.length : Int) - 1) E 0).lost = false) (q : Nat) : Mx (putS 8 t t.high ((t.refs.length : Int) - 1) E 0).t q = if E.hash = q then some E else Mx t q :=
  putS_map hE 8 t t.high _ rfl h.high h.ok (by have := refs_pos t; omega) hl q
theorem kp_map_drop (h : KqI w0 base bx k t V) {hash : Nat} (hh : hash < 18446744073709551616) (q : Nat) : Mx (dropS t t.high hash).1 q = if hash = q then none else Mx t q :=
  dropS_map hh rfl h.high h.ok q
end
def hsh (l : List ActX) (j h : Nat) : Prop := ∃ x, l[j]? = some x ∧ x.e.hash = h
structure Kept (l : List ActX) (i : Nat) (La : List Int) (M : Nat → Option Bt) : Prop where
  len : La.length = l.length
  val : ∀ j, j < i → La[j]? = some (-1) ∨ La[j]? = some (j : Int)
  hit : ∀ j x, j < i → La[j]? = some (j : Int) → l[j]? = some x → M x.e.hash = some x.e
  miss : ∀ h, (∀ j, j < i → La[j]? = some (j : Int) → ¬ hsh l j h) → M h = none
structure Clr (l : List ActX) (h k : Nat) (La Lb : List Int) : Prop where
  len : Lb.length = La.length
  yes : ∀ j, j < k → hsh l j h → Lb[j]? = some (-1)
  no : ∀ j, ¬ (j < k ∧ hsh l j h) → Lb[j]? = La[j]?
theorem Clr.start (l : List ActX) (h : Nat) (La : List Int) : Clr l h 0 La La := ⟨rfl, fun j hj => by omega, fun _ _ => rfl⟩
theorem Clr.step {l : List ActX} {h k : Nat} {La Lb : List Int} (c : Clr l h k La Lb) (hk : k < La.length) {x : ActX} (hx : l[k]? = some x) : Clr l h (k + 1) La (if x.e.hash = h then Lb.set k (-1) else Lb) := by
  by_cases hh : x.e.hash = h
  · rw [if_pos hh]
    have hs : hsh l k h := ⟨x, hx, hh⟩
    refine ⟨by rw [List.length_set, c.len], fun j hj hs' => ?_, fun j hn => ?_⟩
    · by_cases he : j = k
      · subst he; rw [List.getElem?_set_self (by rw [c.len]; exact hk)]
      · rw [List.getElem?_set_ne (by omega)]; exact c.yes j (by omega) hs'
    · by_cases he : j = k
      · subst he; exact absurd ⟨by omega, hs⟩ hn
      · rw [List.getElem?_set_ne (by omega)]; exact c.no j (fun hj => hn ⟨by omega, hj.2⟩)
  · rw [if_neg hh]
    have hs : ¬ hsh l k h := fun ⟨y, hy, hyh⟩ => by rw [hx] at hy; cases hy; exact hh hyh
    refine ⟨c.len, fun j hj hs' => ?_, fun j hn => ?_⟩
    · by_cases he : j = k
      · subst he; exact absurd hs' hs
      · exact c.yes j (by omega) hs'
    · exact c.no j (fun hj => hn ⟨by omega, hj.2⟩)
theorem Kept.start (l : List ActX) (La : List Int) (hl : La.length = l.length) : Kept l 0 La (fun _ => none) := ⟨hl, fun j hj => by omega, fun j x hj => by omega, fun _ _ => rfl⟩
theorem Kept.skip {l : List ActX} {i : Nat} {La : List Int} {M : Nat → Option Bt} (h : Kept l i La M) (hi : i < l.length) : Kept l (i + 1) (La.set i (-1)) M := by
  have hs : (La.set i (-1))[i]? = some (-1 : Int) := List.getElem?_set_self (by rw [h.len]; exact hi)
  have hn : ∀ j, j < i → (La.set i (-1 : Int))[j]? = La[j]? := fun j hj => List.getElem?_set_ne (by omega)
  refine ⟨by rw [List.length_set, h.len], fun j hj => ?_, fun j x hj hv hx => ?_, fun q hq => h.miss q fun j hj hv => hq j (by omega) (by rw [hn j hj]; exact hv)⟩
  · by_cases he : j = i
    · subst he; exact .inl hs
    · rw [hn j (by omega)]; exact h.val j (by omega)
  · by_cases he : j = i
    · subst he; rw [hs] at hv; have := Option.some.inj hv; omega
    · rw [hn j (by omega)] at hv; exact h.hit j x (by omega) hv hx
theorem Kept.drop {l : List ActX} {i : Nat} {La Lb : List Int} {M M' : Nat → Option Bt} (h : Kept l i La M) (hi : i < l.length) {x : ActX} (hx : l[i]? = some x) (c : Clr l x.e.hash i (La.set i (-1)) Lb) (hM : ∀ q, M' q = if x.e.hash = q then none else M q) : Kept l (i + 1) Lb M' := by
  have hs := h.skip hi
  have hii : Lb[i]? = some (-1) := by
    rw [c.no i (fun hj => by omega)]; exact List.getElem?_set_self (by rw [h.len]; exact hi)
  refine ⟨by rw [c.len, hs.len], fun j hj => ?_, fun j y hj hv hy => ?_, fun q hq => ?_⟩
  · by_cases hc : j < i ∧ hsh l j x.e.hash
    · exact .inl (c.yes j hc.1 hc.2)
    · rw [c.no j hc]; exact hs.val j hj
  · have hc : ¬ (j < i ∧ hsh l j x.e.hash) := fun hc => by rw [c.yes j hc.1 hc.2] at hv; have := Option.some.inj hv; omega
    have hji : j ≠ i := fun e => by subst e; rw [hii] at hv; have := Option.some.inj hv; omega
    have hne : ¬ x.e.hash = y.e.hash := fun e => hc ⟨by omega, y, hy, e.symm⟩
    rw [hM, if_neg hne]
    rw [c.no j hc] at hv
    exact hs.hit j y hj hv hy
  · rw [hM]
    by_cases he : x.e.hash = q
    · rw [if_pos he]
    · rw [if_neg he]
      refine hs.miss q fun j hj hv hq' => ?_
      have hc : ¬ (j < i ∧ hsh l j x.e.hash) := fun hc => by
        obtain ⟨y, hy, hyh⟩ := hc.2
        obtain ⟨z, hz, hzh⟩ := hq'
        rw [hy] at hz; cases hz
        omega
      exact hq j hj (by rw [c.no j hc]; exact hv) hq'
theorem Kept.put {l : List ActX} {i : Nat} {La Lb : List Int} {M M' : Nat → Option Bt} (h : Kept l i La M) (hi : i < l.length) {x : ActX} (hx : l[i]? = some x) (c : Clr l x.e.hash i (La.set i (i : Int)) Lb) (hM : ∀ q, M' q = if x.e.hash = q then some x.e else M q) : Kept l (i + 1) Lb M' := by
  have hii : Lb[i]? = some (i : Int) := by
    rw [c.no i (fun hj => by omega)]; exact List.getElem?_set_self (by rw [h.len]; exact hi)
  have hn : ∀ j, j < i → (La.set i (i : Int))[j]? = La[j]? := fun j hj => List.getElem?_set_ne (by omega)
  refine ⟨by rw [c.len, List.length_set, h.len], fun j hj => ?_, fun j y hj hv hy => ?_, fun q hq => ?_⟩
  · by_cases hc : j < i ∧ hsh l j x.e.hash
    · exact .inl (c.yes j hc.1 hc.2)
    · by_cases hji : j = i
      · subst hji; exact .inr hii
      · rw [c.no j hc, hn j (by omega)]; exact h.val j (by omega)
  · by_cases hji : j = i
    · subst hji
      rw [hx] at hy; cases hy
      rw [hM, if_pos rfl]
    · have hc : ¬ (j < i ∧ hsh l j x.e.hash) := fun hc => by rw [c.yes j hc.1 hc.2] at hv; have := Option.some.inj hv; omega
      have hne : ¬ x.e.hash = y.e.hash := fun e => hc ⟨by omega, y, hy, e.symm⟩
      rw [hM, if_neg hne]
      rw [c.no j hc, hn j (by omega)] at hv
      exact h.hit j y (by omega) hv hy
  · rw [hM]
    by_cases he : x.e.hash = q
    · exact absurd ⟨x, hx, he⟩ (hq i (by omega) hii)
    · rw [if_neg he]
      refine h.miss q fun j hj hv hq' => ?_
      have hc : ¬ (j < i ∧ hsh l j x.e.hash) := fun hc => by
        obtain ⟨y, hy, hyh⟩ := hc.2
        obtain ⟨z, hz, hzh⟩ := hq'
        rw [hy] at hz; cases hz
        omega
      exact hq j (by omega) (by rw [c.no j hc, hn j hj]; exact hv) hq'
def WantR (l : List ActX) (La : List Int) (h k : Nat) (v : Int) : Prop :=
  (v = -1 ∧ ∀ j, j < k → La[j]? = some (j : Int) → ¬ hsh l j h) ∨ ∃ j : Nat, v = j ∧ j < k ∧ La[j]? = some (j : Int) ∧ hsh l j h
theorem WantR.start (l : List ActX) (La : List Int) (h : Nat) : WantR l La h 0 (-1) := .inl ⟨rfl, fun j hj => by omega⟩
theorem WantR.pass {l : List ActX} {La : List Int} {h k : Nat} {v : Int} (w : WantR l La h k v) (hk : La[k]? = some (k : Int) → ¬ hsh l k h) : WantR l La h (k + 1) v := by
  rcases w with ⟨rfl, w⟩ | ⟨j, rfl, hj, h1, h2⟩
  · refine .inl ⟨rfl, fun j hj => ?_⟩
    by_cases he : j = k
    · subst he; exact hk
    · exact w j (by omega)
  · exact .inr ⟨j, rfl, by omega, h1, h2⟩
theorem WantR.take {l : List ActX} {La : List Int} {h k : Nat} (h1 : La[k]? = some (k : Int)) (h2 : hsh l k h) : WantR l La h (k + 1) k := .inr ⟨k, rfl, by omega, h1, h2⟩
theorem WantR.told {l : List ActX} {La : List Int} {h : Nat} {v : Int} {M : Nat → Option Bt} (w : WantR l La h l.length v) (hK : Kept l l.length La M) : (v = -1 ∧ M h = none) ∨ ∃ (j : Nat) (y : ActX), v = j ∧ l[j]? = some y ∧ M h = some y.e := by
  rcases w with ⟨rfl, w⟩ | ⟨j, rfl, hj, h1, y, hy, rfl⟩
  · exact .inl ⟨rfl, hK.miss h w⟩
  · exact .inr ⟨j, y, rfl, hy, hK.hit j y hj h1 hy⟩
end Go.Proofs.YtgdhaaokolfdoaaGreatDoor

namespace Go.Proofs.YtgdhaaokolfdoaaGreatDoor
open Go.RowKit Go.Sg Go.Sg.Bits Go.Sg.Clk CP SF
def intC (La : List Int) : Array Value := (La.map (Value.int .i64)).toArray
theorem intC_get {La : List Int} {j : Nat} {v : Int} (h : La[j]? = some v) : (intC La)[j]? = some (.int .i64 v) := by
  simp [intC, h]
theorem intC_set (La : List Int) (j : Nat) (v : Int) : (intC La).setIfInBounds j (.int .i64 v) = intC (La.set j v) := by
  simp [intC, List.map_set]
theorem intC_zero (n : Nat) : madeCells (Value.int IntKind.i64 0).cells (n * 1) = intC (List.replicate n 0) := by
  apply Array.toList_inj.1
  rw [show (Value.int IntKind.i64 0).cells = #[Value.int IntKind.i64 0] from rfl, toList_madeCells_one, Nat.mul_one]
  simp [intC]
theorem heap_last {W : World} {bu : Nat} {La : List Int} (h : W.heap[bu]? = some (.cells (intC La) 3)) {j : Nat} {v : Int} (hv : La[j]? = some v) : W.cell? ⟨bu, j, none⟩ = some (.int .i64 v) ∧ W.frozen? ⟨bu, j, none⟩ = false ∧ bu < W.heap.size :=
  ⟨(cell_of_heap h j).trans (intC_get hv), frozen_of_heap h j, lt_of_heap h⟩
theorem heap_last_set {W : World} {bu : Nat} {La : List Int} (h : W.heap[bu]? = some (.cells (intC La) 3)) (j : Nat) (v : Int) : (W.setCell ⟨bu, j, none⟩ (.int .i64 v)).heap[bu]? = some (.cells (intC (La.set j v)) 3) := by
  rw [heap_setCell_cells _ _ _ _ h, intC_set]
theorem set1_fr (W : World) (b j : Nat) (v : Value) : Fr (fun k => k = b) W (W.setCell ⟨b, j, none⟩ v) := (Fr.refl (fun k => k = b) W).setCell (a := ⟨b, _, none⟩) (fun _ => rfl) _
def KS (w : World) (bx bu : Nat) (l : List ActX) (i : Nat) (V : World) : Prop :=
  ∃ (La : List Int) (t : Tr) (k : Nat), Kept l i La (Mx t) ∧ KqI w w.heap.size bx k t V ∧ k ≤ i ∧ V.heap[bu]? = some (.cells (intC La) 3)
theorem FrI.last {base : Nat} {W W' : World} (F : FrI base W W') {bu : Nat} {La : List Int} (h : W.heap[bu]? = some (.cells (intC La) 3)) : W'.heap[bu]? = some (.cells (intC La) 3) := F.heap h (by decide)

set_option maxHeartbeats 16000000 in
set_option maxRecDepth 100000 in
theorem indexKeeps_in {a : Option Addr} {n c : Nat} {l : List ActX} (hn : l.length = n) (w : World) (hT : Tab w) (hA : ActXR w a l) :
    Calls Tryz.prog 14 #[.slice a n c] w fun e w' => e = .returned (.bool true) ∧ Fr (fun _ => False) w w' := by
  have HM := hid (made17_ok w hT)
  have HT := hid (And.intro hT (show ∀ w', w' = w → 0 < w.heap.size from fun _ _ => by have := hT.lt; omega))
  have HA := hid hA
  have HN := hid hn
  clear hT hA hn
  go_enter Tryz.func14, Tryz.ntmps14
  by_cases h100 : (100 : Int) < (n : Int)
  · go_wp2_with fail
    exact bodyPost_ret (v := .bool true) (by simp [results, go_sem, *]) rfl ⟨rfl, Fr.refl _ _⟩
  have hn100 : n ≤ 100 := by omega
  have HN1 := hid hn100
  go_wp2_with fail
  refine HM.out.mono ?_
  rintro e w1 ⟨B, bx, bd, y, x0, r, rfl, F1, ⟨hb1, hb2, hb3⟩, hI, hx0, -⟩
  have hK0 : KqI w w.heap.size bx 0 (.leaf (0, 0) []) w1 := ⟨B, bd, y, x0, .leaf r [], 3, 0, hI, ⟨by simp [Tr.refs], rfl⟩, rfl, hb1, F1, ⟨rfl, hb2, hb3⟩⟩
  have HK0 := hid hK0
  have hs1 := F1.size
  obtain ⟨j0, hj, jz0, jz1, jz2⟩ := info_parts Tryz.info3
  have hmk : ∀ W, (Instr.makeSlice 52 (.int .i64 n) (.int .i64 n)).run Tryz.prog W = .ok (.slice (some ⟨W.heap.size, 0, none⟩) n n) (W.alloc (.cells (intC (List.replicate n 0)) 3)) := fun W => by
    have := run_make_len (P := Tryz.prog) 52 3 j0 _ Tryz.underlying52 hj jz0 n (by rw [jz2]; omega) (by omega) W
    rw [jz1, intC_zero] at this; exact this
  clear F1 hb1 hb2 hb3 hI hx0 HM hK0 hj jz0 jz1 jz2
  obtain ⟨bu, hbu⟩ : ∃ bu, w1.heap.size = bu := ⟨_, rfl⟩
  go_upto_region 7 with fail
  obtain ⟨w2, hw2⟩ : ∃ w2, w1.alloc (.cells (intC (List.replicate n 0)) 3) = w2 := ⟨_, rfl⟩
  rw [hw2]
  have hF2 : Fr (fun _ => False) w1 w2 := by rw [← hw2]; exact (Fr.refl _ _).alloc _
  have h2 : w2.heap[bu]? = some (.cells (intC (List.replicate n 0)) 3) := by rw [← hw2, ← hbu]; exact heap_alloc_new _ _
  have HS := hid (show KS w bx bu l 0 w2 from ⟨_, _, 0, Kept.start l _ (by rw [List.length_replicate, HN.out]), HK0.out.fr0 hF2, Nat.le_refl _, h2⟩)
  have HBu := hid (show w.heap.size ≤ bu by omega)
  clear hw2 hbu hF2 h2 hmk HK0 hs1
  go_wp2_with fail
  go_loopw [7] (fun v wr => ∃ i : Nat, i ≤ n ∧ v = .int .i64 i ∧ KS w bx bu l i wr) (fun v _ => n - (intOf v).toNat)
  case atStart => exact ⟨0, Nat.zero_le _, rfl, HS.out⟩
  case round =>
    obtain ⟨i, hin, rfl, La, t, k, hKe, hKp, hki, hLa⟩ := hrel
    have HKe := hid hKe
    have HKp := hid hKp
    have HLa := hid hLa
    clear hKe hKp hLa
    by_cases hlt : i < n
    · have hli : (i : Int) < (n : Int) := by omega
      have hiw : wrap64 ((i : Int) + 1) = ((i + 1 : Nat) : Int) := by simp only [wrap64]; omega
      obtain ⟨x, hx⟩ : ∃ x, l[i]? = some x := ⟨_, List.getElem?_eq_getElem (by rw [HN.out]; exact hlt)⟩
      obtain ⟨b, off, hab, hbw, -, -, hok⟩ := HA.out.at_ i x hx
      subst hab
      have HCell := hid (fun (j : Nat) (y : ActX) (hy : l[j]? = some y) (V : World) (F : Fr (fun _ => False) w V) => show V.cell? ⟨b, off + j * 6, none⟩ = some (.int .i64 y.kind) ∧ V.cell? ⟨b, off + j * 6 + 2, none⟩ = some (.int .u64 y.e.hash) ∧ V.cell? ⟨b, off + j * 6 + 3, none⟩ = some (.int .i64 y.e.rg) ∧ V.cell? ⟨b, off + j * 6 + 4, none⟩ = some (.int .i64 y.e.at_) ∧ V.cell? ⟨b, off + j * 6 + 5, none⟩ = some (.int .i64 y.e.sz) by
        obtain ⟨b', off', e, -, ⟨h0, -⟩, ⟨h2, h3, h4, h5⟩, -⟩ := (HA.out.fr F).at_ j y hy
        cases e
        exact ⟨h0, h2, h3, h4, h5⟩)
      have HX := hid (And.intro hx hok)
      obtain ⟨v0, hv0⟩ : ∃ v, La[i]? = some v := ⟨_, List.getElem?_eq_getElem (by rw [HKe.out.len, HN.out]; exact hlt)⟩
      obtain ⟨l0, l1, l2⟩ := heap_last HLa.out hv0
      clear hx hok hv0 hbw
      go_upto_region 11 with fail
      obtain ⟨V1, hV1⟩ : ∃ V1, wr.setCell ⟨bu, i, none⟩ (.int .i64 (-1)) = V1 := ⟨_, rfl⟩
      rw [hV1]
      have hF1 : Fr (fun b => b = bu) wr V1 := by rw [← hV1]; exact set1_fr _ _ _ _
      have hL1 : V1.heap[bu]? = some (.cells (intC (La.set i (-1))) 3) := by rw [← hV1]; exact heap_last_set HLa.out i (-1)
      have hK1 := HKp.out.setc hF1 HLa.out HBu.out (HT.out.2 w rfl)
      have HK1 := hid hK1
      have HL1a := hid hL1
      clear hV1 hF1 hL1 hK1 l0 l1 l2
      obtain ⟨e1, e2, e3, e4, e5⟩ := HCell.out i x HX.out.1 _ HK1.out.fr
      obtain ⟨w0k, hw0k⟩ : ∃ z, (wrap64 (x.kind.tmod 8 + 8)).tmod 8 = z := ⟨_, rfl⟩
      by_cases h4 : w0k = 4
      · have hd4 : (w0k == 4) = true := by simp [h4]
        clear h4
        have HDr := hid (kp_drop HK1.out HX.out.2.wh (by have := HN1.out; omega))
        go_wp2_with fail
        refine HDr.out.mono ?_
        rintro e V2 ⟨rfl, hK2, F2⟩
        obtain ⟨was, hwas⟩ : ∃ b, (dropS t t.high x.e.hash).2 = b := ⟨_, rfl⟩
        rw [hwas]
        have HMp := hid (fun q => kp_map_drop HK1.out HX.out.2.wh q)
        obtain ⟨t1, ht1⟩ : ∃ t1, (dropS t t.high x.e.hash).1 = t1 := ⟨_, rfl⟩
        rw [ht1] at hK2
        have HMq := hid (show ∀ q, Mx t1 q = if x.e.hash = q then none else Mx t q from fun q => by rw [← ht1]; exact HMp.out q)
        obtain ⟨La1, hLa1⟩ : ∃ La1, La.set i (-1) = La1 := ⟨_, rfl⟩
        have HFin := hid (show ∀ Lb, Clr l x.e.hash i La1 Lb → Kept l (i + 1) Lb (Mx t1) from fun Lb hc => by rw [← hLa1] at hc; exact HKe.out.drop (by rw [HN.out]; exact hlt) HX.out.1 hc HMq.out)
        have HL1 := hid (show La1.length = l.length by rw [← hLa1, List.length_set]; exact HKe.out.len)
        have hB : V2.heap[bu]? = some (.cells (intC La1) 3) := by rw [← hLa1]; exact F2.last HL1a.out
        have hK := hK2
        obtain ⟨VK, rfl⟩ : ∃ VK, VK = V2 := ⟨_, rfl⟩
        clear hwas ht1 hK2 F2 hLa1 HDr HMp e1 e2 e3 e4 e5 hw0k hd4

        have HB := hid hB
        have HK := hid hK
        clear hB hK
        go_wp2_with fail
        go_loopw [13] (fun v wq => ∃ (j : Nat) (Lb : List Int), j ≤ i ∧ v = .int .i64 j ∧ Clr l x.e.hash j La1 Lb ∧ wq.heap[bu]? = some (.cells (intC Lb) 3) ∧ Fr (fun b => b = bu) VK wq) (fun v _ => i - (intOf v).toNat)
        case atStart => exact ⟨0, La1, Nat.zero_le _, rfl, Clr.start _ _ _, HB.out, Fr.refl _ _⟩
        case round =>
          obtain ⟨j, Lb, hji, rfl, hC, hLb, hFq⟩ := hrel
          have HCl := hid hC
          have HLb := hid hLb
          have hKq := HK.out.setc hFq HB.out HBu.out (HT.out.2 w rfl)
          have HFq := hid hFq
          have HKq := hid hKq
          clear hC hLb hFq hKq
          by_cases hlt2 : j < i
          · have hdj : decide ((j : Int) < (i : Int)) = true := by simp; omega
            have hjn : (j : Int) < (n : Int) := by omega
            have hjw : wrap64 ((j : Int) + 1) = ((j + 1 : Nat) : Int) := by simp only [wrap64]; omega
            obtain ⟨y, hy⟩ : ∃ y, l[j]? = some y := ⟨_, List.getElem?_eq_getElem (by rw [HN.out]; omega)⟩
            have hLl : Lb.length = l.length := HCl.out.len.trans HL1.out
            obtain ⟨v, hv⟩ : ∃ v, Lb[j]? = some v := ⟨_, List.getElem?_eq_getElem (by rw [hLl, HN.out]; omega)⟩
            have hst := HCl.out.step (show j < La1.length by rw [HL1.out, HN.out]; omega) hy
            obtain ⟨-, e2, -, -, -⟩ := HCell.out j y hy _ HKq.out.fr
            obtain ⟨-, f2, -, -, -⟩ := HCell.out i x HX.out.1 _ HKq.out.fr
            obtain ⟨l0, l1, l2⟩ := heap_last HLb.out hv
            obtain ⟨hy1, hhy⟩ : ∃ h, y.e.hash = h := ⟨_, rfl⟩
            obtain ⟨hx1, hhx⟩ : ∃ h, x.e.hash = h := ⟨_, rfl⟩
            rw [hhy] at e2 hst
            rw [hhx] at f2 hst
            have HHx := hid hhx
            clear hy hLl hv hhy hhx
            by_cases he : hy1 = hx1
            · subst he
              rw [if_pos rfl] at hst
              have HSt := hid hst
              clear hst
              go_wp2_with fail
              go_quiet (fail)
              go_wp2_with fail
              go_roundw
              case rel =>
                refine ⟨j + 1, Lb.set j (-1), hlt2, by go_num, by rw [HHx.out]; exact HSt.out, heap_last_set HLb.out j (-1), ?_⟩
                exact HFq.out.trans (((Fr.refl (fun b => b = bu) wr).drewN _).trans (set1_fr _ bu j _) (fun _ _ h => h)) (fun _ _ h => h)
              case measure => simp [intOf]; omega
            · rw [if_neg he] at hst
              have HSt := hid hst
              have hne1 : ((hy1 : Int) == (hx1 : Int)) = false := by simp; omega
              clear hst
              go_wp2_with fail
              go_quiet (fail)
              go_wp2_with fail
              go_roundw
              case rel => exact ⟨j + 1, Lb, hlt2, by go_num, by rw [HHx.out]; exact HSt.out, HLb.out, HFq.out.drewN _⟩
              case measure => simp [intOf]; omega
          · obtain rfl : j = i := by omega
            have hdj : decide ((j : Int) < (j : Int)) = false := by simp
            go_wp2_with fail
            go_roundw
            case rel => exact ⟨j + 1, hlt, by go_num, Lb, t1, k + 1, HFin.out Lb HCl.out, HKq.out, by omega, HLb.out⟩
            case measure => simp [intOf]; omega

      · have hd4 : (w0k == 4) = false := by simp [h4]
        clear h4
        obtain ⟨rb, hrb⟩ : ∃ rb, rightE x.e = rb := ⟨_, rfl⟩
        have hrt := right17 x.e V1
        rw [hrb] at hrt
        have HRt := hid hrt
        have HRb := hid hrb
        clear hrt hrb
        go_wp2_with fail
        refine HRt.out.mono ?_
        rintro e V2 ⟨rfl, F2⟩
        have HK2 := hid (HK1.out.fr0 F2)
        have HL2 := hid (F2.heap HL1a.out (fun h => h))
        clear F2 e1 e2 e3 e4 e5 HRt hw0k hd4
        cases rb with
        | false =>
          go_wp2_with fail
          go_roundw
          case rel => exact ⟨i + 1, hlt, by go_num, _, t, k, HKe.out.skip (by rw [HN.out]; exact hlt), HK2.out, by omega, HL2.out⟩
          case measure => simp [intOf]; omega
        | true =>
          obtain ⟨e1, e2, e3, e4, e5⟩ := HCell.out i x HX.out.1 _ HK2.out.fr
          go_wp2_with fail
          refine (entry17_ok x.e _).mono ?_
          rintro e V3 ⟨rfl, F3⟩
          have HK3 := hid (HK2.out.fr0 F3)
          have HL3 := hid (F3.heap HL2.out (fun h => h))
          clear F3 e1 e2 e3 e4 e5
          have hgo := good_right HX.out.2.wh HRb.out
          obtain ⟨R, hR⟩ : ∃ R, putS 8 t t.high ((t.refs.length : Int) - 1) x.e 0 = R := ⟨_, rfl⟩
          have HPu := hid (kp_put HK3.out x.e 0 hgo (by have := HN1.out; omega) hR)
          have HMp := hid (fun hl q => kp_map_put HK3.out hgo hl q)
          rw [hR] at HMp
          have HGo := hid hgo
          clear hgo hR
          obtain ⟨ls, hls⟩ : ∃ b, R.lost = b := ⟨_, rfl⟩
          rw [hls] at HPu
          have HLs := hid hls
          clear hls
          go_wp2_with fail
          refine HPu.out.mono ?_
          rintro e V4 ⟨rfl, hK4, F4⟩
          have HK4 := hid hK4
          have HL4 := hid (F4.last HL3.out)
          clear hK4 F4 HPu
          cases ls with
          | true =>
            have HAw := hid (awake17_ok V4 (HT.out.1.fr HK4.out.fr (fun h => h)))
            go_wp2_with fail
            refine HAw.out.mono ?_
            rintro e V5 ⟨rfl, F5⟩
            go_wp2_with fail
            exact bodyPost_ret (v := .bool true) (by simp [results, go_sem, *]) rfl ⟨rfl, HK4.out.fr.trans F5 (fun _ _ h => h)⟩
          | false =>
            obtain ⟨v0, hv0⟩ : ∃ v, (La.set i (-1))[i]? = some v := ⟨_, List.getElem?_eq_getElem (by rw [List.length_set, HKe.out.len, HN.out]; exact hlt)⟩
            obtain ⟨l0, l1, l2⟩ := heap_last HL4.out hv0
            clear hv0
            go_upto_region 23 with fail
            obtain ⟨VK, hVK⟩ : ∃ VK, V4.setCell ⟨bu, i, none⟩ (.int .i64 i) = VK := ⟨_, rfl⟩
            rw [hVK]
            obtain ⟨t1, ht1⟩ : ∃ t1, R.t = t1 := ⟨_, rfl⟩
            have hF5 : Fr (fun b => b = bu) V4 VK := by rw [← hVK]; exact set1_fr _ _ _ _
            have hK : KqI w w.heap.size bx (k + 1) t1 VK := by rw [← ht1]; exact HK4.out.setc hF5 HL4.out HBu.out (HT.out.2 w rfl)
            obtain ⟨La1, hLa1⟩ : ∃ La1, La.set i (i : Int) = La1 := ⟨_, rfl⟩
            have hB : VK.heap[bu]? = some (.cells (intC La1) 3) := by rw [← hVK, ← hLa1, heap_last_set HL4.out i i, List.set_set]
            have HFin := hid (show ∀ Lb, Clr l x.e.hash i La1 Lb → Kept l (i + 1) Lb (Mx t1) from fun Lb hc => by rw [← hLa1] at hc; exact HKe.out.put (by rw [HN.out]; exact hlt) HX.out.1 hc (fun q => by rw [← ht1]; exact HMp.out HLs.out q))
            have HL1 := hid (show La1.length = l.length by rw [← hLa1, List.length_set]; exact HKe.out.len)
            clear hVK ht1 hF5 hLa1 l0 l1 l2

            have HB := hid hB
            have HK := hid hK
            clear hB hK
            go_wp2_with fail
            go_loopw [13] (fun v wq => ∃ (j : Nat) (Lb : List Int), j ≤ i ∧ v = .int .i64 j ∧ Clr l x.e.hash j La1 Lb ∧ wq.heap[bu]? = some (.cells (intC Lb) 3) ∧ Fr (fun b => b = bu) VK wq) (fun v _ => i - (intOf v).toNat)
            case atStart => exact ⟨0, La1, Nat.zero_le _, rfl, Clr.start _ _ _, HB.out, Fr.refl _ _⟩
            case round =>
              obtain ⟨j, Lb, hji, rfl, hC, hLb, hFq⟩ := hrel
              have HCl := hid hC
              have HLb := hid hLb
              have hKq := HK.out.setc hFq HB.out HBu.out (HT.out.2 w rfl)
              have HFq := hid hFq
              have HKq := hid hKq
              clear hC hLb hFq hKq
              by_cases hlt2 : j < i
              · have hdj : decide ((j : Int) < (i : Int)) = true := by simp; omega
                have hjn : (j : Int) < (n : Int) := by omega
                have hjw : wrap64 ((j : Int) + 1) = ((j + 1 : Nat) : Int) := by simp only [wrap64]; omega
                obtain ⟨y, hy⟩ : ∃ y, l[j]? = some y := ⟨_, List.getElem?_eq_getElem (by rw [HN.out]; omega)⟩
                have hLl : Lb.length = l.length := HCl.out.len.trans HL1.out
                obtain ⟨v, hv⟩ : ∃ v, Lb[j]? = some v := ⟨_, List.getElem?_eq_getElem (by rw [hLl, HN.out]; omega)⟩
                have hst := HCl.out.step (show j < La1.length by rw [HL1.out, HN.out]; omega) hy
                obtain ⟨-, e2, -, -, -⟩ := HCell.out j y hy _ HKq.out.fr
                obtain ⟨-, f2, -, -, -⟩ := HCell.out i x HX.out.1 _ HKq.out.fr
                obtain ⟨l0, l1, l2⟩ := heap_last HLb.out hv
                obtain ⟨hy1, hhy⟩ : ∃ h, y.e.hash = h := ⟨_, rfl⟩
                obtain ⟨hx1, hhx⟩ : ∃ h, x.e.hash = h := ⟨_, rfl⟩
                rw [hhy] at e2 hst
                rw [hhx] at f2 hst
                have HHx := hid hhx
                clear hy hLl hv hhy hhx
                by_cases he : hy1 = hx1
                · subst he
                  rw [if_pos rfl] at hst
                  have HSt := hid hst
                  clear hst
                  go_wp2_with fail
                  go_quiet (fail)
                  go_wp2_with fail
                  go_roundw
                  case rel =>
                    refine ⟨j + 1, Lb.set j (-1), hlt2, by go_num, by rw [HHx.out]; exact HSt.out, heap_last_set HLb.out j (-1), ?_⟩
                    exact HFq.out.trans (((Fr.refl (fun b => b = bu) wr).drewN _).trans (set1_fr _ bu j _) (fun _ _ h => h)) (fun _ _ h => h)
                  case measure => simp [intOf]; omega
                · rw [if_neg he] at hst
                  have HSt := hid hst
                  have hne1 : ((hy1 : Int) == (hx1 : Int)) = false := by simp; omega
                  clear hst
                  go_wp2_with fail
                  go_quiet (fail)
                  go_wp2_with fail
                  go_roundw
                  case rel => exact ⟨j + 1, Lb, hlt2, by go_num, by rw [HHx.out]; exact HSt.out, HLb.out, HFq.out.drewN _⟩
                  case measure => simp [intOf]; omega
              · obtain rfl : j = i := by omega
                have hdj : decide ((j : Int) < (j : Int)) = false := by simp
                go_wp2_with fail
                go_roundw
                case rel => exact ⟨j + 1, hlt, by go_num, Lb, t1, k + 1, HFin.out Lb HCl.out, HKq.out, by omega, HLb.out⟩
                case measure => simp [intOf]; omega

    · obtain rfl : i = n := by omega
      have hli : ¬ (i : Int) < (i : Int) := by omega
      have HLl := hid (show La.length = i by rw [HKe.out.len, HN.out])
      have HKF := hid (show Kept l l.length La (Mx t) by rw [HN.out]; exact HKe.out)
      clear HKe HS
      go_wp2_with fail
      go_loopw [14] (fun v wf => ∃ q : Nat, q ≤ i ∧ v = .int .i64 q ∧ KqI w w.heap.size bx (k + q) t wf ∧ wf.heap[bu]? = some (.cells (intC La) 3)) (fun v _ => i - (intOf v).toNat)
      case atStart => exact ⟨0, Nat.zero_le _, rfl, HKp.out, HLa.out⟩
      case round =>
        obtain ⟨wf, rfl⟩ : ∃ wf : World, wf = wr := ⟨_, rfl⟩
        obtain ⟨q, hqn, rfl, hKq, hLq⟩ := hrel
        have HKq := hid hKq
        have HLq := hid hLq
        clear hKq hLq
        by_cases hlt : q < i
        · have hqi : (q : Int) < (i : Int) := by omega
          have hqw : wrap64 ((q : Int) + 1) = ((q + 1 : Nat) : Int) := by simp only [wrap64]; omega
          obtain ⟨x, hx⟩ : ∃ x, l[q]? = some x := ⟨_, List.getElem?_eq_getElem (by rw [HN.out]; exact hlt)⟩
          obtain ⟨b, off, hab, hbw, -, -, hok⟩ := HA.out.at_ q x hx
          subst hab
          have HCell := hid (fun (j : Nat) (y : ActX) (hy : l[j]? = some y) (V : World) (F : Fr (fun _ => False) w V) => show V.cell? ⟨b, off + j * 6, none⟩ = some (.int .i64 y.kind) ∧ V.cell? ⟨b, off + j * 6 + 2, none⟩ = some (.int .u64 y.e.hash) ∧ V.cell? ⟨b, off + j * 6 + 3, none⟩ = some (.int .i64 y.e.rg) ∧ V.cell? ⟨b, off + j * 6 + 4, none⟩ = some (.int .i64 y.e.at_) ∧ V.cell? ⟨b, off + j * 6 + 5, none⟩ = some (.int .i64 y.e.sz) by
            obtain ⟨b', off', e, -, ⟨h0, -⟩, ⟨h2, h3, h4, h5⟩, -⟩ := (HA.out.fr F).at_ j y hy
            cases e
            exact ⟨h0, h2, h3, h4, h5⟩)
          have HX := hid (And.intro hx hok)
          clear hx hok hbw
          go_wp2_with fail
          go_loopw [15, 16] (fun wv jv wz => ∃ (j : Nat) (v : Int), j ≤ i ∧ wv = .int .i64 v ∧ jv = .int .i64 j ∧ WantR l La x.e.hash j v ∧ Fr (fun _ => False) wf wz) (fun _ jv _ => i - (intOf jv).toNat)
          case atStart => exact ⟨0, -1, Nat.zero_le _, rfl, rfl, WantR.start _ _ _, Fr.refl _ _⟩
          case round =>
            obtain ⟨wz, rfl⟩ : ∃ wz : World, wz = wr := ⟨_, rfl⟩
            obtain ⟨j, v, hji, rfl, rfl, hWt, hFz⟩ := hrel
            have HWt := hid hWt
            have HFz := hid hFz
            have HKz := hid (HKq.out.fr0 hFz)
            have HLz := hid (hFz.heap HLq.out (fun h => h))
            clear hWt hFz
            by_cases hlt2 : j < i
            · have hji2 : (j : Int) < (i : Int) := by omega
              have hjw : wrap64 ((j : Int) + 1) = ((j + 1 : Nat) : Int) := by simp only [wrap64]; omega
              obtain ⟨y, hy⟩ : ∃ y, l[j]? = some y := ⟨_, List.getElem?_eq_getElem (by rw [HN.out]; omega)⟩
              obtain ⟨-, e2, -, -, -⟩ := HCell.out j y hy _ HKz.out.fr
              obtain ⟨-, f2, -, -, -⟩ := HCell.out q x HX.out.1 _ HKz.out.fr
              obtain ⟨hy1, hhy⟩ : ∃ h, y.e.hash = h := ⟨_, rfl⟩
              obtain ⟨hx1, hhx⟩ : ∃ h, x.e.hash = h := ⟨_, rfl⟩
              have HYx := hid (show hy1 = hx1 → hsh l j x.e.hash from fun e => ⟨y, hy, by rw [hhy, hhx, e]⟩)
              have HYn := hid (show ¬ hy1 = hx1 → ¬ hsh l j x.e.hash from fun e ⟨z, hz, hzh⟩ => by rw [hy] at hz; cases hz; exact e (by rw [← hhy, ← hhx, hzh]))
              rw [hhy] at e2
              rw [hhx] at f2
              clear hy hhy hhx
              rcases HKF.out.val j (by rw [HN.out]; exact hlt2) with hv | hv
              · obtain ⟨l0, l1, l2⟩ := heap_last HLz.out hv
                have HV := hid hv
                clear hv
                go_wp2_with fail
                go_quiet (fail)
                go_wp2_with fail
                go_roundw
                case rel => exact ⟨j + 1, v, hlt2, rfl, by go_num, HWt.out.pass (fun h => by rw [HV.out] at h; have := Option.some.inj h; omega), HFz.out.drewN _⟩
                case measure => simp [intOf]; omega
              · obtain ⟨l0, l1, l2⟩ := heap_last HLz.out hv
                have HV := hid hv
                have hj0 : decide ((0 : Int) ≤ (j : Int)) = true := by simp
                clear hv
                by_cases he : hy1 = hx1
                · have HSx := hid (HYx.out he)
                  clear HYx HYn
                  subst he
                  go_wp2_with fail
                  go_quiet (fail)
                  go_wp2_with fail
                  go_roundw
                  case rel => exact ⟨j + 1, j, hlt2, rfl, by go_num, WantR.take HV.out HSx.out, HFz.out.drewN _⟩
                  case measure => simp [intOf]; omega
                · have hne1 : ((hy1 : Int) == (hx1 : Int)) = false := by simp; omega
                  have HNe := hid he
                  go_wp2_with fail
                  go_quiet (fail)
                  go_wp2_with fail
                  go_roundw
                  case rel => exact ⟨j + 1, v, hlt2, rfl, by go_num, HWt.out.pass (fun _ => HYn.out HNe.out), HFz.out.drewN _⟩
                  case measure => simp [intOf]; omega
            · obtain rfl : j = i := by omega
              have hji2 : ¬ (j : Int) < (j : Int) := by omega
              have htl := WantR.told (by rw [HN.out]; exact HWt.out) HKF.out
              have HFi := hid (kp_find HKz.out HX.out.2.wh (by have := HN1.out; have := hki; omega))
              obtain ⟨-, f2, -, -, -⟩ := HCell.out q x HX.out.1 _ HKz.out.fr
              rcases htl with ⟨rfl, hMn⟩ | ⟨j', y, rfl, hy, hMs⟩
              · rw [hMn] at HFi
                clear hMn
                go_wp2_with fail
                refine HFi.out.mono ?_
                rintro e V5 ⟨rfl, hK5, F5⟩
                have HK5 := hid hK5
                have HL5 := hid (F5.last HLz.out)
                rw [show locV none = .agg #[.int .i64 0, .int .i64 0, .int .i64 0] from rfl, show (none : Option Bt).isSome = false from rfl]
                clear hK5 F5 HFi f2
                go_wp2_with fail
                go_quiet (fail)
                go_wp2_with fail
                go_roundw
                case rel => exact ⟨q + 1, hlt, by go_num, (HK5.out.fr0 (((Fr.refl _ _).alloc _).drewN _)).mono (by omega), ((Fr.refl (fun _ => False) V5).alloc _ |>.drewN _).heap HL5.out (fun h => h)⟩
                case measure => simp [intOf]; omega
              · rw [hMs] at HFi
                have HY := hid hy
                have hj'n : j' < j := by have := (List.getElem?_eq_some_iff.1 hy).1; rw [HN.out] at this; exact this
                have hj'i : (j' : Int) < (j : Int) := by omega
                have hj'0 : decide ((0 : Int) ≤ (j' : Int)) = true := by simp
                clear hMs hy
                go_wp2_with fail
                refine HFi.out.mono ?_
                rintro e V5 ⟨rfl, hK5, F5⟩
                have HK5 := hid hK5
                have HL5 := hid (F5.last HLz.out)
                rw [show locV (some y.e) = .agg #[.int .i64 y.e.rg, .int .i64 y.e.at_, .int .i64 y.e.sz] from rfl, show (some y.e : Option Bt).isSome = true from rfl]
                clear hK5 F5 HFi f2
                obtain ⟨b9, hb9⟩ : ∃ b9, V5.heap.size = b9 := ⟨_, rfl⟩
                go_upto_region 38 with fail
                obtain ⟨V6, hV6⟩ : ∃ V6, V5.alloc (.cells #[.int .i64 y.e.rg, .int .i64 y.e.at_, .int .i64 y.e.sz] 116) = V6 := ⟨_, rfl⟩
                rw [hV6]
                have F6 : Fr (fun _ => False) V5 V6 := by rw [← hV6]; exact (Fr.refl _ _).alloc _
                have b6 : V6.heap[b9]? = some (.cells #[.int .i64 y.e.rg, .int .i64 y.e.at_, .int .i64 y.e.sz] 116) := by rw [← hV6, ← hb9]; exact heap_alloc_new _ _
                have HK6 := hid (HK5.out.fr0 F6)
                have HL6 := hid (F6.heap HL5.out (fun h => h))
                have HC := hid (fun (V : World) (F : Fr (fun _ => False) V6 V) => And.intro (cells3 (F.heap b6 (fun h => h))) (HCell.out j' y HY.out V (HK6.out.fr.trans F (fun _ _ h => h))))
                have hne : ∀ W, (binOp .neq 116 (.agg #[.int .i64 y.e.rg, .int .i64 y.e.at_, .int .i64 y.e.sz]) (.agg #[.int .i64 y.e.rg, .int .i64 y.e.at_, .int .i64 y.e.sz])).run Tryz.prog W = .ok (.bool false) W := fun W => by rw [neq116]; simp
                have hfd : ∀ W, (Instr.field 118 (.agg #[.int .u64 y.e.hash, .int .i64 y.e.rg, .int .i64 y.e.at_, .int .i64 y.e.sz]) 1).run Tryz.prog W = .ok (.agg #[.int .i64 y.e.rg, .int .i64 y.e.at_, .int .i64 y.e.sz]) W := fun W => by kernel_rfl
                have FG0 : Fr (fun _ => False) V6 V6.drew := (Fr.refl _ _).drew
                clear hV6 hb9 F6 b6
                refine wp_region_noPanic ?_
                refine region_plan (fun V => Fr (fun _ => False) V6 V) (.rd 0 (.rd 1 (.rd 2 (.rd 3 (.rd 4 (.rd 5 (.rd 6 (.rd 7 (.rd 8 (.rd 9 (.rd 10 (.rd 11 (.rd 12 (.rd 13 (.rd 14 (.rd 15 (.rd 16 (.op 17 (.rd 18 (.rd 19 (.rd 20 (.rd 21 .done)))))))))))))))))))))) (by kernel_rfl) (by kernel_rfl) (by kernel_rfl) (fun _ _ _ _ _ h => h) FG0 ?_
                iterate 17
                  try simp only [Act.put, List.setIfInBounds_toArray, List.set_cons_zero, List.set_cons_succ]
                  refine plan_rd _ ?_ (by simp only [List.getElem?_toArray, List.getElem?_cons_zero, List.getElem?_cons_succ]; rfl) (by rfl) ?_ ?_
                  rotate_left
                  · intro V hV
                    obtain ⟨⟨g0, g1, g2, gz, gl⟩, ⟨e1, e2, e3, e4, e5⟩⟩ := HC.out V hV
                    go_simp
                    try with_reducible rfl
                try simp only [Act.put, List.setIfInBounds_toArray, List.set_cons_zero, List.set_cons_succ]
                refine plan_op _ (by simp only [List.getElem?_toArray, List.getElem?_cons_zero, List.getElem?_cons_succ]; rfl) (by rfl) (fun K hK => ?_)
                go_simp
                refine (entry17_ok y.e _).mono ?_
                rintro _ V8 ⟨rfl, G1⟩
                have FG := FG0.trans G1 (fun _ _ h => h)
                try go_simp
                refine hK _ _ FG ?_
                clear hK K
                iterate 4
                  try simp only [Act.put, List.setIfInBounds_toArray, List.set_cons_zero, List.set_cons_succ]
                  refine plan_rd _ ?_ (by simp only [List.getElem?_toArray, List.getElem?_cons_zero, List.getElem?_cons_succ]; rfl) (by rfl) ?_ ?_
                  rotate_left
                  · intro V hV
                    obtain ⟨⟨g0, g1, g2, gz, gl⟩, ⟨e1, e2, e3, e4, e5⟩⟩ := HC.out V hV
                    go_simp
                    try with_reducible rfl
                try simp only [Act.put, List.setIfInBounds_toArray, List.set_cons_zero, List.set_cons_succ]
                refine plan_done ?_
                refine NoPanic.normal ?_

                have HFG := hid FG
                clear FG FG0 G1 hne hfd
                go_wp2_with fail
                go_roundw
                case rel => exact ⟨q + 1, hlt, by go_num, (HK6.out.fr0 HFG.out).mono (by omega), HFG.out.heap HL6.out (fun h => h)⟩
                case measure => simp [intOf]; omega
        · obtain rfl : q = i := by omega
          have hqi : ¬ (q : Int) < (q : Int) := by omega
          have HAw := hid (awake17_ok wf (HT.out.1.fr HKq.out.fr (fun h => h)))
          go_wp2_with fail
          refine HAw.out.mono ?_
          rintro e V5 ⟨rfl, F5⟩
          go_wp2_with fail
          exact bodyPost_ret (v := .bool true) (by simp [results, go_sem, *]) rfl ⟨rfl, HKq.out.fr.trans F5 (fun _ _ h => h)⟩
end Go.Proofs.YtgdhaaokolfdoaaGreatDoor
