/- The frame of a law's proof: what a law's row asks behind its walk; slices of structs opened. -/
import Derived.Test.YtgdhaaokolfdoaaGreatDoorLib
import Derived.Carry
import Derived.ProofKit
import Derived.OpenShut
import Derived.Deep.Slices
import Derived.Deep.Fields
import Derived.ChangeSame
namespace Go.Sg
open Go.RowKit Go.ChangeShapes
theorem nomarks_ret1 {n : Nat} {P : Program} {fn : Func} {R : Ending → World → Prop} {tmps : Array Value} {t : Nat} {W : World} (h : fn.results = #[.tmp t])
    (hR : R (.returned (tmps.getD t undef)) W) : bodyPostM Fence.wide n P fn R .ret { tmps := tmps, defers := [] } W :=
  ⟨_, results_tmp h _ _ _, hR⟩
theorem trodAll_below {H : Type} {enc : TypeId × Value → H} {P : Program} (hl : laidOutB P = true) {W W' : World} (hb : Below W.heap.size W W') :
    ∀ {ts : List TypeId} {vs : List Value} {ds : List (DataW H)} {ps : List MemPlace}, (∀ t ∈ ts, P.readableRec t = true ∧ t < P.types.size) → (∀ x ∈ ps, x.block < W.heap.size) →
      DataW.TrodAll enc P W 0 (fun _ => true) true ts vs ds ps → DataW.TrodAll enc P W' 0 (fun b => decide (b < W.heap.size)) true ts vs ds ps
  | [], vs, ds, ps, _, _, h => by obtain ⟨rfl, rfl, rfl⟩ := trodAll_nil h; exact h
  | t :: ts, vs, ds, ps, ht, hp, h => by
    obtain ⟨v, vs', d, ds', p, q, rfl, rfl, rfl, h0, r0⟩ := trodAll_cons h
    exact ⟨p, q, Below.trod hl (ht t (by simp)).1 (ht t (by simp)).2 h0 hb (fun x hx => hp x (by simp [hx])),
      trodAll_below hl hb (fun u hu => ht u (by simp [hu])) (fun x hx => hp x (by simp [hx])) r0, rfl⟩
/-- The post of a law: true; the arguments read as they did. -/
theorem law_post {H : Type} {enc : TypeId × Value → H} {P : Program} {f : Func} {s : ChangeSpec} {apart : Bool} {W W' : World} {args : Array Value} {ds gs : List (DataW H)} {before : List MemPlace} {tb : TypeId}
    (hl : laidOutB P = true) (hts' : (f.params.toList.all fun t => P.readableRec t && decide (t < P.types.size)) = true) (hv : s.vars = []) (hr : f.resultTypes = #[tb]) (hu : P.underlying tb = some .bool)
    (hW : DataW.Whole enc P f.params.toList s.vars apart W args.toList ds gs before) (hb : Below W.heap.size W W') (hfn : s.fn H ds = { results := [.lit (.bool true)], args := ds }) :
    s.post enc P f apart true false false W args (.bool true) W' := by
  have hts : ∀ t ∈ f.params.toList, P.readableRec t = true ∧ t < P.types.size := fun t ht => by
    have := List.all_eq_true.1 hts' t ht
    simpa using this
  have hW0 := hW
  have hlt := hW.lt
  obtain ⟨p, q, hA, hV, rfl, _, _⟩ := hW
  rw [hv] at hV
  cases gs with
  | cons _ _ => simp [DataW.TrodVars] at hV
  | nil =>
    have hq : q = [] := hV
    subst hq
    have hfn : s.fn H (ds ++ []) = { results := [.lit (.bool true)], args := ds } := by rw [List.append_nil]; exact hfn
    refine ⟨ds, [], _, [], p, [], hW0, ?_, ?_, ?_, hb.frame _, fun h => by cases h⟩
    · rw [hfn, hr]
      exact trodAll_mk1 (shut_bool hu true)
    · rw [hfn]
      exact trodAll_below hl hb hts (fun x hx => hlt x (by simp [hx])) hA
    · rw [hfn, hv]; rfl
end Go.Sg
namespace Go.Sg
open Go.RowKit Go.ChangeShapes Go.WideShapes Go.Deep
theorem add_plain (b o k : Nat) : (⟨b, o, none⟩ : Addr).add k = ⟨b, o + k, none⟩ := by
  unfold Addr.add; split <;> simp_all
theorem spot_none {w : World} {a : Addr} {v : Value} (h : w.cell? a = some v) : a = ⟨a.block, a.off, none⟩ := by
  cases a with
  | mk b o s =>
    cases s with
    | none => rfl
    | some s => unfold World.cell? at h; split at h <;> simp at h
/-- What is read of a slice whose elements are three int. -/
structure Row3 (w : World) (a : Option Addr) (l : List (Int × Int × Int)) : Prop where
  at_ : ∀ (i : Nat) (x : Int × Int × Int), l[i]? = some x → ∃ b off, a = some ⟨b, off, none⟩ ∧ b < w.heap.size ∧ w.cell? ⟨b, off + i * 3, none⟩ = some (.int .i64 x.1) ∧
    w.cell? ⟨b, off + i * 3 + 1, none⟩ = some (.int .i64 x.2.1) ∧ w.cell? ⟨b, off + i * 3 + 2, none⟩ = some (.int .i64 x.2.2) ∧
    (Lit.int .i64 x.1).wf = true ∧ (Lit.int .i64 x.2.1).wf = true ∧ (Lit.int .i64 x.2.2).wf = true
theorem Row3.below {w w' : World} {a : Option Addr} {l : List (Int × Int × Int)} (h : Row3 w a l) (hb : Below w.heap.size w w') : Row3 w' a l :=
  ⟨fun i x hx => by
    obtain ⟨b, off, h1, h2, h3, h4, h5, r⟩ := h.at_ i x hx
    exact ⟨b, off, h1, Nat.lt_of_lt_of_le h2 hb.size, (hb.cell (p := ⟨b, _, none⟩) h2).trans h3, (hb.cell (p := ⟨b, _, none⟩) h2).trans h4, (hb.cell (p := ⟨b, _, none⟩) h2).trans h5, r⟩⟩
section
variable {H : Type} {enc : TypeId × Value → H} {P : Program} {w : World}
theorem open_row3 {t e ti : TypeId} {f0 f1 f2 : Field} {a : Option Addr} {len cap : Nat} {d : DataW H} {p : List MemPlace} (ht : P.underlying t = some (.slice e)) (he : P.underlying e = some (.struct #[f0, f1, f2]))
    (h0 : f0.offset = 0 ∧ f0.type = ti) (h1 : f1.offset = 1 ∧ f1.type = ti) (h2 : f2.offset = 2 ∧ f2.type = ti) (hi : P.underlying ti = some (.int .i64)) (hC : P.cellsOf e = 3) (h : DataW.Trod enc P w 0 (fun _ => true) true t (.slice a len cap) d p) :
    ∃ l : List (Int × Int × Int), l.length = len ∧ len ≤ maxLen ∧ Row3 w a l := by
  obtain ⟨fuel, hf⟩ := h
  rcases open_slice ht hf with ⟨hcs, _⟩ | ⟨a', len', cap', m, n, D, Pl, hcs, _, hl, hm, hmm, _, hx⟩
  · simp [Value.cells] at hcs
    obtain ⟨rfl, rfl, rfl⟩ := hcs
    exact ⟨[], rfl, Nat.zero_le _, ⟨fun i x hx => by simp at hx⟩⟩
  · simp [Value.cells] at hcs
    obtain ⟨rfl, rfl, rfl⟩ := hcs
    simp at hmm
    subst hmm
    have key : ∀ i, i < len → ∃ x : Int × Int × Int, w.cell? (a'.add (i * 3)) = some (.int .i64 x.1) ∧ w.cell? ((a'.add (i * 3)).add 1) = some (.int .i64 x.2.1) ∧ w.cell? ((a'.add (i * 3)).add 2) = some (.int .i64 x.2.2) ∧
        (Lit.int .i64 x.1).wf = true ∧ (Lit.int .i64 x.2.1).wf = true ∧ (Lit.int .i64 x.2.2).wf = true := by
      intro i hil
      obtain ⟨cs', hc, ht'⟩ := hx i (by omega)
      rw [hC] at hc
      obtain ⟨_, hcl, hat⟩ := World.cells?_some hc
      obtain ⟨ys, n', _, _, _, hyl, hg⟩ := DataW.trod_struct he ht'
      have one : ∀ (j : Nat) (f : Field), (#[f0, f1, f2] : Array Field)[j]? = some f → f.offset = j → f.type = ti → j < 3 → ∃ z, cs'[j]? = some (.int .i64 z) ∧ (Lit.int .i64 z).wf = true := by
        intro j f hj ho hty hj3
        have h3 := hg j f hj
        have hys : ys[j]? = some (ys[j]'(by rw [hyl]; exact hj3)) := List.getElem?_eq_getElem _
        rw [hys, hty] at h3
        obtain ⟨z, hz, _, hw⟩ := DataW.trod_int hi h3
        refine ⟨z, ?_, hw⟩
        have h4 : ((cs'.drop f.offset).take (P.cellsOf ti))[0]? = some (.int .i64 z) := by rw [hz]; rfl
        rw [List.getElem?_take] at h4
        split at h4
        · simpa [ho] using h4
        · cases h4
      obtain ⟨z0, e0, w0⟩ := one 0 f0 rfl h0.1 h0.2 (by omega)
      obtain ⟨z1, e1, w1⟩ := one 1 f1 rfl h1.1 h1.2 (by omega)
      obtain ⟨z2, e2, w2⟩ := one 2 f2 rfl h2.1 h2.2 (by omega)
      have q0 := (hat 0 (by omega)).trans e0
      have q1 := (hat 1 (by omega)).trans e1
      have q2 := (hat 2 (by omega)).trans e2
      exact ⟨(z0, z1, z2), by simpa [Addr.add] using q0, q1, q2, w0, w1, w2⟩
    obtain ⟨V, hV⟩ := choose_lt (α := Int × Int × Int) key
    refine ⟨(List.range len).map V, by simp, by omega, ⟨fun i x hx => ?_⟩⟩
    have hil : i < len := by
      have := (List.getElem?_eq_some_iff.1 hx).1
      simpa using this
    simp [hil] at hx
    subst hx
    obtain ⟨k0, k1, k2, kw⟩ := hV i hil
    have hs0 := (hV 0 (by omega)).1
    simp [Addr.add] at hs0
    have hs := spot_none hs0
    obtain ⟨b, off, hab⟩ : ∃ b off, a' = ⟨b, off, none⟩ := ⟨_, _, hs⟩
    subst hab
    rw [add_plain] at k0 k1 k2
    rw [add_plain] at k1 k2
    exact ⟨b, off, rfl, World.block_lt_of_cell? _ _ k0, k0, k1, k2, kw⟩
end
end Go.Sg
