/- A pack of texts: AP, RA, RP, R7, R3, RG. Conditions: those that each text names. -/
import Derived.Test.YtgdhaaokolfdoaaGreatDoorWAB
import Derived.Test.YtgdhaaokolfdoaaGreatDoorWAD
import Derived.Laws.AppendOwnNone
import Derived.Test.YtgdhaaokolfdoaaGreatDoorWAQ
import Derived.Test.YtgdhaaokolfdoaaGreatDoorWAP
import Derived.Deep.RegionLaw
set_option linter.unusedVariables false
set_option linter.unusedSimpArgs false
set_option linter.unnecessarySimpa false
/- Laws on append: a slice of bytes that may be nil is put behind one's own; rows of references. Conditions: the slices lie in the world. -/
namespace Go.Proofs.YtgdhaaokolfdoaaGreatDoor
open Go.RowKit Go.Sg
theorem own_litB (W : World) (B : Nat) (hB : B ≤ W.heap.size) (e : TypeId) (size : Nat) (v : Value) (h : v = .slice (some ⟨W.heap.size, 0, none⟩) 0 0) : (W.alloc (.cells #[] e)).ownsRow B e size v 0 [] := by
  subst h
  exact World.ownsRow_lit W #[] 0 hB (Nat.zero_le _) (by simp)
theorem slb_news {w : World} {ad : Addr} {n c : Nat} {bs : List Int} (h : SlB w (some ad) n c bs) : ∀ (j : Nat) (u : Value), (bs.map (Value.int .u8))[j]? = some u → w.cell? (ad.add j) = some u := fun j u hu => by
  rw [List.getElem?_map] at hu
  cases hx : bs[j]? with
  | none => rw [hx] at hu; cases hu
  | some x =>
    rw [hx] at hu
    cases hu
    obtain ⟨b', off', e, hb, hc⟩ := h.by_.at_ j x hx
    cases e
    rw [addr_add]
    exact hc
/-- Bytes of one's own that are not nil are bytes that are kept. -/
theorem byv_of_own {w : World} {base n : Nat} {v : Value} {bs : List Int} (h : w.ownsRow base 5 1 v n (bs.map (Value.int .u8))) : ∃ a c, v = .slice a n c ∧ ByV w a n c bs := by
  by_cases hv : v = .slice none 0 0
  · obtain ⟨hl, ⟨_, rfl⟩ | ⟨g, cap, cur, e, _⟩⟩ := h
    · have : bs = [] := by simpa using hl
      subst this
      exact ⟨none, 0, hv, ByV.nil w⟩
    · rw [hv] at e; cases e
  · obtain ⟨g, cap, c, e, hg, hb⟩ := byts_of_own h hv
    exact ⟨_, _, e, hb, .inr ⟨g, 0, c, rfl, hg⟩⟩
end Go.Proofs.YtgdhaaokolfdoaaGreatDoor

/- Laws on appends of rows of cells, whole or in part, nil or not; slices of rows. Conditions: the rows lie in the world as ownsRow says. -/
namespace Go.Proofs.YtgdhaaokolfdoaaGreatDoor
open Go.RowKit Go.Sg
/-- A slice that may be read as news. -/
def SrcV (w : World) (v : Value) (m : Nat) (news : List Value) : Prop :=
  ∃ a c, v = .slice a m c ∧ ((a = none ∧ m = 0 ∧ c = 0 ∧ news = []) ∨ ∃ ad, a = some ad ∧ ∀ j u, news[j]? = some u → w.cell? (ad.add j) = some u)
theorem wpList_append_src {P : Program} {w : World} {ops : Array Oper} {rest : List Oper} {o : Oper} {a : Act} {Q : Exit → Act → World → Prop} (hgd : o.guard = none) (s x : Operand) (t : TypeId)
    (ho : o.op = .call { callee := .builtin .append, args := #[s, x], argTypes := #[t, t] }) (base : Nat) (e : TypeId) (i : TypeInfo) (z : Value) (size bytes : Nat) (ht : P.underlying t = some (.slice e)) (hi : P.info? e = some i) (hz : i.zero = some z)
    (hsize : i.size = size) (hby : i.bytes = bytes) (hzs : z.cells.size = size) (hsz : 0 < size) (v : Value) (n : Nat) (xs : List Value) (hs : a.eval s = v) (hown : w.ownsRow base e size v n xs)
    (vx : Value) (m : Nat) (news : List Value) (hx : a.eval x = vx) (hsrc : SrcV w vx m news) (hl : news.length = m * size) (h1 : ∀ u ∈ news, u.oneCell' = true) (h63 : n + m ≤ maxLen) (hbytes : (n + m) * bytes ≤ 140737488355328) (hbase : base ≤ w.heap.size)
    (h : ∀ v' w', w'.ownsRow base e size v' (n + m) (xs ++ news) → w.grownBy w' v.ownBlock → (v ≠ .slice none 0 0 → v' ≠ .slice none 0 0) → wpList P ops Q rest (a.put o.dst v') w') : wpList P ops Q (o :: rest) a w := by
  obtain ⟨a', c, rfl, ⟨rfl, rfl, rfl, rfl⟩ | ⟨ad, rfl, hc⟩⟩ := hsrc
  · exact wpList_append_own_none hgd s x t ho base e i size ht hi v n xs hs hown hx (h v w (by simpa using hown) ⟨rfl, rfl, rfl, Nat.le_refl _, fun _ _ _ => rfl⟩ id)
  · exact wpList_append_own_at _ hgd s x t ho base e i z size bytes ht hi hz hsize hby hzs hsz v n xs hs hown ad m c news hx hl hc h1 h63 hbytes hbase fun v' w' h1 h2 h3 _ => h v' w' h1 h2 fun hv e => hv (h3.1 e).1
theorem addr_add0 (g off k : Nat) : (⟨g, off, none⟩ : Addr).add k = ⟨g, off + k, none⟩ := addr_add g off k
theorem own_slice {w : World} {b e size n : Nat} {v : Value} {xs : List Value} (h : w.ownsRow b e size v n xs) : ∃ a c, v = .slice a n c ∧ n ≤ c ∧ c ≤ maxLen ∧ (a = none → n = 0 ∧ c = 0) ∧ (∀ ad, a = some ad → ∃ g, ad = ⟨g, 0, none⟩ ∧ g < w.heap.size) := by
  obtain ⟨hl, ⟨rfl, rfl⟩ | ⟨g, cap, cur, rfl, hb, hg, hc, hm, r⟩⟩ := h
  · exact ⟨none, 0, rfl, Nat.le_refl _, Nat.zero_le _, fun _ => ⟨rfl, rfl⟩, fun _ e => by cases e⟩
  · exact ⟨_, cap, rfl, hc, hm, fun e => (by cases e), fun ad e => by cases e; exact ⟨g, rfl, lt_of_heap hg⟩⟩
theorem own_cell {w : World} {b e size n c : Nat} {a : Option Addr} {xs : List Value} (h : w.ownsRow b e size (.slice a n c) n xs) {j : Nat} {u : Value} (hj : xs[j]? = some u) : ∃ g, a = some ⟨g, 0, none⟩ ∧ g < w.heap.size ∧ w.cell? ⟨g, j, none⟩ = some u := by
  have hi := (List.getElem?_eq_some_iff.1 hj).1
  obtain ⟨hl, ⟨h0, h1⟩ | ⟨g, cap, cur, hv, hb, hg, hc, hm, hs, ht⟩⟩ := h
  · subst h1; simp at hl; subst hl; simp at hi
  · cases hv
    refine ⟨g, rfl, lt_of_heap hg, ?_⟩
    rw [cell_of_heap hg]
    rw [← ht, List.getElem?_take] at hj
    split at hj
    · simpa using hj
    · cases hj
theorem own_src {w : World} {b e size n : Nat} {v : Value} {xs : List Value} (h : w.ownsRow b e size v n xs) : SrcV w v n xs := by
  obtain ⟨a, c, rfl, hnc, _, h0, h1⟩ := own_slice h
  refine ⟨a, c, rfl, ?_⟩
  cases a with
  | none =>
    obtain ⟨rfl, rfl⟩ := h0 rfl
    exact .inl ⟨rfl, rfl, rfl, by have := h.1; simpa using this⟩
  | some ad =>
    obtain ⟨g, rfl, _⟩ := h1 ad rfl
    refine .inr ⟨_, rfl, fun j u hj => ?_⟩
    obtain ⟨g', e', _, hc⟩ := own_cell h hj
    cases e'
    rw [addr_add0, Nat.zero_add]; exact hc
theorem own_src_to {w : World} {b e size n c : Nat} {a : Option Addr} {xs : List Value} (h : w.ownsRow b e size (.slice a n c) n xs) (k : Nat) (hk : k ≤ n) : SrcV w (.slice a k c) k (xs.take (k * size)) := by
  obtain ⟨a', c', e1, hnc, _, h0, h1⟩ := own_slice h
  cases e1
  refine ⟨a, c, rfl, ?_⟩
  cases a with
  | none =>
    obtain ⟨rfl, rfl⟩ := h0 rfl
    obtain rfl : k = 0 := by omega
    exact .inl ⟨rfl, rfl, rfl, by simp⟩
  | some ad =>
    obtain ⟨g, rfl, _⟩ := h1 ad rfl
    refine .inr ⟨_, rfl, fun j u hj => ?_⟩
    rw [List.getElem?_take] at hj
    split at hj
    · obtain ⟨g', e', _, hc⟩ := own_cell h hj
      cases e'
      rw [addr_add0, Nat.zero_add]; exact hc
    · cases hj
theorem own_src_from {w : World} {b e size n c : Nat} {a : Option Addr} {xs : List Value} (h : w.ownsRow b e size (.slice a n c) n xs) (k : Nat) (hk : k ≤ n) : SrcV w (.slice (if c = k then a else a.map (·.add (k * size))) (n - k) (c - k)) (n - k) (xs.drop (k * size)) := by
  obtain ⟨a', c', e1, hnc, _, h0, h1⟩ := own_slice h
  cases e1
  refine ⟨_, _, rfl, ?_⟩
  cases a with
  | none =>
    obtain ⟨rfl, rfl⟩ := h0 rfl
    have hx : xs = [] := by have := h.1; simpa using this
    exact .inl ⟨by simp, by omega, by omega, by simp [hx]⟩
  | some ad =>
    obtain ⟨g, rfl, _⟩ := h1 ad rfl
    by_cases hck : c = k
    · rw [if_pos hck]
      have hn : n = k := by omega
      have hd : xs.drop (k * size) = [] := List.drop_eq_nil_of_le (by rw [h.1, hn]; exact Nat.le_refl _)
      exact .inr ⟨_, rfl, fun j u hj => by rw [hd] at hj; simp at hj⟩
    · rw [if_neg hck]
      refine .inr ⟨_, rfl, fun j u hj => ?_⟩
      rw [List.getElem?_drop] at hj
      obtain ⟨g', e', _, hc⟩ := own_cell h hj
      cases e'
      show w.cell? (((⟨g, 0, none⟩ : Addr).add (k * size)).add j) = some u
      rw [addr_add0, Nat.zero_add, addr_add0]; exact hc
theorem slice_toG (t size : Nat) (hu : Tryz.prog.underlying t = some (.slice (Tryz.prog.elem t))) (hs : ∀ W, (sizeOf (Tryz.prog.elem t)).run Tryz.prog W = .ok size W) (a : Option Addr) (n c m : Nat) (h : m ≤ c) (W : World) : (Instr.slice t (.slice a n c) none (some (.int .i64 m)) none).run Tryz.prog W = .ok (.slice a m c) W := by
  rw [run_slice_h W t a n c hu .i64 m (by omega) (by omega)]
  rw [hs]
  simp only [Result.andThen_ok, sliced, Int.toNat_natCast, Nat.zero_mul, Nat.sub_zero]
  cases a with
  | none => simp
  | some a => simp [Addr.add]
theorem slice_fromG (t size : Nat) (hu : Tryz.prog.underlying t = some (.slice (Tryz.prog.elem t))) (hs : ∀ W, (sizeOf (Tryz.prog.elem t)).run Tryz.prog W = .ok size W) (a : Option Addr) (n c m : Nat) (h : m ≤ n) (W : World) : (Instr.slice t (.slice a n c) (some (.int .i64 m)) none none).run Tryz.prog W = .ok (.slice (if c = m then a else a.map (·.add (m * size))) (n - m) (c - m)) W := by
  rw [run_slice_l W t a n c hu .i64 m (by omega) (by omega)]
  rw [hs]
  simp only [Result.andThen_ok, sliced, Int.toNat_natCast]
theorem grown_fr {w w' : World} {o : Obj} {base e size n : Nat} {v : Value} {xs : List Value} (hown : w.ownsRow base e size v n xs) (hg : (w.alloc o).grownBy w' v.ownBlock) : Fr (fun b => base ≤ b) w w' :=
  ⟨hg.os, hg.tape, hg.output, Nat.le_trans (by simp) hg.size, fun b hb hn => (hg.block b (Nat.lt_of_lt_of_le hb (by simp)) (fun e => hn (hown.lt b e.symm).1)).trans (heap_alloc_lt w o b hb)⟩
theorem grown_fr' {w w' : World} {base e size n : Nat} {v : Value} {xs : List Value} (hown : w.ownsRow base e size v n xs) (hg : w.grownBy w' v.ownBlock) : Fr (fun b => base ≤ b) w w' :=
  ⟨hg.os, hg.tape, hg.output, hg.size, fun b hb hn => hg.block b hb (fun e => hn (hown.lt b e.symm).1)⟩
theorem to52 (a : Option Addr) (n c m : Nat) (h : m ≤ c) (W : World) : (Instr.slice 52 (.slice a n c) none (some (.int .i64 m)) none).run Tryz.prog W = .ok (.slice a m c) W := slice_toG 52 1 (by kernel_rfl) (fun W => by kernel_rfl) a n c m h W
theorem from52 (a : Option Addr) (n c m : Nat) (h : m ≤ n) (W : World) : (Instr.slice 52 (.slice a n c) (some (.int .i64 m)) none none).run Tryz.prog W = .ok (.slice (if c = m then a else a.map (·.add (m * 1))) (n - m) (c - m)) W := slice_fromG 52 1 (by kernel_rfl) (fun W => by kernel_rfl) a n c m h W
theorem to62 (a : Option Addr) (n c m : Nat) (h : m ≤ c) (W : World) : (Instr.slice 62 (.slice a n c) none (some (.int .i64 m)) none).run Tryz.prog W = .ok (.slice a m c) W := slice_toG 62 3 (by kernel_rfl) (fun W => by kernel_rfl) a n c m h W
theorem from62 (a : Option Addr) (n c m : Nat) (h : m ≤ n) (W : World) : (Instr.slice 62 (.slice a n c) (some (.int .i64 m)) none none).run Tryz.prog W = .ok (.slice (if c = m then a else a.map (·.add (m * 3))) (n - m) (c - m)) W := slice_fromG 62 3 (by kernel_rfl) (fun W => by kernel_rfl) a n c m h W
theorem Tryz.info4 : (Tryz.prog.info? 4).map (fun i => (i.zero, i.size, i.bytes)) = some (some (.bool false), 1, 1) := by kernel_rfl
theorem Tryz.info71 : (Tryz.prog.info? 71).map (fun i => (i.zero, i.size, i.bytes)) = some (some (.agg #[.int .i64 0, .int .i64 0, .string ⟨#[]⟩]), 3, 32) := by kernel_rfl
/-! ### Bits as the document has them -/
/-- A row of yes and no. -/
abbrev BoolR (w : World) (v : Value) (t : List Bool) : Prop := w.ownsRow 0 4 1 v t.length (t.map Value.bool)
abbrev IntR (w : World) (v : Value) (l : List Int) : Prop := w.ownsRow 0 3 1 v l.length (l.map (Value.int .i64))
theorem own_none {w w' : World} {b e size n : Nat} {v : Value} {xs : List Value} (h : w.ownsRow b e size v n xs) (F : Fr (fun _ => False) w w') : w'.ownsRow b e size v n xs := ownsRow_fr h F (fun _ _ _ h => h)
theorem own_frB {w w' : World} {B : Blk} {b e size n : Nat} {v : Value} {xs : List Value} (h : w.ownsRow b e size v n xs) (he : e ∉ mutT) (F : FrB B w w') : w'.ownsRow b e size v n xs :=
  ownsRow_fr h F fun g c hg hs => he (hs.2.1 c e _ hg)
theorem own_base {w : World} {b e size n : Nat} {v : Value} {xs : List Value} (h : w.ownsRow b e size v n xs) : w.ownsRow 0 e size v n xs := by
  obtain ⟨hl, h0 | ⟨g, cap, cur, hv, hb, r⟩⟩ := h
  · exact ⟨hl, .inl h0⟩
  · exact ⟨hl, .inr ⟨g, cap, cur, hv, Nat.zero_le _, r⟩⟩
end Go.Proofs.YtgdhaaokolfdoaaGreatDoor

/- The document's store (chapter 13) as a plain model, and how it goes with a store that lies in a world. Conditions: none. -/
namespace Go.Sg
open Go.RowKit
structure RPg where
  page : Int
  stamp : Int
  load : List Int
structure R13 where
  taken : List Bool
  hand : Int
  gen : Int
  live : List RPg
  fresh : List Int
  dying : List Int
  dead : List Int
def R13.new (n : Nat) : R13 := ⟨List.replicate n false, 0, 1, [], [], [], []⟩
def withL : List Int → Int → List Int
  | [], n => [n]
  | x :: l, n => if x < n then x :: withL l n else n :: x :: l
def withoutL (l : List Int) (n : Int) : List Int := l.filter (fun x => x != n)
/-- The first number that is free from the hand on, going round. -/
def takeR (t : List Bool) (hand : Nat) : Option Nat := ((List.range t.length).map fun k => (hand + k) % t.length).find? fun i => t.getD i true == false
def R13.make (s : R13) (load : List Int) : Option (R13 × RPg) := match takeR s.taken s.hand.toNat with
  | none => none
  | some n => some ({ s with taken := s.taken.set n true, hand := (((n + 1) % s.taken.length : Nat) : Int), live := s.live ++ [⟨n, s.gen, load⟩], fresh := withL s.fresh n }, ⟨n, s.gen, load⟩)
def R13.drop (s : R13) (i : Nat) : R13 :=
  let n := (s.live.getD i ⟨0, 0, []⟩).page
  if n ∈ s.fresh then { s with live := s.live.eraseIdx i, fresh := withoutL s.fresh n, taken := s.taken.set n.toNat false }
  else { s with live := s.live.eraseIdx i, dying := withL s.dying n }
def R13.write (s : R13) (i : Nat) (load : List Int) : Option (R13 × RPg) :=
  let p := s.live.getD i ⟨0, 0, []⟩
  if p.page ∈ s.fresh then some ({ s with live := s.live.set i { p with load := load } }, { p with load := load })
  else match s.make load with
    | none => none
    | some (next, q) => some (next.drop i, q)
def clearAll : List Int → List Bool → List Bool
  | [], t => t
  | k :: l, t => clearAll l (t.set k.toNat false)
def R13.commit (s : R13) : R13 := { s with taken := clearAll s.dead s.taken, dead := s.dying, dying := [], fresh := [], gen := s.gen + 1 }

theorem withL_mem (l : List Int) (n k : Int) : k ∈ withL l n ↔ k = n ∨ k ∈ l := by
  induction l with
  | nil => simp [withL]
  | cons x l ih =>
    unfold withL
    split
    · simp only [List.mem_cons, ih]
      constructor
      · rintro (h | h | h) <;> simp [h]
      · rintro (h | h | h) <;> simp [h]
    · simp
theorem withL_sorted {l : List Int} {n : Int} (h : l.Pairwise (· < ·)) (hn : n ∉ l) : (withL l n).Pairwise (· < ·) := by
  induction l with
  | nil => simp [withL]
  | cons x l ih =>
    simp only [List.pairwise_cons] at h
    simp only [List.mem_cons, not_or] at hn
    unfold withL
    split
    · rename_i hx
      simp only [List.pairwise_cons]
      refine ⟨fun y hy => ?_, ih h.2 hn.2⟩
      rcases (withL_mem l n y).1 hy with rfl | hy
      · exact hx
      · exact h.1 y hy
    · rename_i hx
      have hx' : n < x := by omega
      simp only [List.pairwise_cons, List.mem_cons]
      refine ⟨fun y hy => ?_, h.1, h.2⟩
      rcases hy with rfl | hy
      · exact hx'
      · have := h.1 y hy; omega
theorem clearAll_length (l : List Int) : ∀ t : List Bool, (clearAll l t).length = t.length := by
  induction l with
  | nil => intro t; rfl
  | cons k l ih => intro t; simp [clearAll, ih]
theorem clearAll_get (l : List Int) (hl : ∀ k ∈ l, 0 ≤ k) : ∀ (t : List Bool) (i : Nat), (clearAll l t)[i]? = if (i : Int) ∈ l then (t[i]?).map (fun _ => false) else t[i]? := by
  induction l with
  | nil => intro t i; simp [clearAll]
  | cons k l ih =>
    intro t i
    have h0 := hl k (by simp)
    rw [clearAll, ih (fun k hk => hl k (List.mem_cons_of_mem _ hk))]
    by_cases hk : (i : Int) = k
    · have hi : k.toNat = i := by omega
      subst hk
      simp [List.getElem?_set]
      by_cases hlt : i < t.length
      · simp [hlt]
      · simp [hlt]
    · have hi : k.toNat ≠ i := by omega
      simp [hk, List.getElem?_set, hi]
end Go.Sg
namespace Go.Proofs.YtgdhaaokolfdoaaGreatDoor
open Go.RowKit Go.Sg Go.Sg.Bits Go.Sg.Clk CP SF
theorem RowOf.with {f : Int → Bool} {L : List Int} (h : RowOf f L) {n : Int} (hn : f n = false) : RowOf (updI f n true) (withL L n) := by
  have hn' : n ∉ L := fun e => by rw [h.1 n] at e; rw [hn] at e; cases e
  refine ⟨fun k => ?_, withL_sorted h.2 hn'⟩
  rw [withL_mem, h.1, updI]
  by_cases hk : k = n <;> simp [hk]
theorem RowOf.without {f : Int → Bool} {L : List Int} (h : RowOf f L) (n : Int) : RowOf (updI f n false) (withoutL L n) := by
  refine ⟨fun k => ?_, h.2.filter _⟩
  simp only [withoutL, List.mem_filter, h.1, updI]
  by_cases hk : k = n <;> simp [hk]
theorem RowOf.none : RowOf (fun _ => false) [] := ⟨fun k => by simp, List.Pairwise.nil⟩
/-- The document's store goes with the one that y says. -/
structure Rel (y : Cs) (r : R13) : Prop where
  len : r.taken.length = y.pages
  taken : ∀ k : Nat, k < y.pages → r.taken[k]? = some (y.taken k)
  hand : r.hand = y.hand ∧ y.hand < y.pages
  gen : r.gen = y.gen
  fresh : RowOf y.fresh r.fresh
  dying : RowOf y.dying r.dying
  dead : RowOf y.dead r.dead
  inr : (∀ k, y.fresh k = true → 0 ≤ k ∧ k < y.pages) ∧ (∀ k, y.dying k = true → 0 ≤ k ∧ k < y.pages) ∧ (∀ k, y.dead k = true → 0 ≤ k ∧ k < y.pages)
  live : ∀ p ∈ r.live, ∃ n st : Nat, p.page = n ∧ p.stamp = st ∧ n < y.pages ∧ y.taken n = true ∧ y.dying n = false ∧ y.dead n = false ∧ y.cont n = some (st, p.load) ∧ (y.fresh n = true → st = y.gen)
  nodup : (r.live.map (·.page)).Nodup
  all : ∀ n : Nat, n < y.pages → y.taken n = true → y.dying n = false → y.dead n = false → ∃ p ∈ r.live, p.page = n
  apart : Apart y.taken y.fresh y.dying y.dead
theorem getD_of {t : List Bool} {n : Nat} {b : Bool} (h : t[n]? = some b) (d : Bool) : t.getD n d = b := by simp [List.getD, h]
/-- Taking goes alike. -/
theorem take_rel {t : List Bool} {f : Nat → Bool} {hand n : Nat} (ht : ∀ k, k < t.length → t[k]? = some (f k)) (hh : hand < t.length) (h : TakeIs f t.length hand n) : takeR t hand = some n := by
  obtain ⟨hn, hf, hc⟩ := h
  have hgd : ∀ i, i < t.length → t.getD i true = f i := fun i hi => getD_of (ht i hi) _
  unfold takeR
  rw [List.find?_map, Option.map_eq_some_iff]
  have hmod : ∀ k, k < t.length → (hand + k) % t.length < t.length := fun k _ => Nat.mod_lt _ (by omega)
  refine ⟨if hand ≤ n then n - hand else n + t.length - hand, ?_, ?_⟩
  · rw [List.find?_range_eq_some]
    refine ⟨?_, ?_, fun j hj => ?_⟩
    · simp only [Function.comp]
      have e : (hand + (if hand ≤ n then n - hand else n + t.length - hand)) % t.length = n := by
        split
        · rw [show hand + (n - hand) = n by omega]; exact Nat.mod_eq_of_lt hn
        · rw [show hand + (n + t.length - hand) = n + t.length by omega, Nat.add_mod_right]; exact Nat.mod_eq_of_lt hn
      rw [e, hgd n hn, hf]; rfl
    · simp only [List.mem_range]; split <;> omega
    · simp only [Function.comp]
      have hjt : j < t.length := by split at hj <;> omega
      have hm := hmod j hjt
      rw [hgd _ hm]
      have : f ((hand + j) % t.length) = true := by
        rcases hc with ⟨h1, h2⟩ | ⟨h1, h2⟩
        · rw [if_pos h1] at hj
          rw [Nat.mod_eq_of_lt (show hand + j < t.length by omega)]
          exact h2 _ (by omega) (by omega) (by omega)
        · by_cases hw : hand + j < t.length
          · rw [Nat.mod_eq_of_lt hw]
            exact h1 _ (by omega) hw hw
          · have e : (hand + j) % t.length = hand + j - t.length := by
              rw [Nat.mod_eq_sub_mod (by omega)]; exact Nat.mod_eq_of_lt (by omega)
            rw [e]
            by_cases hnh : hand ≤ n
            · rw [if_pos hnh] at hj; omega
            · rw [if_neg hnh] at hj
              exact h2 _ (by omega) (by omega) (by omega)
      rw [this]; rfl
  · split
    · rw [show hand + (n - hand) = n by omega]; exact Nat.mod_eq_of_lt hn
    · rw [show hand + (n + t.length - hand) = n + t.length by omega, Nat.add_mod_right]; exact Nat.mod_eq_of_lt hn
theorem take_none_rel {t : List Bool} {f : Nat → Bool} {hand : Nat} (ht : ∀ k, k < t.length → t[k]? = some (f k)) (h : allTaken f t.length 0 t.length) : takeR t hand = none := by
  unfold takeR
  rw [List.find?_eq_none]
  intro i hi
  obtain ⟨k, hk, rfl⟩ := List.mem_map.1 hi
  simp only [List.mem_range] at hk
  have hm := Nat.mod_lt (hand + k) (show 0 < t.length by omega)
  rw [getD_of (ht _ hm)]
  have := h _ (Nat.zero_le _) hm hm
  rw [this]; decide
theorem rel_make {y : Cs} {r : R13} (h : Rel y r) {n : Nat} (hn : TakeIs y.taken y.pages y.hand n) (bs : List Int) (hp : 0 < y.pages) :
    ∃ r', r.make bs = some (r', ⟨n, y.gen, bs⟩) ∧ Rel (y.new n bs) r' ∧ r'.live = r.live ++ [⟨n, y.gen, bs⟩] := by
  have ht := take_rel (t := r.taken) (f := y.taken) (hand := y.hand) (n := n) (fun k hk => h.taken k (by rw [← h.len]; exact hk)) (by rw [h.len]; exact h.hand.2) (by rw [h.len]; exact hn)
  have hhd : r.hand.toNat = y.hand := by rw [h.hand.1]; simp
  have hfn : y.fresh n = false := by
    cases e : y.fresh n with
    | false => rfl
    | true => have := h.apart.ft n e; rw [hn.2.1] at this; cases this
  have hyn : y.dying n = false := by
    cases e : y.dying n with
    | false => rfl
    | true => have := h.apart.yt n e; rw [hn.2.1] at this; cases this
  have hen : y.dead n = false := by
    cases e : y.dead n with
    | false => rfl
    | true => have := h.apart.et n e; rw [hn.2.1] at this; cases this
  refine ⟨{ r with taken := r.taken.set n true, hand := (((n + 1) % r.taken.length : Nat) : Int), live := r.live ++ [⟨n, r.gen, bs⟩], fresh := withL r.fresh n }, ?_, ?_, ?_⟩
  · rw [R13.make, hhd, ht]
    simp [h.gen]
  · refine ⟨by simp [h.len, Cs.new], fun k hk => ?_, ⟨by simp [Cs.new, h.len], Nat.mod_lt _ hp⟩, h.gen, h.fresh.with hfn, h.dying, h.dead, ⟨fun k hk => ?_, h.inr.2.1, h.inr.2.2⟩, fun p hp' => ?_, ?_, fun k hk hkt hky hke => ?_, h.apart.new hn.2.1⟩
    · have hk' : k < y.pages := hk
      simp only [Cs.new, upd, List.getElem?_set]
      by_cases hkn : k = n
      · subst hkn; simp [h.len, hk']
      · have : ¬ n = k := fun e => hkn e.symm
        simp [hkn, this, h.taken k hk']
    · simp only [Cs.new, updI] at hk ⊢
      split at hk
      · rename_i e; subst e; have := hn.1; omega
      · exact h.inr.1 k hk
    · rcases List.mem_append.1 hp' with hp' | hp'
      · obtain ⟨m, st, e1, e2, e3, e4, e5, e6, e7, e8⟩ := h.live p hp'
        have hmn : m ≠ n := by rintro rfl; rw [hn.2.1] at e4; cases e4
        refine ⟨m, st, e1, e2, e3, ?_, e5, e6, ?_, fun hf => ?_⟩
        · simp [Cs.new, upd, hmn, e4]
        · simp only [Cs.new, updC]; rw [if_neg (by omega)]; exact e7
        · simp only [Cs.new, updI] at hf; rw [if_neg (by omega)] at hf; exact e8 hf
      · simp at hp'
        subst hp'
        exact ⟨n, y.gen, rfl, h.gen, hn.1, by simp [Cs.new, upd], hyn, hen, by simp [Cs.new, updC], fun _ => rfl⟩
    · simp only [List.map_append, List.map_cons, List.map_nil]
      rw [List.nodup_append]
      refine ⟨h.nodup, by simp, ?_⟩
      rintro a ha b hb rfl
      simp at hb
      obtain ⟨p, hp', e⟩ := List.mem_map.1 ha
      obtain ⟨m, st, e1, e2, e3, e4, _⟩ := h.live p hp'
      have : m = n := by omega
      rw [this, hn.2.1] at e4; cases e4
    · simp only [Cs.new, upd] at hkt
      by_cases hkn : k = n
      · exact ⟨⟨n, r.gen, bs⟩, by simp, by simp [hkn]⟩
      · rw [if_neg hkn] at hkt
        obtain ⟨p, hp', e⟩ := h.all k hk hkt hky hke
        exact ⟨p, List.mem_append_left _ hp', e⟩
  · simp [h.gen]
theorem rel_full {y : Cs} {r : R13} (h : Rel y r) (hall : allTaken y.taken y.pages 0 y.pages) (bs : List Int) : r.make bs = none := by
  have ht := take_none_rel (t := r.taken) (f := y.taken) (hand := y.hand) (fun k hk => h.taken k (by rw [← h.len]; exact hk)) (by rw [h.len]; exact hall)
  have hhd : r.hand.toNat = y.hand := by rw [h.hand.1]; simp
  rw [R13.make, hhd, ht]
/-- The i-th page that counts. -/
theorem rel_live {y : Cs} {r : R13} (h : Rel y r) {i : Nat} (hi : i < r.live.length) :
    ∃ (n st : Nat) (bs : List Int), r.live[i]? = some ⟨n, st, bs⟩ ∧ n < y.pages ∧ y.taken n = true ∧ y.dying n = false ∧ y.dead n = false ∧ y.cont n = some (st, bs) ∧ (y.fresh n = true → st = y.gen) := by
  have e := List.getElem?_eq_getElem hi
  obtain ⟨n, st, e1, e2, e3, e4, e5, e6, e7, e8⟩ := h.live _ (List.mem_of_getElem? e)
  refine ⟨n, st, _, by rw [e, ← e1, ← e2], e3, e4, e5, e6, e7, e8⟩
theorem nodup_erase {l : List RPg} (h : (l.map (·.page)).Nodup) {i : Nat} {p : RPg} (hi : l[i]? = some p) : (∀ q ∈ l.eraseIdx i, q ∈ l ∧ q.page ≠ p.page) ∧ (∀ q ∈ l, q.page ≠ p.page → q ∈ l.eraseIdx i) ∧ ((l.eraseIdx i).map (·.page)).Nodup := by
  induction l generalizing i with
  | nil => simp at hi
  | cons a l ih =>
    simp only [List.map_cons, List.nodup_cons] at h
    cases i with
    | zero =>
      simp at hi; subst hi
      simp only [List.eraseIdx_zero, List.tail_cons]
      refine ⟨fun q hq => ⟨List.mem_cons_of_mem _ hq, fun e => h.1 (e ▸ List.mem_map.2 ⟨q, hq, rfl⟩)⟩, fun q hq hne => ?_, h.2⟩
      rcases List.mem_cons.1 hq with rfl | hq
      · exact absurd rfl hne
      · exact hq
    | succ i =>
      simp at hi
      obtain ⟨k1, k2, k3⟩ := ih h.2 hi
      have hap : a.page ≠ p.page := fun e => h.1 (e ▸ List.mem_map.2 ⟨p, List.mem_of_getElem? hi, rfl⟩)
      simp only [List.eraseIdx_cons_succ]
      refine ⟨fun q hq => ?_, fun q hq hne => ?_, ?_⟩
      · rcases List.mem_cons.1 hq with rfl | hq
        · exact ⟨by simp, hap⟩
        · exact ⟨List.mem_cons_of_mem _ (k1 q hq).1, (k1 q hq).2⟩
      · rcases List.mem_cons.1 hq with rfl | hq
        · simp
        · exact List.mem_cons_of_mem _ (k2 q hq hne)
      · simp only [List.map_cons, List.nodup_cons]
        refine ⟨fun e => ?_, k3⟩
        obtain ⟨q, hq, e'⟩ := List.mem_map.1 e
        exact h.1 (e' ▸ List.mem_map.2 ⟨q, (k1 q hq).1, rfl⟩)
theorem rel_drop {y : Cs} {r : R13} (h : Rel y r) {i n st : Nat} {bs : List Int} (hi : r.live[i]? = some ⟨n, st, bs⟩) (hp : n < y.pages) (ht : y.taken n = true) (hy : y.dying n = false) (he : y.dead n = false) : Rel (y.gone n) (r.drop i) := by
  obtain ⟨k1, k2, k3⟩ := nodup_erase h.nodup hi
  have hg : r.live.getD i ⟨0, 0, []⟩ = ⟨n, st, bs⟩ := by simp [List.getD, hi]
  by_cases hf : y.fresh n = true
  · have hm : ((n : Nat) : Int) ∈ r.fresh := (h.fresh.1 _).2 hf
    have e : r.drop i = { r with live := r.live.eraseIdx i, fresh := withoutL r.fresh n, taken := r.taken.set n false } := by
      simp only [R13.drop, hg]
      rw [if_pos hm]; simp
    rw [e, Cs.gone, if_pos hf]
    have hap := h.apart
    refine ⟨by simp [h.len], fun k hk => ?_, h.hand, h.gen, h.fresh.without n, h.dying, h.dead, ⟨fun k hk => ?_, h.inr.2.1, h.inr.2.2⟩, fun p hp' => ?_, k3, fun k hk hkt hky hke => ?_, ?_⟩
    · have hk' : k < y.pages := hk
      simp only [upd, List.getElem?_set]
      by_cases hkn : k = n
      · subst hkn; simp [h.len, hk']
      · have : ¬ n = k := fun e => hkn e.symm
        simp [hkn, this, h.taken k hk']
    · simp only [updI] at hk
      split at hk
      · cases hk
      · exact h.inr.1 k hk
    · obtain ⟨hp1, hp2⟩ := k1 p hp'
      obtain ⟨m, s0, e1, e2, e3, e4, e5, e6, e7, e8⟩ := h.live p hp1
      have hmn : m ≠ n := by rintro rfl; exact hp2 e1
      refine ⟨m, s0, e1, e2, e3, by simp [upd, hmn, e4], e5, e6, ?_, fun hf' => ?_⟩
      · simp only [updC]; rw [if_neg (by omega)]; exact e7
      · simp only [updI] at hf'; rw [if_neg (by omega)] at hf'; exact e8 hf'
    · simp only [upd] at hkt
      split at hkt
      · cases hkt
      · rename_i hkn
        obtain ⟨p, hp', e⟩ := h.all k hk hkt hky hke
        exact ⟨p, k2 p hp' (by rw [e]; simp; omega), e⟩
    · have hne := hap.fy n hf
      refine ⟨fun k hk => ?_, fun k hk => ?_, fun k hk => ?_, fun k hk => ?_, hap.ye⟩
      · simp only [updI] at hk
        split at hk
        · cases hk
        · rename_i e; simp only [upd]; rw [if_neg (by omega)]; exact hap.ft k hk
      · simp only [upd]
        split
        · rename_i e; subst e; have hk' : y.dying k = true := hk; rw [hne.1] at hk'; cases hk'
        · exact hap.yt k hk
      · simp only [upd]
        split
        · rename_i e; subst e; have hk' : y.dead k = true := hk; rw [hne.2] at hk'; cases hk'
        · exact hap.et k hk
      · simp only [updI] at hk
        split at hk
        · cases hk
        · exact hap.fy k hk
  · have hf' : y.fresh n = false := by simpa using hf
    have hm : ((n : Nat) : Int) ∉ r.fresh := fun e => hf ((h.fresh.1 _).1 e)
    have e : r.drop i = { r with live := r.live.eraseIdx i, dying := withL r.dying n } := by
      simp only [R13.drop, hg]
      rw [if_neg hm]
    rw [e, Cs.gone, if_neg hf]
    refine ⟨h.len, h.taken, h.hand, h.gen, h.fresh, h.dying.with hy, h.dead, ⟨h.inr.1, fun k hk => ?_, h.inr.2.2⟩, fun p hp' => ?_, k3, fun k hk hkt hky hke => ?_, h.apart.dies ht hf' he⟩
    · simp only [updI] at hk
      split at hk
      · rename_i e; subst e; show 0 ≤ (n : Int) ∧ (n : Int) < y.pages; omega
      · exact h.inr.2.1 k hk
    · obtain ⟨hp1, hp2⟩ := k1 p hp'
      obtain ⟨m, s0, e1, e2, e3, e4, e5, e6, e7, e8⟩ := h.live p hp1
      have hmn : m ≠ n := by rintro rfl; exact hp2 e1
      refine ⟨m, s0, e1, e2, e3, e4, ?_, e6, e7, e8⟩
      simp only [updI]; rw [if_neg (by omega)]; exact e5
    · simp only [updI] at hky
      split at hky
      · cases hky
      · rename_i hkn
        obtain ⟨p, hp', e⟩ := h.all k hk hkt hky hke
        exact ⟨p, k2 p hp' (by rw [e]; simp; omega), e⟩
theorem rel_wfresh {y : Cs} {r : R13} (h : Rel y r) {i n st : Nat} {bs : List Int} (hi : r.live[i]? = some ⟨n, st, bs⟩) (hf : y.fresh n = true) (load : List Int) :
    ∃ r', r.write i load = some (r', ⟨n, y.gen, load⟩) ∧ Rel { y with cont := updC y.cont n (some (y.gen, load)) } r' := by
  have hg : r.live.getD i ⟨0, 0, []⟩ = ⟨n, st, bs⟩ := by simp [List.getD, hi]
  have hm : ((n : Nat) : Int) ∈ r.fresh := (h.fresh.1 _).2 hf
  obtain ⟨n', st', e1, e2, e3, e4, e5, e6, e7, e8⟩ := h.live _ (List.mem_of_getElem? hi)
  have hnn : n' = n := by have e1' : (n : Int) = n' := e1; omega
  have hss : st' = st := by have e2' : (st : Int) = st' := e2; omega
  subst hnn hss
  have hst := e8 hf
  have hil := (List.getElem?_eq_some_iff.1 hi).1
  have hmap : (r.live.set i ⟨n', st', load⟩).map (·.page) = r.live.map (·.page) := by
    rw [List.map_set]
    refine List.ext_getElem? fun j => ?_
    rw [List.getElem?_set]
    split
    · rename_i e; subst e
      have h2 := (List.getElem?_eq_some_iff.1 hi).2
      simp [hil, h2]
    · rfl
  refine ⟨{ r with live := r.live.set i ⟨n', st', load⟩ }, ?_, h.len, h.taken, h.hand, h.gen, h.fresh, h.dying, h.dead, h.inr, fun p hp => ?_, by rw [hmap]; exact h.nodup, fun k hk hkt hky hke => ?_, h.apart⟩
  · simp only [R13.write, hg]
    rw [if_pos hm, hst]
  · rcases List.mem_or_eq_of_mem_set hp with hp | rfl
    · by_cases hpn : p.page = n'
      · -- the page itself: it stands at i alone
        obtain ⟨j, hj⟩ := List.mem_iff_getElem?.1 (show p ∈ r.live.set i ⟨n', st', load⟩ by assumption)
        rw [List.getElem?_set] at hj
        split at hj
        · rename_i e
          simp [hil] at hj
          obtain ⟨_, rfl⟩ := hj
          exact ⟨n', st', rfl, rfl, e3, e4, e5, e6, by simp [updC, hst], fun _ => hst⟩
        · rename_i e
          exfalso
          have h1 : (r.live.map (·.page))[j]? = some (n' : Int) := by simp [hj, hpn]
          have h2 : (r.live.map (·.page))[i]? = some (n' : Int) := by simp [hi]
          have := (List.getElem?_inj (by simpa using hil) h.nodup).1 (h2.trans h1.symm)
          exact e this
      · obtain ⟨m, s0, f1, f2, f3, f4, f5, f6, f7, f8⟩ := h.live p hp
        refine ⟨m, s0, f1, f2, f3, f4, f5, f6, ?_, f8⟩
        simp only [updC]; rw [if_neg (by rw [← f1]; exact hpn)]; exact f7
    · exact ⟨n', st', rfl, rfl, e3, e4, e5, e6, by simp [updC, hst], fun _ => hst⟩
  · have hmem : (k : Int) ∈ r.live.map (·.page) := by
      obtain ⟨p, hp, e⟩ := h.all k hk hkt hky hke
      exact List.mem_map.2 ⟨p, hp, e⟩
    rw [← hmap] at hmem
    obtain ⟨p, hp, e⟩ := List.mem_map.1 hmem
    exact ⟨p, hp, e⟩
theorem rel_wnew {y : Cs} {r : R13} (h : Rel y r) {i n st m : Nat} {bs : List Int} (hi : r.live[i]? = some ⟨n, st, bs⟩) (hf : y.fresh n = false) (hm : TakeIs y.taken y.pages y.hand m) (load : List Int) (hp0 : 0 < y.pages) :
    ∃ r', r.write i load = some (r', ⟨m, y.gen, load⟩) ∧ Rel (y.moved n m load) r' := by
  have hg : r.live.getD i ⟨0, 0, []⟩ = ⟨n, st, bs⟩ := by simp [List.getD, hi]
  have hmf : ((n : Nat) : Int) ∉ r.fresh := fun e => by have := (h.fresh.1 _).1 e; rw [hf] at this; cases this
  obtain ⟨n', st', e1, e2, e3, e4, e5, e6, e7, e8⟩ := h.live _ (List.mem_of_getElem? hi)
  have hnn : n' = n := by have e1' : (n : Int) = n' := e1; omega
  subst hnn
  obtain ⟨r1, hr1, hR1, hl1⟩ := rel_make h hm load hp0
  have hil := (List.getElem?_eq_some_iff.1 hi).1
  have hmn : n' ≠ m := by rintro rfl; rw [hm.2.1] at e4; cases e4
  have hfn : (y.new m load).fresh n' = false := by simp only [Cs.new, updI]; rw [if_neg (by omega)]; exact hf
  have hd := rel_drop hR1 (i := i) (n := n') (st := st) (bs := bs) (by rw [hl1, List.getElem?_append_left hil]; exact hi) e3 (by simp [Cs.new, upd, hmn, e4]) e5 e6
  refine ⟨r1.drop i, ?_, ?_⟩
  · simp only [R13.write, hg]
    rw [if_neg hmf, hr1]
  · rw [Cs.gone, if_neg (by rw [hfn]; decide)] at hd
    exact hd
theorem rel_wfull {y : Cs} {r : R13} (h : Rel y r) {i n st : Nat} {bs : List Int} (hi : r.live[i]? = some ⟨n, st, bs⟩) (hf : y.fresh n = false) (hall : allTaken y.taken y.pages 0 y.pages) (load : List Int) : r.write i load = none := by
  have hg : r.live.getD i ⟨0, 0, []⟩ = ⟨n, st, bs⟩ := by simp [List.getD, hi]
  have hmf : ((n : Nat) : Int) ∉ r.fresh := fun e => by have := (h.fresh.1 _).1 e; rw [hf] at this; cases this
  simp only [R13.write, hg]
  rw [if_neg hmf, rel_full h hall]
theorem rel_commit {y : Cs} {r : R13} (h : Rel y r) : Rel y.commit r.commit := by
  have hd0 : ∀ k ∈ r.dead, 0 ≤ k := fun k hk => (h.inr.2.2 k ((h.dead.1 k).1 hk)).1
  refine ⟨by rw [R13.commit, clearAll_length]; exact h.len, fun k hk => ?_, h.hand, by simp [R13.commit, Cs.commit, h.gen], RowOf.none, RowOf.none, h.dying, ⟨fun k hk => (by cases hk), fun k hk => (by cases hk), h.inr.2.1⟩, fun p hp => ?_, h.nodup, fun k hk hkt hky hke => ?_, ?_⟩
  · show (clearAll r.dead r.taken)[k]? = some (y.taken k && !y.dead k)
    rw [clearAll_get _ hd0]
    have := h.dead.1 k
    by_cases e : y.dead k = true
    · rw [if_pos (this.2 e), h.taken k hk, e]; simp
    · have e' : y.dead k = false := by simpa using e
      rw [if_neg (fun hm => e (this.1 hm)), h.taken k hk, e']; simp
  · obtain ⟨m, s0, e1, e2, e3, e4, e5, e6, e7, e8⟩ := h.live p hp
    refine ⟨m, s0, e1, e2, e3, ?_, rfl, e5, ?_, fun hf => by cases hf⟩
    · show (y.taken m && !y.dead m) = true
      rw [e4, e6]; rfl
    · show (if y.dead m then none else y.cont m) = _
      rw [e6]; exact e7
  · have hkt' : (y.taken k && !y.dead k) = true := hkt
    have hke' : y.dying k = false := hke
    simp only [Bool.and_eq_true, Bool.not_eq_true'] at hkt'
    exact h.all k hk hkt'.1 hke' hkt'.2
  · have hap := h.apart
    refine ⟨fun k hk => (by cases hk), fun k hk => (by cases hk), fun k hk => ?_, fun k hk => (by cases hk), fun k hk => by cases hk⟩
    have hk' : y.dying k = true := hk
    show (y.taken k && !y.dead k) = true
    rw [hap.yt k hk', hap.ye k hk']; rfl
theorem rel_gone {y : Cs} {r : R13} (h : Rel y r) {i n st : Nat} {bs : List Int} (hi : r.live[i]? = some ⟨n, st, bs⟩) : Rel (y.gone n) (r.drop i) := by
  obtain ⟨n', st', e1, e2, e3, e4, e5, e6, e7, e8⟩ := h.live _ (List.mem_of_getElem? hi)
  have hnn : n' = n := by have e1' : (n : Int) = n' := e1; omega
  subst hnn
  exact rel_drop h hi e3 e4 e5 e6
end Go.Proofs.YtgdhaaokolfdoaaGreatDoor

/- The document's set of bits (chapter 7): New, with, Has, Clear, Take. Conditions: the row of bits lies in the world. -/
namespace Go.Proofs.YtgdhaaokolfdoaaGreatDoor
open Go.RowKit Go.Sg
theorem own_some {w : World} {b e size n : Nat} {v : Value} {xs : List Value} (h : w.ownsRow b e size v n xs) (hne : v ≠ .slice none 0 0) : ∃ g cap cur, v = .slice (some ⟨g, 0, none⟩) n cap ∧ b ≤ g ∧ w.heap[g]? = some (.cells cur e) := by
  obtain ⟨hl, ⟨h0, _⟩ | ⟨g, cap, cur, hv, hb, hg, r⟩⟩ := h
  · exact absurd h0 hne
  · exact ⟨g, cap, cur, hv, hb, hg⟩
/-- A row lies on while a block of other cells turns. -/
theorem own_cellK {w w' : World} {k : Nat} (F : Fr (fun b => b = k) w w') {b e size n : Nat} {v : Value} {xs : List Value} (h : w.ownsRow b e size v n xs) {c : Array Value} {t : TypeId} {f : Nat × Nat} (hk : w.heap[k]? = some (.cells c t f)) (ht : t ≠ e) : w'.ownsRow b e size v n xs :=
  ownsRow_fr h F fun g cs hg e' => by rw [e', hk] at hg; cases hg; exact ht rfl
theorem own_two {w : World} {b e size n k o o' : Nat} {v : Value} {xs : List Value} (h : w.ownsRow b e size v n xs) {c : Array Value} {t : TypeId} {f : Nat × Nat} (hk : w.heap[k]? = some (.cells c t f)) (ht : t ≠ e) (u u' : Value) : ((w.setCell ⟨k, o, none⟩ u).setCell ⟨k, o', none⟩ u').ownsRow b e size v n xs :=
  own_cellK (((Fr.refl (fun b => b = k) _).setCell (a := ⟨k, o, none⟩) (fun _ => rfl) u).setCell (a := ⟨k, o', none⟩) (fun _ => rfl) u') h hk ht
abbrev setV (v : Value) (hand : Int) : Value := .agg #[v, .int .i64 hand]
set_option maxHeartbeats 1000000 in
theorem rnew_ok (n : Nat) (hn : n ≤ 65536) (w : World) : Calls Tryz.prog 101 #[.int .i64 n] w fun e w' => ∃ v, e = .returned (setV v 0) ∧ BoolR w' v (List.replicate n false) ∧ Fr (fun _ => False) w w' := by
  obtain ⟨i0, hi, hz0, hz1, hz2⟩ := info_parts Tryz.info4
  have hmk := fun W => run_make_len (P := Tryz.prog) 59 4 i0 _ Tryz.underlying59 hi hz0 n (by rw [hz2]; omega) (by omega) W
  rw [hz1] at hmk
  clear hi hz0 hz1 hz2
  go_enter Tryz.func101, Tryz.ntmps101
  go_wp2
  refine bodyPost_ret (v := setV (.slice (some ⟨w.heap.size + 1, 0, none⟩) n n) 0) (by simp [results, go_sem, *]) rfl ⟨_, rfl, ?_, ((Fr.refl _ _).alloc _).alloc _⟩
  have h1 := heap_alloc_new (w.alloc (.cells #[.slice (some ⟨w.heap.size + 1, 0, none⟩) n n, .int .i64 0] 61)) (.cells (madeCells #[.bool false] n) 4)
  rw [World.size_alloc] at h1
  have h2 : madeCells #[Value.bool false] n = (List.replicate n (Value.bool false)).toArray := by
    apply Array.ext
    · simp [size_madeCells]
    · intro i h1 h2
      simp [madeCells, Nat.mod_one]
  refine ⟨by simp, .inr ⟨_, n, _, by simp, Nat.zero_le _, h1, by simp, by simp [maxLen]; omega, by rw [h2]; simp, ?_⟩⟩
  rw [h2]; simp
set_option maxHeartbeats 4000000 in
set_option maxRecDepth 100000 in
theorem rwith_ok {w : World} {v : Value} {t : List Bool} (h : BoolR w v t) (ht : t.length ≤ 65536) (hand : Int) (i : Nat) (hi : i < t.length) (b : Bool) :
    Calls Tryz.prog 227 #[setV v hand, .int .i64 i, .bool b] w fun e w' => ∃ v', e = .returned (setV v' hand) ∧ BoolR w' v' (t.set i b) ∧ Fr (fun _ => False) w w' := by
  obtain ⟨i0, hi0, hz0, hz1, hz2⟩ := info_parts Tryz.info4
  obtain ⟨w1, hw1⟩ : ∃ w1, (w.alloc (.cells #[v, .int .i64 hand] 61)).alloc (.cells #[.slice none 0 0, .int .i64 0] 61) = w1 := ⟨_, rfl⟩
  obtain ⟨b0, b1, F1⟩ := heap_two hw1
  obtain ⟨d0, d1, dz, dl⟩ := cells2 b0
  have h1 := own_none h F1
  have HS := hid (fun W (F : Fr (fun _ => False) w1 W) => own_src (own_none h1 F))
  have HW := hid hw1
  have H1 := hid (And.intro b0 (And.intro b1 F1))
  clear hw1 b0 b1 F1 h h1
  go_enter Tryz.func227, Tryz.ntmps227
  go_upto_region 1 with fail
  rw [HW.out]
  go_wp2_with (at_builtin; refine wpList_append_src rfl (.tmp 7) (.tmp 9) 59 rfl w1.heap.size 4 i0 _ 1 1 Tryz.underlying59 hi0 hz0 hz1 hz2 rfl (by decide) _ _ _ rfl (own_litB _ _ (Nat.le_refl _) _ _ _ (by simp [go_sem])) v t.length (t.map Value.bool) rfl (HS.out _ ((Fr.refl _ _).alloc _)) (by simp) (by intro u hu; obtain ⟨x, _, rfl⟩ := List.mem_map.1 hu; rfl) (by simp [maxLen]; omega) (by omega) (by simp) ?_)
  intro v2 W2 hown2 hg2 hne2
  try simp only [List.nil_append, Nat.zero_add] at hown2
  obtain ⟨g, cap, cur, rfl, hgb, hgc⟩ := own_some hown2 hne2
  have F12 : Fr (fun b => b = w1.heap.size) w1 W2 := ((Fr.refl (fun b => b = w1.heap.size) _).alloc _).trans (Fr.of_grownBy hg2) (fun b _ h => h)
  have hb0 := F12.heap H1.out.1 (by omega)
  have hb1 := F12.heap H1.out.2.1 (by have := H1.out.2.2.size; have := lt_of_heap H1.out.2.1; omega)
  have gl := lt_of_heap hgc
  have sz1 := lt_of_heap H1.out.2.1
  have z := hown2.frozenAt i
  have zc : W2.cell? ⟨g, i, none⟩ = some (.bool t[i]) := by rw [hown2.cellAt i (by omega)]; simp [hi]
  obtain ⟨x0, x1, xz, xl⟩ := cells2 hb0
  obtain ⟨y0, y1, yz, yl⟩ := cells2 hb1
  have ne1 : ¬ g = w.heap.size := by omega
  have ne2 : ¬ w.heap.size = g := by omega
  have ne3 : ¬ g = w.heap.size + 1 := by omega
  have HO := hid (And.intro hown2 (And.intro F12 (And.intro hb0 hb1)))
  clear hown2 hg2 hne2 F12 hb0 hb1 hgc d0 d1 dz HS
  go_wp2
  refine bodyPost_ret (v := setV (.slice (some ⟨g, 0, none⟩) t.length cap) hand) (by simp [results, go_sem, *]) rfl ⟨_, rfl, ?_, ?_⟩
  · obtain ⟨hown2, F12, hb0, hb1⟩ := HO.out
    have ht4 : ∀ (W : World) (k o : Nat) (u : Value), g ≠ k → W.ownsRow w1.heap.size 4 1 (.slice (some ⟨g, 0, none⟩) t.length cap) t.length ((t.set i b).map Value.bool) → (W.setCell ⟨k, o, none⟩ u).ownsRow w1.heap.size 4 1 (.slice (some ⟨g, 0, none⟩) t.length cap) t.length ((t.set i b).map Value.bool) := by
      intro W k o u hk ho
      obtain ⟨hl, ⟨h0, _⟩ | ⟨g', cap', cur', hv, hb, hgc, r⟩⟩ := ho
      · cases h0
      · cases hv
        exact ⟨hl, .inr ⟨g, cap, cur', rfl, hb, (heap_setCell_ne _ _ _ _ (by simpa using fun e => hk e.symm)).trans hgc, r⟩⟩
    have h1 : (W2.setCell ⟨w.heap.size, 0, none⟩ (.slice (some ⟨g, 0, none⟩) t.length cap)).ownsRow w1.heap.size 4 1 (.slice (some ⟨g, 0, none⟩) t.length cap) t.length (t.map Value.bool) := by
      obtain ⟨hl, ⟨h0, _⟩ | ⟨g', cap', cur', hv, hb, hgc, r⟩⟩ := hown2
      · cases h0
      · cases hv
        exact ⟨hl, .inr ⟨g, cap, cur', rfl, hb, (heap_setCell_ne _ _ _ _ (by simpa using ne2)).trans hgc, r⟩⟩
    have h2 := (h1.stored i (.bool b)).1
    rw [show (t.map Value.bool).set i (.bool b) = (t.set i b).map Value.bool by rw [List.map_set]] at h2
    have h3 := own_base (ht4 _ (w.heap.size + 1) 1 (.int .i64 hand) ne3 (ht4 _ (w.heap.size + 1) 0 (.slice (some ⟨g, 0, none⟩) t.length cap) ne3 h2))
    simp only [BoolR, List.length_set]
    exact h3
  · obtain ⟨hown2, F12, hb0, hb1⟩ := HO.out
    have F02 : Fr (fun _ => False) w W2 := H1.out.2.2.trans F12 (fun b hb h => by omega)
    exact (((F02.setNew (by omega) _).setNew (by omega) _).setNew (by omega) _).setNew (by omega) _
theorem rhas_ok {w : World} {v : Value} {t : List Bool} (h : BoolR w v t) (ht : t.length ≤ 65536) (hand : Int) (i : Nat) (hi : i < t.length) :
    Calls Tryz.prog 226 #[setV v hand, .int .i64 i] w fun e w' => e = .returned (.bool t[i]) ∧ Fr (fun _ => False) w w' := by
  obtain ⟨a, c, rfl, hnc, _, _, _⟩ := own_slice h
  obtain ⟨g, rfl, hg, hc⟩ := own_cell h (show (t.map Value.bool)[i]? = some (.bool t[i]) by simp [hi])
  obtain ⟨w1, hw1⟩ : ∃ w1, w.alloc (.cells #[.slice (some ⟨g, 0, none⟩) t.length c, .int .i64 hand] 61) = w1 := ⟨_, rfl⟩
  have F1 : Fr (fun _ => False) w w1 := by rw [← hw1]; exact (Fr.refl _ _).alloc _
  have b1 : w1.heap[w.heap.size]? = some (.cells #[.slice (some ⟨g, 0, none⟩) t.length c, .int .i64 hand] 61) := by rw [← hw1]; exact heap_alloc_new _ _
  obtain ⟨x0, x1, xz, xl⟩ := cells2 b1
  have hc1 := (F1.cell (p := ⟨g, i, none⟩) hg (fun h => h)).trans hc
  have HW := hid hw1
  have HF := hid F1
  have hb := t[i]
  generalize hti : t[i] = bi at hc1
  have HTI := hid hti
  clear hw1 F1 b1 h hc hti
  go_enter Tryz.func226, Tryz.ntmps226
  go_upto_region 1 with fail
  rw [HW.out]
  go_wp2
  go_ret
  exact ⟨rfl, HF.out⟩
def RClear (t : List Bool) (hand : Int) (i : Nat) (w : World) (e : Ending) (w' : World) : Prop :=
  ∃ v' b, e = .returned (.tuple #[setV v' hand, .bool b]) ∧ BoolR w' v' (t.set i false) ∧ Fr (fun _ => False) w w'
set_option maxHeartbeats 4000000 in
set_option maxRecDepth 100000 in
theorem rclear_ok {w : World} {v : Value} {t : List Bool} (h : BoolR w v t) (ht : t.length ≤ 65536) (hand : Int) (i : Nat) (hi : i < t.length) :
    Calls Tryz.prog 165 #[setV v hand, .int .i64 i] w (RClear t hand i w) := by
  obtain ⟨va, vc, rfl, -, -, -, -⟩ := own_slice h
  obtain ⟨w1, hw1⟩ : ∃ w1, (w.alloc (.cells #[.slice va t.length vc, .int .i64 hand] 61)).alloc (.cells #[.slice none 0 0, .int .i64 0] 61) = w1 := ⟨_, rfl⟩
  obtain ⟨b0, b1, F1⟩ := heap_two hw1
  obtain ⟨d0, d1, dz, dl⟩ := cells2 b0
  have h1 := own_none h F1
  have HH := hid (rhas_ok h1 ht hand i hi)
  have HW := hid hw1
  have H1 := hid (And.intro b0 (And.intro b1 (And.intro F1 h1)))
  clear hw1 b0 b1 F1 h h1
  go_enter Tryz.func165, Tryz.ntmps165
  go_upto_region 1 with fail
  rw [HW.out]
  go_wp2_with fail
  refine HH.out.mono ?_
  rintro e w2 ⟨rfl, F2⟩
  generalize hti : t[i] = bi
  have HTI := hid hti
  have h2 := own_none H1.out.2.2.2 F2
  have hb0 := F2.heap H1.out.1 (fun h => h)
  have hb1 := F2.heap H1.out.2.1 (fun h => h)
  obtain ⟨x0, x1, xz, xl⟩ := cells2 hb0
  obtain ⟨y0, y1, yz, yl⟩ := cells2 hb1
  have H2 := hid (And.intro h2 (And.intro hb0 (And.intro hb1 F2)))
  have HWI := hid (rwith_ok h2 ht hand i hi false)
  clear h2 hb0 hb1 F2 hti d0 d1 dz
  cases bi with
  | false =>
    go_wp2
    refine bodyPost_ret (v := .tuple #[setV (.slice va t.length vc) hand, .bool false]) (by simp [results, go_sem, *]) rfl ?_
    refine ⟨_, false, rfl, ?_, ?_⟩
    · have hts : t.set i false = t := by rw [← HTI.out]; simp
      rw [hts]
      obtain ⟨h2, hb0, hb1, F2⟩ := H2.out
      exact own_two h2 hb1 (by decide) _ _
    · exact (((H1.out.2.2.1.trans H2.out.2.2.2 (fun _ _ h => h)).setNew (by omega) _).setNew (by omega) _)
  | true =>
    go_wp2_with fail
    refine HWI.out.mono ?_
    rintro e w3 ⟨v', rfl, h3, F3⟩
    obtain ⟨a', c', rfl, -, -, -, -⟩ := own_slice h3
    simp only [BoolR, List.length_set] at h3 ⊢
    have hb13 := F3.heap H2.out.2.2.1 (fun h => h)
    obtain ⟨z0, z1, zz, zl⟩ := cells2 hb13
    have H3 := hid (And.intro h3 (And.intro hb13 F3))
    clear h3 hb13 F3
    go_wp2
    refine bodyPost_ret (v := .tuple #[setV (.slice a' t.length c') hand, .bool true]) (by simp [results, go_sem, *]) rfl ?_
    refine ⟨_, true, rfl, ?_, ?_⟩
    · simp only [BoolR, List.length_set]
      exact own_two H3.out.1 H3.out.2.1 (by decide) _ _
    · exact ((((H1.out.2.2.1.trans H2.out.2.2.2 (fun _ _ h => h)).trans H3.out.2.2 (fun _ _ h => h)).setNew (by omega) _).setNew (by omega) _)
/-- What Take does. -/
def RTake (t : List Bool) (hand : Nat) (w : World) (e : Ending) (w' : World) : Prop :=
  (∃ n v', takeR t hand = some n ∧ n < t.length ∧ e = .returned (.tuple #[setV v' (((n + 1) % t.length : Nat) : Int), .int .i64 n]) ∧ BoolR w' v' (t.set n true) ∧ Fr (fun _ => False) w w') ∨
  (∃ v', takeR t hand = none ∧ e = .returned (.tuple #[setV v' hand, .int .i64 (-1)]) ∧ BoolR w' v' t ∧ Fr (fun _ => False) w w')
theorem takeR_some {t : List Bool} {hand k : Nat} (hk : k < t.length) (h : ∀ j, j < k → t.getD ((hand + j) % t.length) true = true) (hf : t.getD ((hand + k) % t.length) true = false) : takeR t hand = some ((hand + k) % t.length) := by
  unfold takeR
  rw [List.find?_map, Option.map_eq_some_iff]
  refine ⟨k, ?_, rfl⟩
  rw [List.find?_range_eq_some]
  refine ⟨by simp only [Function.comp]; rw [hf]; rfl, by simpa using hk, fun j hj => ?_⟩
  simp only [Function.comp]
  rw [h j hj]; rfl
theorem takeR_none {t : List Bool} {hand : Nat} (h : ∀ j, j < t.length → t.getD ((hand + j) % t.length) true = true) : takeR t hand = none := by
  unfold takeR
  rw [List.find?_eq_none]
  intro i hi
  obtain ⟨k, hk, rfl⟩ := List.mem_map.1 hi
  simp only [List.mem_range] at hk
  rw [h k hk]; decide
set_option maxHeartbeats 8000000 in
set_option maxRecDepth 100000 in
theorem rtake_ok {w : World} {v : Value} {t : List Bool} (h : BoolR w v t) (ht : t.length ≤ 65536) (hand : Nat) (hh : hand < t.length) :
    Calls Tryz.prog 166 #[setV v hand] w (RTake t hand w) := by
  obtain ⟨va, vc, rfl, -, -, -, -⟩ := own_slice h
  obtain ⟨g, rfl, hg, -⟩ := own_cell h (show (t.map Value.bool)[hand]? = some (.bool t[hand]) by simp [hh])
  obtain ⟨w1, hw1⟩ : ∃ w1, (w.alloc (.cells #[.slice (some ⟨g, 0, none⟩) t.length vc, .int .i64 hand] 61)).alloc (.cells #[.slice none 0 0, .int .i64 0] 61) = w1 := ⟨_, rfl⟩
  obtain ⟨b0, b1, F1⟩ := heap_two hw1
  obtain ⟨d0, d1, dz, dl⟩ := cells2 b0
  obtain ⟨y0, y1, yz, yl⟩ := cells2 b1
  have h1 := own_none h F1
  have HW := hid hw1
  have H1 := hid (And.intro b0 (And.intro b1 (And.intro F1 h1)))
  clear hw1 b0 b1 F1 h h1
  go_enter Tryz.func166, Tryz.ntmps166
  go_upto_region 1 with fail
  rw [HW.out]
  go_wp2_with fail
  go_loop [4] (fun i => ∃ k : Nat, k ≤ t.length ∧ i = .int .i64 k ∧ (∀ j, j < k → t.getD ((hand + j) % t.length) true = true)) (fun i => t.length - (intOf i).toNat)
  case atStart => exact ⟨0, Nat.zero_le _, rfl, fun j hj => by omega⟩
  case round =>
    obtain ⟨k, hk, rfl, hall⟩ := hrel
    by_cases hlt : k < t.length
    · have hidx : ((hand : Int) + (k : Int)) % (t.length : Int) = (((hand + k) % t.length : Nat) : Int) := by simp
      have hm := Nat.mod_lt (hand + k) (show 0 < t.length by omega)
      obtain ⟨n, hn⟩ : ∃ n, (hand + k) % t.length = n := ⟨_, rfl⟩
      rw [hn] at hidx hm
      have hcell : w1.cell? ⟨g, n, none⟩ = some (.bool t[n]) := by
        obtain ⟨g', e, _, hc⟩ := own_cell H1.out.2.2.2 (show (t.map Value.bool)[n]? = some (.bool t[n]) by simp [hm])
        cases e; exact hc
      have hgd : t.getD n true = t[n] := by simp [List.getD, hm]
      have HALL := hid (And.intro hall (And.intro hn hgd))
      clear hall hn hgd
      generalize htn : t[n] = b at hcell
      have HTN := hid htn
      clear htn
      cases b with
      | true =>
        go_wp2
        go_round
        case rel =>
          refine ⟨k + 1, by omega, by go_num, fun j hj => ?_⟩
          by_cases hjk : j = k
          · rw [hjk, HALL.out.2.1, HALL.out.2.2, HTN.out]
          · exact HALL.out.1 j (by omega)
        case measure => simp [intOf]; omega
      | false =>
        have HWI := hid (rwith_ok H1.out.2.2.2 ht hand n hm true)
        have hidx2 : ((n : Int) + 1) % (t.length : Int) = (((n + 1) % t.length : Nat) : Int) := by simp
        have HX2 := hid hidx2
        clear hidx2
        go_wp2_with fail
        refine HWI.out.mono ?_
        rintro e w2 ⟨v', rfl, h2, F2⟩
        obtain ⟨a', c', rfl, -, -, -, -⟩ := own_slice h2
        simp only [BoolR, List.length_set] at h2 ⊢
        have hb0 := F2.heap H1.out.1 (fun h => h)
        have hb1 := F2.heap H1.out.2.1 (fun h => h)
        have H2 := hid (And.intro h2 (And.intro hb0 (And.intro hb1 F2)))
        obtain ⟨x0, x1, xz, xl⟩ := cells2 hb0
        obtain ⟨z0, z1, zz, zl⟩ := cells2 hb1
        clear h2 hb0 hb1 F2 d0 d1 dz y0 y1 yz hcell HWI hidx
        go_upto_region 7 with fail
        obtain ⟨W3, hW3⟩ : ∃ W3, (w2.setCell ⟨w.heap.size, 0, none⟩ (.slice a' t.length c')).setCell ⟨w.heap.size, 1, none⟩ (.int .i64 hand) = W3 := ⟨_, rfl⟩
        have F3 : Fr (fun b => b = w.heap.size) w2 W3 := by rw [← hW3]; exact ((Fr.refl (fun b => b = w.heap.size) _).setCell (a := ⟨w.heap.size, 0, none⟩) (fun _ => rfl) _).setCell (a := ⟨w.heap.size, 1, none⟩) (fun _ => rfl) _
        have hb03 : W3.heap[w.heap.size]? = some (.cells #[.slice a' t.length c', .int .i64 hand] 61) := by
          rw [← hW3, heap_setCell_cells _ _ _ _ (heap_setCell_cells _ _ _ _ H2.out.2.1)]; rfl
        have hb13 := F3.heap H2.out.2.2.1 (by omega)
        have h3 := own_cellK F3 H2.out.1 H2.out.2.1 (by decide)
        rw [hW3]
        have F03 : Fr (fun _ => False) w W3 := (H1.out.2.2.1.trans H2.out.2.2.2 (fun _ _ h => h)).trans F3 (fun b hb h => by omega)
        have H3 := hid (And.intro h3 (And.intro hb03 (And.intro hb13 F03)))
        clear x0 x1 xz xl z0 z1 zz zl h3 hW3 F3 F03
        obtain ⟨x0, x1, xz, xl⟩ := cells2 hb03
        obtain ⟨z0, z1, zz, zl⟩ := cells2 hb13
        clear hb03 hb13
        go_upto_region 8 with fail
        obtain ⟨W4, hW4⟩ : ∃ W4, W3.setCell ⟨w.heap.size, 1, none⟩ (.int .i64 (((n : Int) + 1) % (t.length : Int))) = W4 := ⟨_, rfl⟩
        have F4 : Fr (fun b => b = w.heap.size) W3 W4 := by rw [← hW4]; exact (Fr.refl (fun b => b = w.heap.size) _).setCell (a := ⟨w.heap.size, 1, none⟩) (fun _ => rfl) _
        have hb04 : W4.heap[w.heap.size]? = some (.cells #[.slice a' t.length c', .int .i64 (((n : Int) + 1) % (t.length : Int))] 61) := by
          rw [← hW4, heap_setCell_cells _ _ _ _ H3.out.2.1]; rfl
        have hb14 := F4.heap H3.out.2.2.1 (by omega)
        have h4 := own_cellK F4 H3.out.1 H3.out.2.1 (by decide)
        rw [hW4]
        have F04 : Fr (fun _ => False) w W4 := H3.out.2.2.2.trans F4 (fun b hb h => by omega)
        have H4 := hid (And.intro h4 (And.intro hb04 (And.intro hb14 F04)))
        clear x0 x1 xz xl z0 z1 zz zl h4 hW4 F4 F04
        obtain ⟨x0, x1, xz, xl⟩ := cells2 hb04
        obtain ⟨z0, z1, zz, zl⟩ := cells2 hb14
        clear hb04 hb14
        go_wp2
        refine bodyPost_ret (v := .tuple #[setV (.slice a' t.length c') (((n + 1) % t.length : Nat) : Int), .int .i64 n]) (by simp [results, go_sem, *]) rfl ?_
        refine .inl ⟨n, _, ?_, hm, rfl, ?_, ?_⟩
        · have e := takeR_some (t := t) (hand := hand) (k := k) hlt HALL.out.1 (by rw [HALL.out.2.1, HALL.out.2.2, HTN.out])
          rw [HALL.out.2.1] at e; exact e
        · simp only [BoolR, List.length_set]
          exact own_two H4.out.1 H4.out.2.2.1 (by decide) _ _
        · exact (H4.out.2.2.2.setNew (by omega) _).setNew (by omega) _
    · obtain rfl : k = t.length := by omega
      have HALL := hid hall
      clear hall
      go_wp2
      refine bodyPost_ret (v := .tuple #[setV (.slice (some ⟨g, 0, none⟩) t.length vc) hand, .int .i64 (-1)]) (by simp [results, go_sem, *]) rfl ?_
      refine .inr ⟨_, takeR_none HALL.out, rfl, ?_, ?_⟩
      · exact own_two H1.out.2.2.2 H1.out.2.1 (by decide) _ _
      · exact (H1.out.2.2.1.setNew (by omega) _).setNew (by omega) _
end Go.Proofs.YtgdhaaokolfdoaaGreatDoor

/- The document's store (chapter 13): in, with, without. Conditions: the rows lie in the world. -/
namespace Go.Proofs.YtgdhaaokolfdoaaGreatDoor
open Go.RowKit Go.Sg
theorem intr_cell {w : World} {a : Option Addr} {c : Nat} {l : List Int} (h : IntR w (.slice a l.length c) l) {i : Nat} (hi : i < l.length) : ∃ g, a = some ⟨g, 0, none⟩ ∧ g < w.heap.size ∧ w.cell? ⟨g, i, none⟩ = some (.int .i64 l[i]) :=
  own_cell h (by simp [hi])
set_option maxHeartbeats 2000000 in
theorem rin_ok {w : World} {v : Value} {l : List Int} (h : IntR w v l) (hl : l.length ≤ 65536) (n : Int) :
    Calls Tryz.prog 163 #[v, .int .i64 n] w fun e w' => e = .returned (.bool (decide (n ∈ l))) ∧ w = w' := by
  obtain ⟨a, c, rfl, -, -, -, -⟩ := own_slice h
  have H := hid h
  clear h
  go_enter Tryz.func163, Tryz.ntmps163
  go_wp2_with fail
  go_loop [5] (fun i => ∃ k : Nat, k ≤ l.length ∧ i = .int .i64 k ∧ n ∉ l.take k) (fun i => l.length - (intOf i).toNat)
  case atStart => exact ⟨0, Nat.zero_le _, rfl, by rw [List.take_zero]; exact List.not_mem_nil⟩
  case round =>
    obtain ⟨k, hk, rfl, hn⟩ := hrel
    by_cases hlt : k < l.length
    · obtain ⟨g, rfl, hg, hc⟩ := intr_cell H.out hlt
      have htk : l.take (k + 1) = l.take k ++ [l[k]] := by rw [List.take_add_one, List.getElem?_eq_getElem hlt]; rfl
      have HTK := hid (And.intro htk hn)
      have hmem : l[k] ∈ l := List.getElem_mem _
      generalize hx : l[k] = x at hc hmem
      have HX := hid (And.intro hx hmem)
      clear hx htk hn hmem
      by_cases hxn : x = n
      · have hb : (x == n) = true := by simp [hxn]
        have HXN := hid hxn
        clear hxn
        go_wp2
        go_ret
        exact ⟨by rw [decide_eq_true (by rw [← HXN.out]; exact HX.out.2)]; rfl, rfl⟩
      · have hb : (x == n) = false := by simp [hxn]
        have HXN := hid hxn
        clear hxn
        go_wp2
        go_round
        case rel =>
          refine ⟨k + 1, by omega, by go_num, ?_⟩
          rw [HTK.out.1, HX.out.1]
          intro hm
          rcases List.mem_append.1 hm with hm | hm
          · exact HTK.out.2 hm
          · simp at hm; exact HXN.out hm.symm
        case measure => simp [intOf]; omega
    · obtain rfl : k = l.length := by omega
      rw [List.take_length] at hn
      have HN := hid hn
      clear hn
      go_wp2
      go_ret
      exact ⟨by rw [decide_eq_false HN.out]; rfl, rfl⟩
/-- A row of numbers that a function made. -/
def RInts (l : List Int) (w : World) (e : Ending) (w' : World) : Prop := ∃ v, e = .returned v ∧ IntR w' v l ∧ Fr (fun _ => False) w w'
theorem withoutL_snoc (l : List Int) (x n : Int) : withoutL (l ++ [x]) n = if x = n then withoutL l n else withoutL l n ++ [x] := by
  by_cases h : x = n <;> simp [withoutL, List.filter_append, h]
set_option maxHeartbeats 4000000 in
set_option maxRecDepth 100000 in
theorem rwithout_ok {w : World} {v : Value} {l : List Int} (h : IntR w v l) (hl : l.length ≤ 65536) (n : Int) :
    Calls Tryz.prog 225 #[v, .int .i64 n] w (RInts (withoutL l n) w) := by
  obtain ⟨i0, hi0, hz0, hz1, hz2⟩ := info_parts Tryz.info3
  obtain ⟨a, c, rfl, -, -, -, -⟩ := own_slice h
  have H := hid h
  clear h
  go_enter Tryz.func225, Tryz.ntmps225
  go_wp2_with fail
  go_loopw [5, 6] (fun u i wr => ∃ k : Nat, k ≤ l.length ∧ i = .int .i64 k ∧ wr.ownsRow w.heap.size 3 1 u (withoutL (l.take k) n).length ((withoutL (l.take k) n).map (Value.int .i64)) ∧ Fr (fun _ => False) w wr) (fun _ i _ => l.length - (intOf i).toNat)
  case atStart => exact ⟨0, Nat.zero_le _, rfl, World.ownsRow_nil _ _ _ _, Fr.refl _ _⟩
  case round =>
    obtain ⟨k, hk, rfl, hown, hF⟩ := hrel
    by_cases hlt : k < l.length
    · obtain ⟨g, rfl, hg, hc⟩ := intr_cell H.out hlt
      have hc := (hF.cell (p := ⟨g, k, none⟩) hg (fun h => h)).trans hc
      have hg := Nat.lt_of_lt_of_le hg hF.size
      have htk : l.take (k + 1) = l.take k ++ [l[k]] := by rw [List.take_add_one, List.getElem?_eq_getElem hlt]; rfl
      have hwl : (withoutL (l.take k) n).length ≤ k := Nat.le_trans (List.length_filter_le _ _) (by simp; omega)
      generalize hx : l[k] = x at hc htk
      have HX := hid htk
      have HO := hid (And.intro hown hF)
      have hsw := hF.size
      clear hx htk hown hF
      by_cases hxn : x = n
      · have hb : (x != n) = false := by simp [hxn]
        have HXN := hid hxn
        clear hxn
        go_wp2
        go_roundw
        case rel =>
          refine ⟨k + 1, by omega, by go_num, ?_, HO.out.2⟩
          rw [HX.out, withoutL_snoc, if_pos HXN.out]
          exact HO.out.1
        case measure => simp [intOf]; omega
      · have hb : (x != n) = true := by simp [hxn]
        have HXN := hid hxn
        clear hxn
        go_wp2_with (at_builtin; refine wpList_append_own_at _ rfl (.tmp 19) (.tmp 24) 52 rfl w.heap.size 3 i0 _ 1 8 Tryz.underlying52 hi0 hz0 hz1 hz2 rfl (by decide) _ _ _ rfl (HO.out.1.alloc _) ⟨wr.heap.size, 0, none⟩ 1 1 [.int .i64 x] rfl rfl (cell_one_new _ _ _) (by simp [Value.oneCell']) (by simp [maxLen]; omega) (by omega) (by simp; omega) ?_)
        intro v2 W2 hown2 hgrow2 hnil2 hat2
        have hF2 : Fr (fun _ => False) w W2 := HO.out.2.trans (grown_fr HO.out.1 hgrow2) (fun b hb h => by omega)
        have H2 := hid (And.intro hown2 hF2)
        clear hown2 hgrow2 hnil2 hat2 hF2
        go_wp2
        go_roundw
        case rel =>
          refine ⟨k + 1, by omega, by go_num, ?_, H2.out.2⟩
          rw [HX.out, withoutL_snoc, if_neg HXN.out]
          simpa using H2.out.1
        case measure => simp [intOf]; omega
    · obtain rfl : k = l.length := by omega
      rw [List.take_length] at hown
      have HO := hid (And.intro hown hF)
      clear hown hF
      go_wp2
      go_ret
      exact ⟨_, rfl, own_base HO.out.1, HO.out.2⟩
theorem withL_split (l : List Int) (n : Int) : ∀ k, k ≤ l.length → (∀ x ∈ l.take k, x < n) → (∀ x, l[k]? = some x → ¬ x < n) → withL l n = l.take k ++ [n] ++ l.drop k := by
  induction l with
  | nil => intro k hk _ _; simp at hk; subst hk; rfl
  | cons y l ih =>
    intro k hk h1 h2
    cases k with
    | zero =>
      have := h2 y rfl
      simp [withL, this]
    | succ k =>
      have hy := h1 y (by simp)
      have := ih k (by simpa using hk) (fun x hx => h1 x (by simp [hx])) (fun x hx => h2 x (by simpa using hx))
      simp [withL, hy, this]
set_option maxHeartbeats 4000000 in
set_option maxRecDepth 100000 in
theorem rwithI_ok {w : World} {v : Value} {l : List Int} (h : IntR w v l) (hl : l.length ≤ 65536) (n : Int) :
    Calls Tryz.prog 167 #[v, .int .i64 n] w (RInts (withL l n) w) := by
  obtain ⟨i0, hi0, hz0, hz1, hz2⟩ := info_parts Tryz.info3
  obtain ⟨a, c, rfl, hlc, hcm, -, hag⟩ := own_slice h
  have H := hid h
  clear h
  go_enter Tryz.func167, Tryz.ntmps167
  go_wp2_with fail
  go_loop [5] (fun i => ∃ k : Nat, k ≤ l.length ∧ i = .int .i64 k ∧ ∀ x ∈ l.take k, x < n) (fun i => l.length - (intOf i).toNat)
  case atStart => exact ⟨0, Nat.zero_le _, rfl, fun x hx => by rw [List.take_zero] at hx; cases hx⟩
  case round =>
    obtain ⟨k, hk, rfl, hn⟩ := hrel
    have HN := hid hn
    clear hn
    have htail : (∀ x, l[k]? = some x → ¬ x < n) → withL l n = l.take k ++ [n] ++ l.drop k := fun h => withL_split l n k hk HN.out h
    have hto : ∀ W, (Instr.slice 52 (.slice a l.length c) none (some (.int .i64 k)) none).run Tryz.prog W = .ok (.slice a k c) W := fun W => to52 a l.length c k (by omega) W
    obtain ⟨a2, hfrom, hF2⟩ : ∃ a2 : Option Addr, (∀ W, (Instr.slice 52 (.slice a l.length c) (some (.int .i64 k)) none none).run Tryz.prog W = .ok (.slice a2 (l.length - k) (c - k)) W) ∧ ∀ W, Fr (fun _ => False) w W → SrcV W (.slice a2 (l.length - k) (c - k)) (l.length - k) ((l.map (Value.int .i64)).drop (k * 1)) := ⟨_, fun W => from52 a l.length c k hk W, fun W F => own_src_from (own_none H.out F) k hk⟩
    have HFr := hid hF2
    clear hF2
    have HT := hid (fun W (F : Fr (fun _ => False) w W) => own_src_to (own_none H.out F) k hk)
    have HTL := hid htail
    clear htail
    by_cases hlt : k < l.length
    · obtain ⟨g, rfl, hg, hc⟩ := intr_cell H.out hlt
      generalize hx : l[k] = x at hc
      have HX := hid hx
      clear hx
      by_cases hxn : x < n
      · have hb : decide (x < n) = true := by simp [hxn]
        clear hto hfrom
        go_wp2
        go_round
        case rel =>
          refine ⟨k + 1, by omega, by go_num, ?_⟩
          rw [List.take_add_one, List.getElem?_eq_getElem hlt, HX.out]
          intro y hy
          rcases List.mem_append.1 hy with hy | hy
          · exact HN.out y hy
          · simp at hy; omega
        case measure => simp [intOf]; omega
      · have hb : decide (x < n) = false := by simp [hxn]
        have hxl := HTL.out (fun y hy => by rw [List.getElem?_eq_getElem hlt] at hy; cases hy; rw [HX.out]; exact hxn)
        go_wp2_with (at_builtin; refine wpList_append_src rfl (.tmp 21) (.tmp 24) 52 rfl w.heap.size 3 i0 _ 1 8 Tryz.underlying52 hi0 hz0 hz1 hz2 rfl (by decide) _ _ _ rfl (own_litB _ _ (Nat.le_refl _) _ _ _ (by simp [go_sem])) _ k _ rfl (HT.out _ ((Fr.refl _ _).alloc _)) (by simp; omega) (by intro u hu; obtain ⟨x, _, rfl⟩ := List.mem_map.1 (List.mem_of_mem_take hu); rfl) (by simp [maxLen]; omega) (by omega) (by simp) ?_)
        intro v2 W2 hown2 hg2 hne2
        try simp only [List.nil_append, Nat.zero_add, Nat.mul_one] at hown2
        have F12 : Fr (fun b => b = w.heap.size) w W2 := ((Fr.refl (fun b => b = w.heap.size) _).alloc _).trans (Fr.of_grownBy hg2) (fun b _ h => h)
        have F1 : Fr (fun _ => False) w W2 := F12.mono (fun b hb h => by omega)
        have HO := hid (And.intro hown2 F1)
        clear hown2 hg2 hne2 F12 F1
        go_wp2_with (at_builtin; refine wpList_append_own_at _ rfl (.tmp 25) (.tmp 27) 52 rfl w.heap.size 3 i0 _ 1 8 Tryz.underlying52 hi0 hz0 hz1 hz2 rfl (by decide) _ _ _ rfl (HO.out.1.alloc _) ⟨W2.heap.size, 0, none⟩ 1 1 [.int .i64 n] rfl rfl (cell_one_new _ _ _) (by simp [Value.oneCell']) (by simp [maxLen]; omega) (by omega) (Nat.le_trans HO.out.2.size (by simp)) ?_)
        intro v3 W3 hown3 hg3 hnil3 hat3
        have F2 : Fr (fun _ => False) w W3 := HO.out.2.trans (grown_fr HO.out.1 hg3) (fun b hb h => by omega)
        have HP := hid (And.intro hown3 F2)
        clear hown3 hg3 hnil3 hat3 F2
        go_wp2_with (at_builtin; refine wpList_append_src rfl (.tmp 29) (.tmp 32) 52 rfl w.heap.size 3 i0 _ 1 8 Tryz.underlying52 hi0 hz0 hz1 hz2 rfl (by decide) _ _ _ rfl HP.out.1 _ (l.length - k) _ rfl (HFr.out _ HP.out.2) (by simp) (by intro u hu; obtain ⟨x, _, rfl⟩ := List.mem_map.1 (List.mem_of_mem_drop hu); rfl) (by simp [maxLen]; omega) (by omega) (by exact HP.out.2.size) ?_)
        intro v4 W4 hown4 hg4 hne4
        have F3 : Fr (fun _ => False) w W4 := HP.out.2.trans (grown_fr' HP.out.1 hg4) (fun b hb h => by omega)
        have HQ := hid (And.intro hown4 F3)
        clear hown4 hg4 hne4 F3
        go_wp2
        go_ret
        refine ⟨_, rfl, ?_, HQ.out.2⟩
        rw [hxl]
        have hh := own_base HQ.out.1
        rw [show k + 1 + (l.length - k) = (l.take k ++ [n] ++ l.drop k).length by simp; omega] at hh
        simpa [IntR] using hh
    · have hdd : decide ((k : Int) < (l.length : Int)) = false := by simp; omega
      have hxl := HTL.out (fun y hy => by rw [List.getElem?_eq_none (by omega)] at hy; cases hy)
      go_wp2_with (at_builtin; refine wpList_append_src rfl (.tmp 21) (.tmp 24) 52 rfl w.heap.size 3 i0 _ 1 8 Tryz.underlying52 hi0 hz0 hz1 hz2 rfl (by decide) _ _ _ rfl (own_litB _ _ (Nat.le_refl _) _ _ _ (by simp [go_sem])) _ k _ rfl (HT.out _ ((Fr.refl _ _).alloc _)) (by simp; omega) (by intro u hu; obtain ⟨x, _, rfl⟩ := List.mem_map.1 (List.mem_of_mem_take hu); rfl) (by simp [maxLen]; omega) (by omega) (by simp) ?_)
      intro v2 W2 hown2 hg2 hne2
      try simp only [List.nil_append, Nat.zero_add, Nat.mul_one] at hown2
      have F12 : Fr (fun b => b = w.heap.size) w W2 := ((Fr.refl (fun b => b = w.heap.size) _).alloc _).trans (Fr.of_grownBy hg2) (fun b _ h => h)
      have F1 : Fr (fun _ => False) w W2 := F12.mono (fun b hb h => by omega)
      have HO := hid (And.intro hown2 F1)
      clear hown2 hg2 hne2 F12 F1
      go_wp2_with (at_builtin; refine wpList_append_own_at _ rfl (.tmp 25) (.tmp 27) 52 rfl w.heap.size 3 i0 _ 1 8 Tryz.underlying52 hi0 hz0 hz1 hz2 rfl (by decide) _ _ _ rfl (HO.out.1.alloc _) ⟨W2.heap.size, 0, none⟩ 1 1 [.int .i64 n] rfl rfl (cell_one_new _ _ _) (by simp [Value.oneCell']) (by simp [maxLen]; omega) (by omega) (Nat.le_trans HO.out.2.size (by simp)) ?_)
      intro v3 W3 hown3 hg3 hnil3 hat3
      have F2 : Fr (fun _ => False) w W3 := HO.out.2.trans (grown_fr HO.out.1 hg3) (fun b hb h => by omega)
      have HP := hid (And.intro hown3 F2)
      clear hown3 hg3 hnil3 hat3 F2
      go_wp2_with (at_builtin; refine wpList_append_src rfl (.tmp 29) (.tmp 32) 52 rfl w.heap.size 3 i0 _ 1 8 Tryz.underlying52 hi0 hz0 hz1 hz2 rfl (by decide) _ _ _ rfl HP.out.1 _ (l.length - k) _ rfl (HFr.out _ HP.out.2) (by simp) (by intro u hu; obtain ⟨x, _, rfl⟩ := List.mem_map.1 (List.mem_of_mem_drop hu); rfl) (by simp [maxLen]; omega) (by omega) (by exact HP.out.2.size) ?_)
      intro v4 W4 hown4 hg4 hne4
      have F3 : Fr (fun _ => False) w W4 := HP.out.2.trans (grown_fr' HP.out.1 hg4) (fun b hb h => by omega)
      have HQ := hid (And.intro hown4 F3)
      clear hown4 hg4 hne4 F3
      go_wp2
      go_ret
      refine ⟨_, rfl, ?_, HQ.out.2⟩
      rw [hxl]
      have hh := own_base HQ.out.1
      rw [show k + 1 + (l.length - k) = (l.take k ++ [n] ++ l.drop k).length by simp; omega] at hh
      simpa [IntR] using hh
end Go.Proofs.YtgdhaaokolfdoaaGreatDoor

/- Appends within a region that draws its order: the law of append as one step. Conditions: none. -/
namespace Go.Proofs.YtgdhaaokolfdoaaGreatDoor
open Go.RowKit Go.Sg
theorem step_append_src {P : Program} {ops : Array Oper} {o : Oper} {a : Act} {w : World} {K : Act → World → Prop} {Q : Exit → Act → World → Prop} {E : Prop} (hgd : o.guard = none) (s x : Operand) (t : TypeId)
    (ho : o.op = .call { callee := .builtin .append, args := #[s, x], argTypes := #[t, t] }) (base : Nat) (e : TypeId) (i : TypeInfo) (z : Value) (size bytes : Nat) (ht : P.underlying t = some (.slice e)) (hi : P.info? e = some i) (hz : i.zero = some z)
    (hsize : i.size = size) (hby : i.bytes = bytes) (hzs : z.cells.size = size) (hsz : 0 < size) (v : Value) (n : Nat) (xs : List Value) (hs : a.eval s = v) (hown : w.ownsRow base e size v n xs)
    (vx : Value) (m : Nat) (news : List Value) (hx : a.eval x = vx) (hsrc : SrcV w vx m news) (hl : news.length = m * size) (h1 : ∀ u ∈ news, u.oneCell' = true) (h63 : n + m ≤ maxLen) (hbytes : (n + m) * bytes ≤ 140737488355328) (hbase : base ≤ w.heap.size)
    (h : ∀ v' w', w'.ownsRow base e size v' (n + m) (xs ++ news) → w.grownBy w' v.ownBlock → K (a.put o.dst v') w') :
    if Region.wanted o (yielded ops a.tmps) = true then Oper.wp P o a w K Q else E := by
  have hw : Region.wanted o (yielded ops a.tmps) = true := by simp [Region.wanted, hgd]
  rw [if_pos hw]
  obtain ⟨a', c, rfl, ⟨rfl, rfl, rfl, rfl⟩ | ⟨ad, rfl, hc⟩⟩ := hsrc
  · have hrun := run_append_owned_none (P := P) (w := w) base t o.type e i size ht hi v n xs hown
    unfold Oper.wp
    simp [execOp, ho, resolve, invoke, builtin, hs, hx, hrun, Result.andThen]
    exact h v w (by simpa using hown) ⟨rfl, rfl, rfl, Nat.le_refl _, fun _ _ _ => rfl⟩
  · obtain ⟨v', w', hr, h2, h3, h4, h5⟩ := run_append_own_at (P := P) w base t o.type e i z size bytes ht hi hz hsize hby hzs hsz v n xs hown ad m c news hl hc h1 h63 hbytes hbase
    unfold Oper.wp execOp
    simp only [ho, resolve, invoke, builtin, Sem.run_bind, Sem.run_pure, Result.andThen_ok, List.map_toArray, List.map_cons, List.map_nil, hs, hx, hr]
    exact h v' w' h2 h3
theorem own_at {W : World} {B g : Nat} {e : TypeId} {size : Nat} (hB : B ≤ g) (h : W.heap[g]? = some (.cells #[] e)) : W.ownsRow B e size (.slice (some ⟨g, 0, none⟩) 0 0) 0 [] :=
  ⟨by simp, .inr ⟨g, 0, #[], rfl, hB, h, Nat.le_refl _, Nat.zero_le _, by simp, by simp⟩⟩
theorem src_of_heap {W : World} {g : Nat} {c : Array Value} {e : TypeId} {f : Nat × Nat} (m cap : Nat) (h : W.heap[g]? = some (.cells c e f)) : SrcV W (.slice (some ⟨g, 0, none⟩) m cap) m c.toList :=
  ⟨_, cap, rfl, .inr ⟨_, rfl, fun j u hj => by rw [addr_add0, Nat.zero_add, cell_of_heap h]; simpa using hj⟩⟩
theorem hp1 (W : World) (o : Obj) : (W.alloc o).heap[W.heap.size]? = some o := heap_alloc_new _ _
theorem hp2 (W : World) (o o' : Obj) : ((W.alloc o).alloc o').heap[W.heap.size]? = some o := by
  rw [heap_alloc_lt _ _ _ (by simp)]; exact heap_alloc_new _ _
theorem hp3 (W : World) (o o' : Obj) : ((W.alloc o).alloc o').heap[W.heap.size + 1]? = some o' := by
  have := heap_alloc_new (W.alloc o) o'
  simpa using this
theorem hp1d (W : World) (o : Obj) : (W.alloc o).drew.heap[W.heap.size]? = some o := hp1 W o
theorem hp2d (W : World) (o o' : Obj) : ((W.alloc o).alloc o').drew.heap[W.heap.size]? = some o := hp2 W o o'
theorem hp3d (W : World) (o o' : Obj) : ((W.alloc o).alloc o').drew.heap[W.heap.size + 1]? = some o' := hp3 W o o'
theorem hk_any {W W3 : World} {X n c g : Nat} {o : Obj} (hk : ∀ k, k < W.heap.size → some k ≠ (Value.slice (some ⟨X, 0, none⟩) n c).ownBlock → W3.heap[k]? = W.heap[k]?) (h : W.heap[g]? = some o) (hne : g ≠ X) : W3.heap[g]? = some o :=
  (hk g (lt_of_heap h) (by simp [Value.ownBlock]; exact hne)).trans h
theorem own_le {w : World} {b b' e size n : Nat} {v : Value} {xs : List Value} (h : w.ownsRow b e size v n xs) (hb : b' ≤ b) : w.ownsRow b' e size v n xs := by
  obtain ⟨hl, h0 | ⟨g, cap, cur, hv, hg, r⟩⟩ := h
  · exact ⟨hl, .inl h0⟩
  · exact ⟨hl, .inr ⟨g, cap, cur, hv, Nat.le_trans hb hg, r⟩⟩
theorem own_above {w w' : World} {b e size n : Nat} {v : Value} {xs : List Value} (h : w.ownsRow b e size v n xs) (F : Fr (fun k => k < b) w w') : w'.ownsRow b e size v n xs := by
  obtain ⟨hl, h0 | ⟨g, cap, cur, hv, hg, hh, r⟩⟩ := h
  · exact ⟨hl, .inl h0⟩
  · exact ⟨hl, .inr ⟨g, cap, cur, hv, hg, F.heap hh (by omega), r⟩⟩
theorem fr_g {W2 W W3 : World} {X n c : Nat} (hg : W.grownBy W3 (Value.slice (some ⟨X, 0, none⟩) n c).ownBlock) (hX : W2.heap.size ≤ X) (F : Fr (fun _ => False) W2 W) : Fr (fun _ => False) W2 W3 :=
  F.trans (Fr.of_grownBy hg) (fun b hb h => absurd h (by simp; omega))
theorem fr_grown {W2 W W3 : World} {e size n : Nat} {v : Value} {xs : List Value} (F : Fr (fun _ => False) W2 W) (hown : W.ownsRow W2.heap.size e size v n xs) (hg : W.grownBy W3 v.ownBlock) : Fr (fun _ => False) W2 W3 :=
  F.trans (grown_fr' hown hg) (fun b hb h => absurd h (by omega))
end Go.Proofs.YtgdhaaokolfdoaaGreatDoor
