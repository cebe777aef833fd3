/- A pack of texts: DZ, DC, NI, OB, OD. Conditions: those that each text names. -/
import Derived.Test.YtgdhaaokolfdoaaGreatDoorKBJ
import Derived.Test.YtgdhaaokolfdoaaGreatDoorKAC
import Derived.ChangeSlices
import Derived.OpenShut
import Derived.WideShapes
import Derived.Test.YtgdhaaokolfdoaaGreatDoorKAF
import Derived.Lib.SmallJoins
set_option linter.unusedVariables false
set_option linter.unusedSimpArgs false
set_option linter.unnecessarySimpa false
/- Chapter 15's directory between two calls: a store of the small plan on a device that never goes down, and a directory on it. Conditions: none. -/
namespace Go.Proofs.YtgdhaaokolfdoaaGreatDoor
open Go.RowKit Go.Sg Go.Sg.Bits Go.Sg.Clk CP SF
/-- From base on, only maps, a store's cells and directories have turned. -/
abbrev FrD (base : Nat) (w w' : World) : Prop := Fr (fun b => base ≤ b ∧ ∀ c t f, w.heap[b]? = some (.cells c t f) → t ∈ 209 :: mutT) w w'
theorem FrD.trans {base : Nat} {w w1 w2 : World} (h : FrD base w w1) (k : FrD base w1 w2) : FrD base w w2 := by
  refine Fr.trans h k fun b hb hs => ?_
  rcases Classical.em (base ≤ b ∧ ∀ c t f, w.heap[b]? = some (.cells c t f) → t ∈ 209 :: mutT) with hm | hm
  · exact hm
  · have e := Fr.block h b hb hm
    exact ⟨hs.1, fun c t f hc => hs.2 c t f (e.trans hc)⟩
theorem FrD.heap {base : Nat} {w w' : World} (h : FrD base w w') {b : Nat} {c : Array Value} {t : TypeId} {f : Nat × Nat} (hb : w.heap[b]? = some (.cells c t f)) (ht : t ∉ 209 :: mutT) : w'.heap[b]? = some (.cells c t f) :=
  Fr.heap h hb fun hs => ht (hs.2 c t f hb)
theorem FrD.none {base : Nat} {w w' : World} (F : Fr (fun _ => False) w w') : FrD base w w' := Fr.mono F fun _ _ h => h.elim
theorem frB_frD {B : Blk} {w w' : World} (h : FrB B w w') : FrD B.base w w' := Fr.mono h fun b _ hs => ⟨hs.1, fun c t f hc => List.mem_cons_of_mem _ (hs.2.1 c t f hc)⟩
theorem frX_frD {B : Blk} {w w' : World} {bd s : Nat} {x : DirD} (h : FrX B (fun b => b = bd) w w') (hD : DirAt w bd s x) (hb : B.base ≤ bd) : FrD B.base w w' := Fr.mono h fun b _ hs => by
  rcases hs with hs | hs
  · exact ⟨hs.1, fun c t f hc => List.mem_cons_of_mem _ (hs.2.1 c t f hc)⟩
  · subst hs
    exact ⟨hb, fun c t f hc => by rw [hD] at hc; cases hc; simp⟩
theorem FrD.fr0 {base : Nat} {w0 w w' : World} (h : FrD base w w') (hb : w0.heap.size ≤ base) (F : Fr (fun _ => False) w0 w) : Fr (fun _ => False) w0 w' := F.trans h fun b hb' hs => by omega
theorem FrD.own {base : Nat} {w w' : World} {b e size n : Nat} {v : Value} {xs : List Value} (h : w.ownsRow b e size v n xs) (he : e ∉ 209 :: mutT) (F : FrD base w w') : w'.ownsRow b e size v n xs :=
  ownsRow_fr h F fun g c hg hs => he (hs.2 c e _ hg)
structure DirS (w : World) (base bd : Nat) (B : Blk) (y : Cs) (x : DirD) (tops slots : List Rf) (K : Prop) (N : Nat) : Prop where
  st : StoreC w B y noP false N
  dir : DirAt w bd B.s x
  c : DirC y x tops slots
  live : Live y (pgs x.rp tops ++ []) 7
  calm : K → AllFresh y (pgs x.rp tops ++ [])
  plan : y.plan = small15
  pages : y.pages = 188
  room : y.room = 77
  places : y.places = 8
  base_ : B.base = base
  bd_ : base ≤ bd
  per : x.per = 6 ∧ x.most = 5
  gen : y.gen ≤ N + 1
theorem DirS.fr0 {w w' : World} {base bd : Nat} {B : Blk} {y : Cs} {x : DirD} {tops slots : List Rf} {K : Prop} {N : Nat} (h : DirS w base bd B y x tops slots K N) (F : Fr (fun _ => False) w w') : DirS w' base bd B y x tops slots K N :=
  { h with st := h.st.fr0 F, dir := F.heap h.dir (fun h => h) }
theorem DirS.mono {w : World} {base bd : Nat} {B : Blk} {y : Cs} {x : DirD} {tops slots : List Rf} {K : Prop} {N N' : Nat} (h : DirS w base bd B y x tops slots K N) (hN : N ≤ N') (h9 : N' ≤ 90000) : DirS w base bd B y x tops slots K N' :=
  { h with st := h.st.mono hN h9, gen := by have := h.gen; omega }
theorem leaves6 {x : DirD} (h : x.per = 6 ∧ x.most = 5) (hd : x.depth ≤ x.most) : x.leaves ≤ 6 ∧ x.slots ≤ 32 := by
  have h5 : x.depth ≤ 5 := by omega
  have h1 : 2 ^ x.depth ≤ 2 ^ 5 := Nat.pow_le_pow_right (by decide) h5
  unfold DirD.leaves DirD.slots
  rw [h.1]
  omega
theorem DirS.small {w : World} {base bd : Nat} {B : Blk} {y : Cs} {x : DirD} {tops slots : List Rf} {K : Prop} {N : Nat} (h : DirS w base bd B y x tops slots K N) : x.leaves ≤ 6 ∧ x.slots ≤ 32 := leaves6 h.per h.c.z.most.1
/-- What a directory's call leaves. -/
def StepD (base bd : Nat) (B : Blk) (depth : Nat) (sl : List Rf) (K : Prop) (N : Nat) (err : Int) (w : World) (e : Ending) (w' : World) : Prop :=
  e = .returned (.int .i64 err) ∧ FrD base w w' ∧ ∃ y' x' tops', DirS w' base bd B y' x' tops' sl K N ∧ x'.depth = depth
theorem dirU_step {w w' : World} {base bd : Nat} {B : Blk} {y : Cs} {x x0 : DirD} {tops slots sl : List Rf} {K : Prop} {N N' : Nat} {c0 : Cont} {e : Ending} (h : DirS w base bd B y x0 tops slots K N) (hx : x.per = x0.per ∧ x.most = x0.most) (hu : DirU B bd x y noP false N' [] 7 K c0 sl w e w') (hN : N ≤ N') : StepD base bd B x.depth sl K N' 0 w e w' := by
  obtain ⟨err, rfl, F, ⟨rfl, y', tk, m, e1, e2, e3, e4, e5, -, e6, e7, -⟩ | ⟨_, ha, _⟩⟩ := hu
  · refine ⟨rfl, ?_, y', _, tk, ⟨e2, e1, e3, e4, e5, e6.plan.trans h.plan, e6.pages.trans h.pages, e6.room.trans h.room, e6.places.trans h.places, h.base_, h.bd_, ⟨hx.1.trans h.per.1, hx.2.trans h.per.2⟩, ?_⟩, rfl⟩
    · rw [← h.base_]
      exact frX_frD F h.dir (by rw [h.base_]; exact h.bd_)
    · rw [e7]; have := h.gen; omega
  · cases ha
theorem DirS.set {w : World} {base bd : Nat} {B : Blk} {y : Cs} {x : DirD} {tops slots : List Rf} {K : Prop} {N n c : Nat} (h : DirS w base bd B y x tops slots K N) {sa : Option Addr} {l : List Int} {r : Rf} (hl : SlI w sa n c l) (hlF : ∀ W, FrB B w W → SlI W sa n c l) (hn : n ≤ 40) (hany : l.any (outB x.slots) = false) (hr : rightR r) (hN : N + 100 ≤ 90000) :
    Calls Tryz.prog 50 #[dptr bd, .slice sa n c, ref2 r.1 r.2] w (StepD base bd B x.depth (setM slots (l.map Int.toNat) r) K (N + 100) 0 w) := by
  have hs := h.small
  refine (set_ok (rest := []) (c0 := y.cont) h.st h.dir h.c (by rw [h.pages]; omega) h.live h.calm (fun k hk => by cases hk) (by rw [h.pages]; simp; omega) hl hlF (by omega) hany hr (by omega)).mono ?_
  rintro e w' hu
  obtain ⟨h1, h2, y', x', tops', h3, h4⟩ := dirU_step h ⟨rfl, rfl⟩ hu (by omega)
  exact ⟨h1, h2, y', x', tops', h3.mono (by omega) hN, h4⟩
theorem DirS.double {w : World} {base bd : Nat} {B : Blk} {y : Cs} {x : DirD} {tops slots : List Rf} {K : Prop} {N : Nat} (h : DirS w base bd B y x tops slots K N) (hd : x.depth < x.most) (hN : N + 100 ≤ 90000) :
    Calls Tryz.prog 49 #[dptr bd] w (StepD base bd B (x.depth + 1) (dblM slots) K (N + 100) 0 w) := by
  have hs := leaves6 (x := { x with depth := x.depth + 1 }) h.per hd
  refine (double_ok (rest := []) (c0 := y.cont) h.st h.dir h.c hd (by rw [h.pages]; omega) h.live h.calm (fun k hk => by cases hk) (by rw [h.pages]; simp; omega) hN).mono ?_
  rintro e w' hu
  exact dirU_step (x := { x with depth := x.depth + 1 }) h ⟨rfl, rfl⟩ hu (by omega)
/-- What a call leaves that tells references. -/
def RowD (base bd : Nat) (B : Blk) (y : Cs) (x : DirD) (tops slots : List Rf) (K : Prop) (N : Nat) (out : List Rf) (w : World) (e : Ending) (w' : World) : Prop :=
  ∃ a c, e = .returned (.tuple #[.slice a out.length c, .int .i64 0]) ∧ OwnR w' w.heap.size (.slice a out.length c) out ∧ FrD base w w' ∧ DirS w' base bd B y x tops slots K N
theorem rowU_row {w w' : World} {base bd : Nat} {B : Blk} {y : Cs} {x : DirD} {tops slots out : List Rf} {K : Prop} {N N' : Nat} {e : Ending} (h : DirS w base bd B y x tops slots K N) (hN : N ≤ N') (hu : RowU B y noP false N' out w e w') : RowD base bd B y x tops slots K N' out w e w' := by
  obtain ⟨v, err, rfl, F, ⟨rfl, hown, hS⟩ | ⟨_, ha, _⟩⟩ := hu
  · obtain ⟨a, c, rfl, -⟩ := own_slice hown
    refine ⟨a, c, rfl, hown, ?_, { h with st := hS, dir := h.dir.frB F, gen := by have := h.gen; omega }⟩
    rw [← h.base_]; exact frB_frD F
  · cases ha
theorem DirS.all {w : World} {base bd : Nat} {B : Blk} {y : Cs} {x : DirD} {tops slots : List Rf} {K : Prop} {N : Nat} (h : DirS w base bd B y x tops slots K N) (hN : N + 10 ≤ 90000) :
    Calls Tryz.prog 48 #[dptr bd] w (RowD base bd B y x tops slots K (N + 10) slots w) := by
  have hs := h.small
  refine (all_ok h.st h.dir h.c (by omega)).mono ?_
  rintro e w' hu
  obtain ⟨a, c, h1, h2, h3, h4⟩ := rowU_row h (by omega) hu
  exact ⟨a, c, h1, h2, h3, h4.mono (by omega) hN⟩
theorem DirS.pgs_ {w : World} {base bd : Nat} {B : Blk} {y : Cs} {x : DirD} {tops slots : List Rf} {K : Prop} {N : Nat} (h : DirS w base bd B y x tops slots K N) (hN : N + 1 ≤ 90000) :
    Calls Tryz.prog 55 #[dptr bd] w (RowD base bd B y x tops slots K (N + 1) ((x.rp, x.rs) :: tops) w) :=
  (pages_ok h.st h.dir h.c hN).mono fun e w' hu => rowU_row h (by omega) hu
/-- What Get of a slot leaves. -/
def GetD (base bd : Nat) (B : Blk) (y : Cs) (x : DirD) (tops slots : List Rf) (K : Prop) (N : Nat) (p s : Int) (w : World) (e : Ending) (w' : World) : Prop :=
  e = .returned (.tuple #[ref2 p s, .int .i64 0]) ∧ FrD base w w' ∧ DirS w' base bd B y x tops slots K N
theorem DirS.get {w : World} {base bd : Nat} {B : Blk} {y : Cs} {x : DirD} {tops slots : List Rf} {K : Prop} {N : Nat} (h : DirS w base bd B y x tops slots K N) (k : Nat) (p s : Int) (hk : slots[k]? = some (p, s)) (hN : N + 2 ≤ 90000) :
    Calls Tryz.prog 54 #[dptr bd, .int .i64 k] w (GetD base bd B y x tops slots K (N + 2) p s w) := by
  have hl := (List.getElem?_eq_some_iff.1 hk).1
  rw [h.c.slen] at hl
  refine (get_ok h.st h.dir h.c k hl hN).mono ?_
  rintro e w' ⟨p', s', err, rfl, F, ⟨rfl, hs, hS⟩ | ⟨_, ha, _⟩⟩
  · rw [hk] at hs; cases hs
    refine ⟨rfl, ?_, { h with st := hS, dir := h.dir.frB F, gen := by have := h.gen; omega }⟩
    rw [← h.base_]; exact frB_frD F
  · cases ha
/-- What Make leaves. -/
def MakeD (base : Nat) (B : Blk) (K : Prop) (N : Nat) (r : Rf) (w : World) (e : Ending) (w' : World) : Prop :=
  ∃ bd y x tops, e = .returned (.tuple #[dptr bd, .int .i64 0]) ∧ FrD base w w' ∧ DirS w' base bd B y x tops [r] K N ∧ x.depth = 0
theorem open15 (y : Cs) (c : Cont) (D : Dev) (hD : D = Dev.fresh 200 96) (hy : y = openY small15 0 D c) : y.plan = small15 ∧ y.pages = 188 ∧ y.room = 77 ∧ y.places = 8 ∧ y.gen = 1 ∧ y.cont = c ∧ (∀ k, y.taken k = false) ∧ (∀ k, y.fresh k = false) ∧ (∀ k, y.dying k = false) ∧ ∀ k, y.dead k = false := by
  subst hy hD
  exact ⟨rfl, (show (layM small15).pages.toNat = 188 by decide +kernel), rfl, rfl, rfl, rfl, fun _ => rfl, fun _ => rfl, fun _ => rfl, fun _ => rfl⟩
theorem live_nil {y : Cs} (h : ∀ k, y.taken k = false) (hd : ∀ k, y.dying k = false) (he : ∀ k, y.dead k = false) : Live y [] 7 :=
  ⟨List.nodup_nil, fun k hk => (by cases hk), fun k hk => (by cases hk), fun k _ ht => (by rw [h] at ht; cases ht), ⟨[], fun k hk => (by rw [hd] at hk; cases hk), by simp⟩, ⟨[], fun k hk => (by rw [he] at hk; cases hk), by simp⟩⟩
theorem make15_ok {w : World} {B : Blk} {y : Cs} {K : Prop} {N : Nat} (h : StoreC w B y noP false N) (hp : y.plan = small15) (hpg : y.pages = 188) (hrm : y.room = 77) (hpl : y.places = 8) (hg : y.gen ≤ N + 1) (ht : ∀ k, y.taken k = false) (hd : ∀ k, y.dying k = false) (he : ∀ k, y.dead k = false) (r : Rf) (hr : rightR r) (hb : B.base ≤ w.heap.size) (hN : N + 2 ≤ 90000) :
    Calls Tryz.prog 47 #[B.ptr, ref2 r.1 r.2] w (MakeD B.base B K (N + 2) r w) := by
  have hfit : fitsM y.plan = true := by rw [hp]; exact small15_fits
  have hL := live_nil ht hd he
  refine (make_dir_ok (own := []) (M := 7) h hfit hL (by rw [hpg]; simp) (by rw [hpg]; omega) (by rw [hrm]; omega) r hr hN).mono ?_
  rintro e w' ⟨v, err, rfl, F, ⟨rfl, bd, m1, m2, rfl, hbd, hD, t1, t2, hS⟩ | ⟨_, ha, _⟩⟩
  · have hgl := gen_small h
    have hm1 : m1 < 188 := by rw [← hpg]; exact t1.1
    have hm2 : m2 < 188 := by rw [← hpg]; exact t2.1
    have hne : (m1 : Int) ≠ (m2 : Int) := fun e => by
      have : m1 = m2 := by omega
      subst this
      have := t2.2.1
      simp [Cs.new, upd] at this
    have hx : atZ y.plan = ⟨6, 5, 0, 0, 0⟩ := by
      have h6 : (layM small15).per.toNat = 6 := by decide +kernel
      rw [hp]
      unfold atZ
      rw [h6]
      rfl
    rw [hx] at hD
    have l1 := hL.new (bs := loadM [r]) h.apart t1
    have a1 : Apart (y.new m1 (loadM [r])).taken (y.new m1 (loadM [r])).fresh (y.new m1 (loadM [r])).dying (y.new m1 (loadM [r])).dead := h.apart.new t1.2.1
    have l2 := l1.new (bs := loadM [((m1 : Int), (y.gen : Int))]) a1 t2
    have e2 : (([] : List Nat) ++ [m1] ++ [m2]).Perm (pgs m2 [((m1 : Int), (y.gen : Int))] ++ []) := by
      simp only [pgs, List.map_cons, List.map_nil, List.nil_append, List.append_nil, Int.toNat_natCast, List.cons_append]
      exact List.Perm.swap _ _ _
    have f0 : AllFresh y [] := ⟨fun k hk => (by cases hk), hd⟩
    have f2 := allfresh_new (m := m2) (allfresh_new (m := m1) f0 (loadM [r])) (loadM [((m1 : Int), (y.gen : Int))])
    refine ⟨bd, _, _, [((m1 : Int), (y.gen : Int))], rfl, frB_frD F, ⟨hS, hD, ⟨?_, (by simp [DirD.slots]), (by simp [DirD.leaves, DirD.slots]), ⟨?_, ?_, ?_⟩, ⟨by simp, by simp⟩, ?_⟩, l2.perm e2, fun _ => ⟨fun k hk => f2.1 k (e2.mem_iff.2 hk), f2.2⟩, hp, hpg, hrm, hpl, rfl, by omega, ⟨rfl, rfl⟩, by simp only [Cs.new]; omega⟩, rfl⟩
    · refine dirZ_of (x := ⟨6, 5, 0, (m2 : Int), (y.gen : Int)⟩) (by simpa [Cs.new] using hfit) (by simp only [Cs.new]; rw [hp]; decide +kernel) (by simp only [Cs.new]; rw [hp]; rfl) (by simp only [Cs.new]; rw [hp, hrm]; rfl) (by simp) (by simp only [Cs.new]; omega)
    · intro q hq; simp at hq; subst hq; exact hr
    · intro q hq; simp at hq; subst hq; exact right_of (by omega) hgl
    · intro i q hi
      cases i with
      | zero =>
        simp at hi
        subst hi
        simp only [Cs.new]
        rw [updC_ne hne, updC_same]
        simp [chunk]
      | succ i => simp at hi
    · simp only [Cs.new]
      rw [updC_same]; simp
  · cases ha
end Go.Proofs.YtgdhaaokolfdoaaGreatDoor

/- The example of chapter 15 is awake. Conditions: the library's table lies as its text lays it. -/
namespace Go.Proofs.YtgdhaaokolfdoaaGreatDoor
open Go.RowKit Go.Sg Go.Sg.Bits Go.Sg.Clk CP SF
theorem made15 {w : World} {B : Blk} {K : Prop} (hS : StoreC w B (openY small15 0 (Dev.fresh 200 96) (fun _ => none)) noP false 0) (hb : B.base ≤ w.heap.size) (r : Rf) (hr : rightR r) : Calls Tryz.prog 47 #[B.ptr, ref2 r.1 r.2] w (MakeD B.base B K 2 r w) := by
  obtain ⟨a1, a2, a3, a4, a5, a6, a7, a8, a9, a10⟩ := open15 _ (fun _ => none) _ rfl rfl
  exact make15_ok hS a1 a2 a3 a4 (by omega) a7 a9 a10 r hr hb (by omega)
theorem sli_one (w : World) (z : Int) : SlI (w.alloc (.cells #[.int .i64 z] 3)) (some ⟨w.heap.size, 0, none⟩) 1 1 [z] := by
  have h := heap_alloc_new w (.cells #[.int .i64 z] 3)
  refine ⟨rfl, fun i k hk => ⟨_, _, rfl, lt_of_heap h, ?_⟩, fun e => by cases e⟩
  cases i with
  | zero => simp at hk; subst hk; rw [cell_of_heap h]; rfl
  | succ i => simp at hk
theorem sli_oneF {w W : World} {B : Blk} {z : Int} (F : FrB B (w.alloc (.cells #[.int .i64 z] 3)) W) : SlI W (some ⟨w.heap.size, 0, none⟩) 1 1 [z] := by
  have h := FrB.heap F (heap_alloc_new w (.cells #[.int .i64 z] 3)) (by decide)
  refine ⟨rfl, fun i k hk => ⟨_, _, rfl, lt_of_heap h, ?_⟩, fun e => by cases e⟩
  cases i with
  | zero => simp at hk; subst hk; rw [cell_of_heap h]; rfl
  | succ i => simp at hk
set_option maxHeartbeats 4000000 in
set_option maxRecDepth 100000 in
theorem awake15_ok (w : World) (hT : Tab w) : Calls Tryz.prog 52 #[] w fun e w' => e = .returned (.bool true) ∧ Fr (fun _ => False) w w' := by
  have hT0 := hT.lt
  have HT := hid hT
  have H20 := hid (flashnew_ok 200 96 (by omega) (by omega) w)
  clear hT
  go_enter Tryz.func52, Tryz.ntmps52
  go_wp2_with fail
  refine H20.out.mono ?_
  rintro e w1 ⟨rfl, hD, F1⟩
  have HD := hid hD
  have HF1 := hid F1
  clear hD F1
  go_wp2_with fail
  refine (small15_ok _).mono ?_
  rintro e w2 ⟨rfl, F2⟩
  have HF2 := hid (HF1.out.trans F2 (fun _ _ h => h))
  have HD2 := hid (HD.out.fr F2 (fun h => h) (fun h => h) (fun h => h) (fun _ _ _ _ _ h => h))
  clear F2
  go_wp2_with fail
  have H19 := format_c HD2.out HF2.out.size (HT.out.fr HF2.out (fun h => h)) hT0 3 2 4 5 8 0 small15_fits
  refine H19.mono ?_
  rintro e w3 ⟨B, hB, rfl, hS, F3⟩
  have HF3 := hid (HF2.out.trans F3 (fun _ _ h => h))
  have hbase : B.base = w.heap.size := hB.1
  have HB := hid hbase
  have HM := hid (made15 (K := True) hS (by rw [hbase]; exact HF3.out.size) (5, 0) ⟨by decide, by decide, by decide, by decide⟩)
  clear hB hS F3 H19 HD HD2 H20 HF2 HF1
  go_wp2_with fail
  refine HM.out.mono ?_
  rintro e w4 ⟨bd, y, x, tops, rfl, F4, hd4, hx0⟩
  have HG4 := hid (show Calls Tryz.prog 54 #[dptr bd, .int .i64 0] w4 (GetD B.base bd B y x tops [(5, 0)] True (2 + 2) 5 0 w4) from hd4.get 0 5 0 rfl (by omega))
  have HF4 := hid F4
  have HX0 := hid hx0
  clear F4 hd4 hx0 HM
  go_wp2_with fail
  refine HG4.out.mono ?_
  rintro e w5 ⟨rfl, F5, hd5⟩
  obtain ⟨w6, hw6⟩ : ∃ w6, w5.alloc (.cells #[.int .i64 5, .int .i64 0] 35) = w6 := ⟨_, rfl⟩
  have F56 : Fr (fun _ => False) w5 w6 := by rw [← hw6]; exact (Fr.refl _ _).alloc _
  have b6 : w6.heap[w5.heap.size]? = some (.cells #[.int .i64 5, .int .i64 0] 35) := by rw [← hw6]; exact heap_alloc_new _ _
  have hd6 := hd5.fr0 F56
  have HDb := hid (hd6.double (by rw [hd6.per.2, HX0.out]; decide) (by omega))
  have HW6 := hid hw6
  have HB6 := hid b6
  have HF6 := hid ((HF4.out.trans F5).trans (FrD.none F56))
  clear F5 hd5 hw6 F56 b6 hd6
  go_wp2_with fail
  rw [HW6.out]
  refine HDb.out.mono ?_
  rintro e w7 ⟨rfl, F7, y7, x7, t7, hd7, hx7⟩
  obtain ⟨w8, hw8⟩ : ∃ w8, w7.alloc (.cells #[.int .i64 1] 3) = w8 := ⟨_, rfl⟩
  have F78 : Fr (fun _ => False) w7 w8 := by rw [← hw8]; exact (Fr.refl _ _).alloc _
  have hx1 : x7.depth = 1 := by rw [hx7, HX0.out]
  have hSt := (hd7.fr0 F78).set (l := [1]) (r := (6, 0)) (sa := some ⟨w7.heap.size, 0, none⟩) (n := 1) (c := 1) (by rw [← hw8]; exact sli_one w7 1) (fun W F => by rw [← hw8] at F; exact sli_oneF F) (by omega) (by unfold DirD.slots; rw [hx1]; decide) ⟨by decide, by decide, by decide, by decide⟩ (by omega)
  have HSt := hid hSt
  have HW8 := hid hw8
  have HX1 := hid hx1
  have HB8 := hid (F78.heap (F7.heap HB6.out (by decide)) (fun h => h))
  have HF8 := hid ((HF6.out.trans F7).trans (FrD.none F78))
  clear F7 hd7 hx7 hw8 F78 hSt hx1
  go_wp2_with fail
  rw [HW8.out]
  refine HSt.out.mono ?_
  rintro e w9 ⟨rfl, F9, y9, x9, t9, hd9, hx9⟩
  have HG9 := hid (show Calls Tryz.prog 54 #[dptr bd, .int .i64 0] w9 (GetD B.base bd B y9 x9 t9 _ True (2 + 2 + 100 + 100 + 2) 5 0 w9) from hd9.get 0 5 0 rfl (by omega))
  have HB9 := hid (F9.heap HB8.out (by decide))
  have HF9 := hid (HF8.out.trans F9)
  have HX9 := hid (hx9.trans HX1.out)
  clear F9 hd9 hx9
  go_wp2_with fail
  refine HG9.out.mono ?_
  rintro e w10 ⟨rfl, F10, hd10⟩
  obtain ⟨w11, hw11⟩ : ∃ w11, w10.alloc (.cells #[.int .i64 5, .int .i64 0] 35) = w11 := ⟨_, rfl⟩
  have F11 : Fr (fun _ => False) w10 w11 := by rw [← hw11]; exact (Fr.refl _ _).alloc _
  have b11 : w11.heap[w10.heap.size]? = some (.cells #[.int .i64 5, .int .i64 0] 35) := by rw [← hw11]; exact heap_alloc_new _ _
  have HG11 := hid (show Calls Tryz.prog 54 #[dptr bd, .int .i64 1] w11 (GetD B.base bd B y9 x9 t9 _ True (2 + 2 + 100 + 100 + 2 + 2) 6 0 w11) from (hd10.fr0 F11).get 1 6 0 rfl (by omega))
  have HW11 := hid hw11
  have HB11 := hid (F11.heap (F10.heap HB9.out (by decide)) (fun h => h))
  have HC11 := hid b11
  have HF11 := hid ((HF9.out.trans F10).trans (FrD.none F11))
  clear F10 hd10 hw11 F11 b11
  go_wp2_with fail
  rw [HW11.out]
  refine HG11.out.mono ?_
  rintro e w12 ⟨rfl, F12, hd12⟩
  have q5 := F12.heap HB11.out (by decide)
  have q9 := F12.heap HC11.out (by decide)
  obtain ⟨w13, hw13⟩ : ∃ w13, w12.alloc (.cells #[.int .i64 6, .int .i64 0] 35) = w13 := ⟨_, rfl⟩
  have F13 : Fr (fun _ => False) w12 w13 := by rw [← hw13]; exact (Fr.refl _ _).alloc _
  have b13 : w13.heap[w12.heap.size]? = some (.cells #[.int .i64 6, .int .i64 0] 35) := by rw [← hw13]; exact heap_alloc_new _ _
  obtain ⟨c0, c1, cz, cl⟩ := cells2 (F13.heap q5 (fun h => h))
  obtain ⟨d0, d1, dz, dl⟩ := cells2 (F13.heap q9 (fun h => h))
  obtain ⟨e0, e1, ez, el⟩ := cells2 b13
  have hdep := depth_ok (hd12.fr0 F13).dir
  rw [HX9.out] at hdep
  have HDp := hid hdep
  have HW13 := hid hw13
  have HF13 := hid ((HF11.out.trans F12).trans (FrD.none F13))
  clear F12 hd12 q5 q9 hw13 F13 b13 hdep
  go_wp2_with (rw [HW13.out])
  refine HDp.out.mono ?_
  rintro e _ ⟨rfl, rfl⟩
  go_wp2_with fail
  go_ret
  exact ⟨rfl, HF13.out.fr0 (by rw [HB.out]; exact Nat.le_refl _) HF3.out⟩
end Go.Proofs.YtgdhaaokolfdoaaGreatDoor

/- DirNil: what the law computes. Conditions: the table of the bits lies in the world. -/
namespace Go.Proofs.YtgdhaaokolfdoaaGreatDoor
open Go.RowKit Go.Sg Go.Sg.Bits Go.Sg.Clk CP SF
theorem eql35 (p s q t : Int) (w : World) : (binOp .eql 35 (ref2 p s) (ref2 q t)).run Tryz.prog w = .ok (.bool (decide (p = q) && decide (s = t))) w := by
  have h : Tryz.prog.underlying 35 = _ := Tryz.underlying35
  go_simp
  by_cases h1 : p = q <;> by_cases h2 : s = t <;> simp [h1, h2]
theorem neq35 (p s q t : Int) (w : World) : (binOp .neq 35 (ref2 p s) (ref2 q t)).run Tryz.prog w = .ok (.bool (!(decide (p = q) && decide (s = t)))) w := by
  have h : Tryz.prog.underlying 35 = _ := Tryz.underlying35
  go_simp
  by_cases h1 : p = q <;> by_cases h2 : s = t <;> simp [h1, h2]
abbrev open15X : Sto := openX small15 0 (Dev.fresh 200 96)
/-- Nothing is read of a store that is new. -/
def BadR (B : Blk) (w : World) (e : Ending) (w' : World) : Prop := ∃ err : Int, e = .returned (.tuple #[.slice none 0 0, .int .i64 err]) ∧ (err = 2 ∨ err = 5) ∧ FrB B w w'
theorem read_bad {w : World} {B : Blk} (h : StoreAt w B open15X) (p s : Int) : Calls Tryz.prog 24 #[B.ptr, ref2 p s] w (BadR B w) := by
  by_cases hp : p < 0 ∨ (open15X.pages : Int) ≤ p
  · exact (read_range h p s hp).mono fun e w' ⟨he, F⟩ => ⟨2, he, .inl rfl, FrB.none F⟩
  · exact (read_zero h p s (by omega) (by omega) rfl rfl (fun y hy => by cases hy) (by show 0 ≤ 100000; omega) (by rfl)).mono fun e w' ⟨he, hS, F⟩ => ⟨5, he, .inr rfl, F⟩
theorem top_bad {w : World} {B : Blk} {bd : Nat} {x : DirD} (h : StoreAt w B open15X) (hD : DirAt w bd B.s x) : Calls Tryz.prog 120 #[dptr bd] w (BadR B w) := by
  have HRD := hid (fun W (F : Fr (fun _ => False) w W) => read_bad (h.fr0 F) x.rp x.rs)
  have HD := hid hD
  obtain ⟨c0, c1, c2, c3, c4, c5, cz, cl⟩ := cells6 hD
  clear h hD
  go_enter Tryz.func120, Tryz.ntmps120
  go_wp2_with fail
  go_region_held3 (fun W => W.cell? ⟨bd, 0, none⟩ = some (.pointer (some ⟨B.s, 0, none⟩)) ∧ W.cell? ⟨bd, 4, none⟩ = some (.int .i64 x.rp) ∧ W.cell? ⟨bd, 5, none⟩ = some (.int .i64 x.rs)) (go_keep)
    (first
      | (go_at_call 24; refine (HRD.out _ (by first | exact Fr.refl _ _ | exact (Fr.refl _ _).drew)).mono ?_; rintro e W2 ⟨err, rfl, he, F2⟩; replace F2 : FrB B w W2 := FrB.trans (FrB.none (by first | exact Fr.refl _ _ | exact (Fr.refl _ _).drew)) F2; obtain ⟨c0, c1, c2, c3, c4, c5, cz, cl⟩ := cells6 (HD.out.frB F2); have H2 := hid F2; clear F2))
  all_goals (
    have hne : ¬ err = 0 := by omega
    go_wp2_with fail
    go_ret2
    exact ⟨_, rfl, he, H2.out⟩)
def BadG (B : Blk) (w : World) (e : Ending) (w' : World) : Prop := ∃ err : Int, e = .returned (.tuple #[ref2 0 0, .int .i64 err]) ∧ (err = 2 ∨ err = 5) ∧ FrB B w w'
set_option maxHeartbeats 1000000 in
theorem get_bad {w : World} {B : Blk} {bd : Nat} {x : DirD} (h : StoreAt w B open15X) (hD : DirAt w bd B.s x) (hd : x.depth ≤ 20) : Calls Tryz.prog 54 #[dptr bd, .int .i64 0] w (BadG B w) := by
  obtain ⟨w1, hw1⟩ : ∃ w1, w.alloc (.cells #[.int .i64 0, .int .i64 0] 35) = w1 := ⟨_, rfl⟩
  have F1 : Fr (fun _ => False) w w1 := by rw [← hw1]; exact (Fr.refl _ _).alloc _
  have HSl := hid (slots_ok (F1.heap hD (fun h => h) : DirAt w1 bd B.s x) hd)
  have HTop := hid (fun W (F : Fr (fun _ => False) w W) => top_bad (h.fr0 F) (F.heap hD (fun h => h) : DirAt W bd B.s x))
  have HF1 := hid F1
  have HW1 := hid hw1
  have hb1 : w1.heap[w.heap.size]? = some (.cells #[.int .i64 0, .int .i64 0] 35) := by rw [← hw1]; exact heap_alloc_new _ _
  have HB1 := hid hb1
  have hs0 : ¬ x.slots = 0 := by
    have := (slots_small hd).2
    omega
  clear h hD F1 hw1 hb1
  go_enter Tryz.func54, Tryz.ntmps54
  go_wp2_with (rw [HW1.out]; go_at_call 125; refine HSl.out.mono ?_)
  rintro e W2 ⟨rfl, m, rfl⟩
  have F2 : Fr (fun _ => False) w (w1.drewN m) := HF1.out.drewN m
  have HT2 := hid (HTop.out _ F2)
  have HF2 := hid F2
  clear F2 HTop
  go_wp2_with (go_at_call 120; refine HT2.out.mono ?_)
  rintro e W3 ⟨err, rfl, he, F3⟩
  have hb3 := FrB.heap F3 (show (w1.drewN m).heap[w.heap.size]? = _ from HB1.out) (by decide)
  obtain ⟨e0, e1, ez, el⟩ := cells2 hb3
  have hne : ¬ err = 0 := by omega
  have HF3 := hid (FrB.trans (FrB.none HF2.out) F3)
  clear F3 hb3
  go_wp2_with fail
  refine bodyPost_ret (v := .tuple #[ref2 0 0, .int .i64 err]) (by simp [results, go_sem, *]) rfl ?_
  exact ⟨err, rfl, he, box35_fr HF3.out _ _⟩
def OpenAny (B : Blk) (depth p s : Int) (w : World) (e : Ending) (w' : World) : Prop :=
  ∃ o err, e = .returned (.tuple #[o, .int .i64 err]) ∧ Fr (fun _ => False) w w' ∧ ((¬ (0 ≤ depth ∧ depth ≤ 5) ∧ o = .pointer none ∧ err = 1) ∨ ((0 ≤ depth ∧ depth ≤ 5) ∧ err = 0 ∧ ∃ bd d : Nat, depth = d ∧ o = dptr bd ∧ DirAt w' bd B.s { atZ small15 with depth := d, rp := p, rs := s }))
theorem open_any {w : World} {B : Blk} (h : StoreC w B (openY small15 0 (Dev.fresh 200 96) (fun _ => none)) noP false 0) (depth p s : Int) : Calls Tryz.prog 53 #[B.ptr, .int .i64 depth, ref2 p s] w (OpenAny B depth p s w) := by
  by_cases hd : 0 ≤ depth ∧ depth ≤ 5
  · obtain ⟨d, rfl⟩ := Int.eq_ofNat_of_zero_le hd.1
    exact (open_dir_ok h small15_fits d p s hd.2).mono fun e w' ⟨bd, he, hD, _, F⟩ => ⟨_, _, he, F, .inr ⟨hd, rfl, bd, d, rfl, rfl, hD⟩⟩
  · exact (open_far h depth p s (by show depth < 0 ∨ (5 : Int) < depth; omega)).mono fun e w' ⟨he, F⟩ => ⟨_, _, he, F, .inl ⟨hd, rfl, rfl⟩⟩
set_option maxHeartbeats 8000000 in
set_option maxRecDepth 100000 in
theorem dirNil_in (depth p s : Int) (w : World) (hT : Tab w) : Calls Tryz.prog 10 #[.int .i64 depth, ref2 p s] w fun e w' => e = .returned (.bool true) ∧ Fr (fun _ => False) w w' := by
  have hT0 := hT.lt
  obtain ⟨w0, hw0⟩ : ∃ w0, w.alloc (.cells #[.int .i64 p, .int .i64 s] 88) = w0 := ⟨_, rfl⟩
  have F0 : Fr (fun _ => False) w w0 := by rw [← hw0]; exact (Fr.refl _ _).alloc _
  have b0 : w0.heap[w.heap.size]? = some (.cells #[.int .i64 p, .int .i64 s] 88) := by rw [← hw0]; exact heap_alloc_new _ _
  have hT1 : 0 < w0.heap.size := Nat.lt_of_lt_of_le hT0 F0.size
  have H20 := hid (flashnew_ok 200 96 (by omega) (by omega) w0)
  have HT := hid (hT.fr F0 (fun h => h))
  have HF0 := hid F0
  have HW0 := hid hw0
  have HB0 := hid b0
  clear hT hw0 F0 b0
  go_enter Tryz.func10, Tryz.ntmps10
  go_wp2_with fail
  rw [HW0.out]
  refine H20.out.mono ?_
  rintro e w1 ⟨rfl, hD, F1⟩
  have HD := hid hD
  have HF1 := hid F1
  clear hD F1
  go_wp2_with fail
  refine (small15_ok _).mono ?_
  rintro e w2 ⟨rfl, F2⟩
  have HF2 := hid (HF1.out.trans F2 (fun _ _ h => h))
  have HD2 := hid (HD.out.fr F2 (fun h => h) (fun h => h) (fun h => h) (fun _ _ _ _ _ h => h))
  clear F2
  go_wp2_with fail
  have H19 : Calls Tryz.prog 19 #[.pointer (some ⟨w0.heap.size + 2, 0, none⟩), small15.val] w2 (OpenPost w0.heap.size (w0.heap.size + 2) w0.heap.size (w0.heap.size + 1) small15 0 (Dev.fresh 200 96) w2) :=
    format_ok HD2.out HF2.out.size 3 2 4 5 8 0 small15_fits
  refine H19.mono ?_
  rintro e w3 ⟨B, hB, rfl, hS, F3⟩
  have HF3 := hid (HF2.out.trans F3 (fun _ _ h => h))
  have hbase : B.base = w0.heap.size := hB.1
  have HB := hid hbase
  have HS := hid hS
  have HC := hid (open_is hS (HT.out.fr HF3.out (fun h => h)) (by omega) (a := false) (N := 0) (fresh_ok 200 96) rfl (by omega) (fun _ => none) (fun k st bs hk => by cases hk))
  clear hB hS F3 H19 HD HD2 H20 HF2 HF1 hbase
  go_wp2_with fail
  refine (make_nil 0 0 _).mono ?_
  rintro e w4 ⟨rfl, F4⟩
  have HF4 := hid F4
  obtain ⟨c0, c1, cz, cl⟩ := cells2 ((HF3.out.trans F4 (fun _ _ h => h)).heap HB0.out (fun h => h))
  clear F4
  go_wp2_with fail
  refine (ref15_ok p s _).mono ?_
  rintro e w5 ⟨rfl, F5⟩
  have HF5 := hid (HF4.out.trans F5 (fun _ _ h => h))
  clear F5 c0 c1 cz cl
  go_wp2_with fail
  refine (open_dnil depth p s _).mono ?_
  rintro e w6 ⟨rfl, F6⟩
  have HF6 := hid (HF5.out.trans F6 (fun _ _ h => h))
  obtain ⟨c0, c1, cz, cl⟩ := cells2 ((HF3.out.trans HF6.out (fun _ _ h => h)).heap HB0.out (fun h => h))
  clear F6
  go_wp2_with fail
  refine (ref15_ok p s _).mono ?_
  rintro e w7 ⟨rfl, F7⟩
  have HF7 := hid (HF6.out.trans F7 (fun _ _ h => h))
  clear F7 c0 c1 cz cl
  have HOp := hid (open_any (HC.out.fr0 HF7.out) depth p s)
  go_wp2_with fail
  refine HOp.out.mono ?_
  rintro e w8 ⟨o, err, rfl, F8, hO⟩
  have HF8 := hid (HF7.out.trans F8 (fun _ _ h => h))
  have HO := hid hO
  clear F8 hO HOp
  go_wp2_with fail
  refine (dget_nil depth _).mono ?_
  rintro e w9 ⟨rfl, F9⟩
  have HF9 := hid (HF8.out.trans F9 (fun _ _ h => h))
  have hs89 : w8.heap.size ≤ w9.heap.size := F9.size
  have HF89 := hid F9
  clear F9
  go_wp2_with fail
  obtain ⟨w10, hw10⟩ : ∃ w10, w9.alloc (.cells #[.int .i64 0, .int .i64 0] 35) = w10 := ⟨_, rfl⟩
  have F10 : Fr (fun _ => False) w9 w10 := by rw [← hw10]; exact (Fr.refl _ _).alloc _
  have HF10 := hid (HF9.out.trans F10 (fun _ _ h => h))
  have HF810 := hid (HF89.out.trans F10 (fun _ _ h => h))
  rw [hw10]
  clear hw10 F10
  refine (dall_nil _).mono ?_
  rintro e _ ⟨rfl, rfl⟩
  go_wp2_with fail
  refine (dpages_nil _).mono ?_
  rintro e _ ⟨rfl, rfl⟩
  go_wp2_with fail
  refine (set_nil none 0 0 0 0 _).mono ?_
  rintro e w11 ⟨rfl, F11⟩
  have HF11 := hid (HF10.out.trans F11 (fun _ _ h => h))
  have HF811 := hid (HF810.out.trans F11 (fun _ _ h => h))
  clear F11
  go_wp2_with fail
  refine (double_nil _).mono ?_
  rintro e w12 ⟨rfl, F12⟩
  have HF12 := hid (HF11.out.trans F12 (fun _ _ h => h))
  have HF812 := hid (HF811.out.trans F12 (fun _ _ h => h))
  clear F12
  go_wp2_with fail
  refine (depth_nil _).mono ?_
  rintro e _ ⟨rfl, rfl⟩
  go_wp2_with fail
  refine (root_nil _).mono ?_
  rintro e w13 ⟨rfl, F13⟩
  have HF13 := hid (HF12.out.trans F13 (fun _ _ h => h))
  have HF813 := hid (HF812.out.trans F13 (fun _ _ h => h))
  clear F13
  have hn35 : ∀ W, (binOp .neq 35 (.agg #[.int .i64 0, .int .i64 0]) (.agg #[.int .i64 0, .int .i64 0])).run Tryz.prog W = .ok (.bool false) W := fun W => neq35 0 0 0 0 W
  have HAw := hid (fun W (F : Fr (fun _ => False) w8 W) => awake15_ok W (HT.out.fr ((HF3.out.trans HF8.out (fun _ _ h => h)).trans F (fun _ _ h => h)) (fun h => h)))
  have HE := hid (fun W (F : Fr (fun _ => False) w8 W) => show Fr (fun _ => False) w W from ((HF0.out.trans HF3.out (fun _ _ h => h)).trans HF8.out (fun _ _ h => h)).trans F (fun _ _ h => h))
  rcases HO.out with ⟨hd, rfl, rfl⟩ | ⟨hd, rfl, bd, d, rfl, rfl, hD⟩
  · by_cases h0 : depth < 0
    · have d0 : decide (depth < 0) = true := by simp; omega
      go_wp2_with fail
      refine (HAw.out _ HF813.out).mono ?_
      rintro e w14 ⟨rfl, F14⟩
      go_wp2_with fail
      go_ret
      exact ⟨rfl, HE.out _ (HF813.out.trans F14 (fun _ _ h => h))⟩
    · have d0 : decide (depth < 0) = false := by simp; omega
      have d1 : decide (5 < depth) = true := by simp; omega
      go_wp2_with fail
      refine (HAw.out _ HF813.out).mono ?_
      rintro e w14 ⟨rfl, F14⟩
      go_wp2_with fail
      go_ret
      exact ⟨rfl, HE.out _ (HF813.out.trans F14 (fun _ _ h => h))⟩
  · have d0 : decide ((d : Int) < 0) = false := by simp
    have d1 : decide (5 < (d : Int)) = false := by simp; omega
    have hD13 := HF813.out.heap hD (fun h => h)
    have HG := hid (get_bad (HS.out.fr0 (HF8.out.trans HF813.out (fun _ _ h => h))) hD13 (by simp only; omega))
    have HD13 := hid hD13
    clear hD hD13
    go_wp2_with fail
    refine HG.out.mono ?_
    rintro e w14 ⟨err, rfl, he, F14⟩
    rcases he with rfl | rfl
    all_goals (
      obtain ⟨w15, hw15⟩ : ∃ w15, w14.alloc (.cells #[.int .i64 0, .int .i64 0] 35) = w15 := ⟨_, rfl⟩
      have F15 : FrB B w13 w15 := FrB.trans F14 (FrB.none (by rw [← hw15]; exact (Fr.refl _ _).alloc _))
      have hD15 : DirAt w15 bd B.s { atZ small15 with depth := d, rp := p, rs := s } := DirAt.frB HD13.out F15
      have hb15 : w15.heap[w.heap.size]? = some (.cells #[.int .i64 p, .int .i64 s] 88) := F15.heap ((HF3.out.trans HF13.out (fun _ _ h => h)).heap HB0.out (fun h => h)) (by decide)
      have HBx := hid (fun W (F : Fr (fun _ => False) w15 W) => cells2 (F.heap hb15 (fun h => h)))
      have HRt := hid (fun W (F : Fr (fun _ => False) w15 W) => show Calls Tryz.prog 57 #[dptr bd] W (RefP2 p s W) from root_ok (F.heap hD15 (fun h => h)))
      have HDp := hid (fun W (F : Fr (fun _ => False) w15 W) => show Calls Tryz.prog 56 #[dptr bd] W (IntP d W) from depth_ok (F.heap hD15 (fun h => h)))
      have hF015 : Fr (fun _ => False) w0 w15 := (HF3.out.trans HF13.out (fun _ _ h => h)).trans F15 (fun b hb hs => by have := HB.out; omega)
      have HA15 := hid (fun W (F : Fr (fun _ => False) w15 W) => awake15_ok W (HT.out.fr (hF015.trans F (fun _ _ h => h)) (fun h => h)))
      have HE15 := hid (fun W (F : Fr (fun _ => False) w15 W) => show Fr (fun _ => False) w W from (HF0.out.trans hF015 (fun _ _ h => h)).trans F (fun _ _ h => h))
      obtain ⟨c0, c1, cz, cl⟩ := HBx.out _ (Fr.refl _ _)
      have he35 : ∀ W, (binOp .eql 35 (ref2 p s) (ref2 p s)).run Tryz.prog W = .ok (.bool true) W := fun W => by rw [eql35]; simp
      have FG : Fr (fun _ => False) w15 w15.drew := (Fr.refl _ _).drew
      have HW15 := hid hw15
      clear F14 F15 hD15 hb15 hF015 hw15 HE HAw
      go_wp2_with fail
      rw [HW15.out]
      go_region_held3 (fun W => W.cell? ⟨w.heap.size, 0, none⟩ = some (.int .i64 p) ∧ W.cell? ⟨w.heap.size, 1, none⟩ = some (.int .i64 s)) (go_keep) (first
        | (go_at_call 57; refine (HRt.out _ FG).mono ?_; rintro _ V1 ⟨rfl, G1⟩; have FG := FG.trans G1 (fun _ _ h => h); obtain ⟨c0, c1, cz, cl⟩ := HBx.out _ FG; clear G1)
        | (go_at_call 51; refine (ref15_ok p s _).mono ?_; rintro _ V1 ⟨rfl, G1⟩; have FG := FG.trans G1 (fun _ _ h => h); obtain ⟨c0, c1, cz, cl⟩ := HBx.out _ FG; clear G1)
        | (go_at_call 56; refine (HDp.out _ FG).mono ?_; rintro _ _ ⟨rfl, rfl⟩)
        | (go_at_call 52; refine (HA15.out _ FG).mono ?_; rintro _ V1 ⟨rfl, G1⟩; have FG := FG.trans G1 (fun _ _ h => h); obtain ⟨c0, c1, cz, cl⟩ := HBx.out _ FG; clear G1))
      all_goals (go_wp2_with fail)
      all_goals go_ret
      all_goals exact ⟨rfl, HE15.out _ FG⟩)
end Go.Proofs.YtgdhaaokolfdoaaGreatDoor

/- An argument that is a slice of bytes, opened. Conditions: none. -/
namespace Go.Proofs.YtgdhaaokolfdoaaGreatDoor
open Go.ChangeShapes Go.WideShapes Go.RowKit Go.Sg
theorem cells5 : Tryz.prog.cellsOf 5 = 1 := by kernel_rfl
set_option maxRecDepth 100000 in
theorem open_byt {H : Type} {enc : TypeId × Value → H} {W : World} {base b0 : Nat} {spare : Nat → Bool} {held : Bool} {v : Value} {d : DataW H} {p : List MemPlace}
    (hv : Value.okWide Tryz.prog W .any base 22 v) (h : DataW.Trod enc Tryz.prog W b0 spare held 22 v d p) :
    ∃ (a : Option Addr) (n c : Nat) (bs : List Int), v = .slice a n c ∧ SlB W a n c bs ∧ (∀ x ∈ bs, 0 ≤ x ∧ x < 256) ∧ n ≤ c ∧ ∀ b off, a = some ⟨b, off, none⟩ → b < W.heap.size := by
  obtain ⟨a, n, c, rfl⟩ := okWide_slice Tryz.underlying22 hv
  simp only [Value.okWide, Tryz.underlying22, Cell.okWide, Cell.ok] at hv
  obtain ⟨fuel, hf⟩ := h
  rcases open_ints Tryz.underlying22 Tryz.underlying5 cells5 hf with ⟨hcs, hx⟩ | ⟨a', len, cap, zs, hcs, _, hl, hm, hz, hx, hcell, hwz⟩
  · obtain ⟨rfl, rfl, rfl⟩ : a = none ∧ n = 0 ∧ c = 0 := by simpa [Value.cells] using hcs
    exact ⟨none, 0, 0, [], rfl, (ByV.nil W).slb, (fun x hx => by cases hx), Nat.le_refl _, (fun b off e => by cases e)⟩
  · obtain ⟨rfl, rfl, rfl⟩ : a = some a' ∧ n = len ∧ c = cap := by simpa [Value.cells] using hcs
    obtain ⟨b, off, spot⟩ := a'
    simp only at hv
    obtain ⟨_, _, _, hs, row, cells, hsh, _⟩ := hv
    simp only at hs hsh
    subst hs
    have hb : b < W.heap.size := by
      unfold World.shape? at hsh
      cases hh : W.heap[b]? with
      | none => rw [hh] at hsh; cases hsh
      | some o => exact lt_of_heap hh
    have hzl : n ≤ zs.length := by rw [hz]; split <;> omega
    refine ⟨some ⟨b, off, none⟩, n, c, zs.take n, rfl, ⟨⟨by rw [List.length_take]; omega, fun i x hx => ⟨b, off, rfl, hb, ?_⟩⟩, .inr ⟨_, rfl⟩⟩, fun x hx => ?_, hl, fun b' off' e => by cases e; exact hb⟩
    · rw [List.getElem?_take] at hx
      split at hx
      · rename_i hi
        have := hcell i (by omega)
        have e : zs.getD i 0 = x := by rw [List.getD_eq_getElem?_getD, hx]; rfl
        rw [e] at this
        rw [← this]
        congr 1
        unfold Addr.add
        split <;> simp_all
      · cases hx
    · have := hwz x (List.mem_of_mem_take hx)
      simp [Lit.wf, IntKind.min, IntKind.max, IntKind.bits, IntKind.signed] at this
      omega
end Go.Proofs.YtgdhaaokolfdoaaGreatDoor

/- Arguments of chapter 15's laws, opened: a reference, a slice of acts. Conditions: none. -/
namespace Go.Proofs.YtgdhaaokolfdoaaGreatDoor
open Go.ChangeShapes Go.WideShapes Go.RowKit Go.Sg Go.Deep Go.Joins
section
variable {H : Type} {enc : TypeId × Value → H} {W : World}
theorem cells88 : Tryz.prog.cellsOf 88 = 2 := by kernel_rfl
theorem cells90 : Tryz.prog.cellsOf 90 = 4 := by kernel_rfl
theorem cells52 : Tryz.prog.cellsOf 52 = 1 := by kernel_rfl
theorem cells3d : Tryz.prog.cellsOf 3 = 1 := by kernel_rfl
theorem ref_fields : ∃ f0 f1 : Field, Tryz.prog.underlying 88 = some (.struct #[f0, f1]) ∧ (f0.offset = 0 ∧ f0.type = 3) ∧ (f1.offset = 1 ∧ f1.type = 3) := ⟨_, _, Tryz.underlying88, ⟨rfl, rfl⟩, ⟨rfl, rfl⟩⟩
theorem actd_fields : ∃ f0 f1 f2 : Field, Tryz.prog.underlying 90 = some (.struct #[f0, f1, f2]) ∧ (f0.offset = 0 ∧ f0.type = 3) ∧ (f1.offset = 1 ∧ f1.type = 52) ∧ (f2.offset = 2 ∧ f2.type = 88) := ⟨_, _, _, Tryz.underlying90, ⟨rfl, rfl⟩, ⟨rfl, rfl⟩, ⟨rfl, rfl⟩⟩
set_option maxRecDepth 100000 in
theorem ref_of_trod {fuel : Nat} {cs : List Value} {x : DataW H × List MemPlace} (h : DataW.trod enc Tryz.prog W 0 (fun _ => true) true fuel 88 cs = some x) :
    ∃ p s : Int, cs = [.int .i64 p, .int .i64 s] ∧ (Lit.int .i64 p).wf = true ∧ (Lit.int .i64 s).wf = true := by
  obtain ⟨f0, f1, he, h0, h1⟩ := ref_fields
  obtain ⟨ys, n', _, _, hl, hyl, hg⟩ := DataW.trod_struct he h
  rw [cells88] at hl
  have one : ∀ (j : Nat) (f : Field), (#[f0, f1] : Array Field)[j]? = some f → f.offset = j → f.type = 3 → j < 2 → ∃ z, cs[j]? = some (.int .i64 z) ∧ (Lit.int .i64 z).wf = true := by
    intro j f hj ho hty hj3
    have h3 := hg j f hj
    have hys : ys[j]? = some (ys[j]'(by rw [hyl]; exact hj3)) := List.getElem?_eq_getElem _
    rw [hys, hty] at h3
    obtain ⟨z, hz, _, hw⟩ := DataW.trod_int Tryz.underlying3 h3
    refine ⟨z, ?_, hw⟩
    have h4 : ((cs.drop f.offset).take (Tryz.prog.cellsOf 3))[0]? = some (.int .i64 z) := by rw [hz]; rfl
    rw [List.getElem?_take] at h4
    split at h4
    · simpa [ho] using h4
    · cases h4
  obtain ⟨z0, e0, w0⟩ := one 0 f0 rfl h0.1 h0.2 (by omega)
  obtain ⟨z1, e1, w1⟩ := one 1 f1 rfl h1.1 h1.2 (by omega)
  refine ⟨z0, z1, ?_, w0, w1⟩
  match cs, hl with
  | [c0, c1], _ =>
    simp at e0 e1
    subst e0 e1
    rfl
set_option maxRecDepth 100000 in
theorem open_ref15 {base : Nat} {v : Value} {d : DataW H} {p : List MemPlace} (hv : Value.okWide Tryz.prog W .any base 88 v) (h : DataW.Trod enc Tryz.prog W 0 (fun _ => true) true 88 v d p) :
    ∃ p s : Int, v = .agg #[.int .i64 p, .int .i64 s] ∧ (Lit.int .i64 p).wf = true ∧ (Lit.int .i64 s).wf = true := by
  obtain ⟨cs, rfl, hsz⟩ := okWide_struct Tryz.underlying88 hv
  obtain ⟨fuel, hf⟩ := h
  obtain ⟨p, s, hcs, w0, w1⟩ := ref_of_trod hf
  refine ⟨p, s, ?_, w0, w1⟩
  obtain ⟨l⟩ := cs
  simp [Value.cells] at hcs
  subst hcs
  rfl
set_option maxRecDepth 100000 in
theorem ints_of_trod {fuel : Nat} {cs : List Value} {x : DataW H × List MemPlace} (h : DataW.trod enc Tryz.prog W 0 (fun _ => true) true fuel 52 cs = some x) :
    ∃ (a : Option Addr) (n c : Nat) (l : List Int), cs = [.slice a n c] ∧ SlI W a n c l ∧ (∀ x ∈ l, (Lit.int .i64 x).wf = true) := by
  rcases open_ints Tryz.underlying52 Tryz.underlying3 cells3d h with ⟨hcs, hx⟩ | ⟨a', len, cap, zs, hcs, _, hl, hm, hz, hx, hcell, hwz⟩
  · exact ⟨none, 0, 0, [], hcs, ⟨rfl, fun i k hk => by simp at hk, fun _ => ⟨rfl, rfl⟩⟩, (fun x hx => by cases hx)⟩
  · simp only [if_true] at hz
    have hat : ∀ i, i < len → a' = ⟨a'.block, a'.off, none⟩ ∧ a'.block < W.heap.size ∧ W.cell? ⟨a'.block, a'.off + i, none⟩ = some (.int .i64 (zs.getD i 0)) := fun i hi => by
      have h0 := hcell 0 (by omega)
      have hs0 : a'.add 0 = a' := by cases a' with | mk b o s => cases s <;> simp [Addr.add]
      rw [hs0] at h0
      have hs := spot_none h0
      have hi' := hcell i (by omega)
      rw [hs, Sg.add_plain] at hi'
      exact ⟨hs, World.block_lt_of_cell? _ _ h0, hi'⟩
    refine ⟨some a', len, cap, zs.take len, hcs, ⟨by rw [List.length_take]; omega, fun i x hx => ?_, fun e => by cases e⟩, fun x hx => hwz x (List.mem_of_mem_take hx)⟩
    rw [List.getElem?_take] at hx
    split at hx
    · rename_i hi
      obtain ⟨h1, h2, h3⟩ := hat i hi
      refine ⟨a'.block, a'.off, by rw [← h1], h2, ?_⟩
      rw [h3, List.getD_eq_getElem?_getD, hx]; rfl
    · cases hx
instance : Inhabited ActD := ⟨⟨0, none, 0, 0, [], 0, 0⟩⟩
set_option maxRecDepth 100000 in
theorem open_actd {base : Nat} {v : Value} {d : DataW H} {p : List MemPlace} (hv : Value.okWide Tryz.prog W .any base 81 v) (h : DataW.Trod enc Tryz.prog W 0 (fun _ => true) true 81 v d p) :
    ∃ (a : Option Addr) (n c : Nat) (l : List ActD), v = .slice a n c ∧ l.length = n ∧ ActDR W a l := by
  obtain ⟨a, len, cap, rfl⟩ := okWide_slice Tryz.underlying81 hv
  obtain ⟨f0, f1, f2, he, h0, h1, h2⟩ := actd_fields
  obtain ⟨fuel, hf⟩ := h
  rcases open_slice Tryz.underlying81 hf with ⟨hcs, _⟩ | ⟨a', len', cap', m, n, D, Pl, hcs, _, hl, hm, hmm, _, hx⟩
  · simp [Value.cells] at hcs
    obtain ⟨rfl, rfl, rfl⟩ := hcs
    exact ⟨none, 0, 0, [], rfl, rfl, ⟨fun i x hx => by simp at hx⟩⟩
  · simp [Value.cells] at hcs
    obtain ⟨rfl, rfl, rfl⟩ := hcs
    simp at hmm
    subst hmm
    have key : ∀ i, i < len → ∃ x : ActD, W.cell? (a'.add (i * 4)) = some (.int .i64 x.kind) ∧ W.cell? ((a'.add (i * 4)).add 1) = some (.slice x.sa x.sn x.sc) ∧ W.cell? ((a'.add (i * 4)).add 2) = some (.int .i64 x.rp) ∧ W.cell? ((a'.add (i * 4)).add 3) = some (.int .i64 x.rs) ∧ ActDOk W x := by
      intro i hil
      obtain ⟨cs', hc, ht'⟩ := hx i (by omega)
      rw [cells90] at hc
      obtain ⟨_, hcl, hat⟩ := World.cells?_some hc
      obtain ⟨ys, n', _, _, _, hyl, hg⟩ := DataW.trod_struct he ht'
      obtain ⟨z0, e0, w0⟩ : ∃ z, cs'[0]? = some (.int .i64 z) ∧ (Lit.int .i64 z).wf = true := by
        have h3 := hg 0 f0 rfl
        have hys : ys[0]? = some (ys[0]'(by rw [hyl]; exact (show 0 < 3 by decide))) := List.getElem?_eq_getElem _
        rw [hys, h0.2] at h3
        obtain ⟨z, hz, _, hw⟩ := DataW.trod_int Tryz.underlying3 h3
        refine ⟨z, ?_, hw⟩
        have h4 : ((cs'.drop f0.offset).take (Tryz.prog.cellsOf 3))[0]? = some (.int .i64 z) := by rw [hz]; rfl
        rw [List.getElem?_take] at h4
        split at h4
        · simpa [h0.1] using h4
        · cases h4
      obtain ⟨sa, sn, sc, sl, e1, hsl, hwl⟩ : ∃ (a : Option Addr) (n c : Nat) (l : List Int), cs'[1]? = some (.slice a n c) ∧ SlI W a n c l ∧ (∀ x ∈ l, (Lit.int .i64 x).wf = true) := by
        have h3 := hg 1 f1 rfl
        have hys : ys[1]? = some (ys[1]'(by rw [hyl]; exact (show 1 < 3 by decide))) := List.getElem?_eq_getElem _
        rw [hys, h1.2] at h3
        obtain ⟨a, n, c, l, hz, k1, k2⟩ := ints_of_trod h3
        refine ⟨a, n, c, l, ?_, k1, k2⟩
        have h4 : ((cs'.drop f1.offset).take (Tryz.prog.cellsOf 52))[0]? = some (.slice a n c) := by rw [hz]; rfl
        rw [List.getElem?_take] at h4
        split at h4
        · simpa [h1.1] using h4
        · cases h4
      obtain ⟨rp, rs, e2, e3, w2, w3⟩ : ∃ p s : Int, cs'[2]? = some (.int .i64 p) ∧ cs'[3]? = some (.int .i64 s) ∧ (Lit.int .i64 p).wf = true ∧ (Lit.int .i64 s).wf = true := by
        have h3 := hg 2 f2 rfl
        have hys : ys[2]? = some (ys[2]'(by rw [hyl]; exact (show 2 < 3 by decide))) := List.getElem?_eq_getElem _
        rw [hys, h2.2] at h3
        obtain ⟨p, s, hz, k1, k2⟩ := ref_of_trod h3
        have h4 : ((cs'.drop f2.offset).take (Tryz.prog.cellsOf 88))[0]? = some (.int .i64 p) := by rw [hz]; rfl
        have h5 : ((cs'.drop f2.offset).take (Tryz.prog.cellsOf 88))[1]? = some (.int .i64 s) := by rw [hz]; rfl
        rw [List.getElem?_take] at h4 h5
        refine ⟨p, s, ?_, ?_, k1, k2⟩
        · split at h4
          · simpa [h2.1] using h4
          · cases h4
        · split at h5
          · simpa [h2.1] using h5
          · cases h5
      have q0 := (hat 0 (by omega)).trans e0
      have q1 := (hat 1 (by omega)).trans e1
      have q2 := (hat 2 (by omega)).trans e2
      have q3 := (hat 3 (by omega)).trans e3
      exact ⟨⟨z0, sa, sn, sc, sl, rp, rs⟩, by simpa [Addr.add] using q0, q1, q2, q3, ⟨w0, w2, w3, hwl, hsl⟩⟩
    obtain ⟨V, hV⟩ := choose_lt (α := ActD) key
    refine ⟨_, len, _, (List.range len).map V, rfl, by simp, ⟨fun i x hx => ?_⟩⟩
    have hil : i < len := by
      have := (List.getElem?_eq_some_iff.1 hx).1
      simpa using this
    simp [hil] at hx
    subst hx
    obtain ⟨k0, k1, k2, k3, kw⟩ := hV i hil
    have hs0 := (hV 0 (by omega)).1
    simp [Addr.add] at hs0
    have hs := spot_none hs0
    obtain ⟨b, off, hab⟩ : ∃ b off, a' = ⟨b, off, none⟩ := ⟨_, _, hs⟩
    subst hab
    rw [Sg.add_plain] at k0 k1 k2 k3
    rw [Sg.add_plain] at k1 k2 k3
    exact ⟨b, off, rfl, World.block_lt_of_cell? _ _ k0, k0, k1, k2, k3, kw⟩
end
end Go.Proofs.YtgdhaaokolfdoaaGreatDoor
