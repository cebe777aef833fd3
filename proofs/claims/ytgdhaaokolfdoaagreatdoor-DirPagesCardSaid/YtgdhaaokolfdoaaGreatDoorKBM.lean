/- A pack of texts: PD, HA, SYN, SYC, APX, D15, S15, T15, PL15. Conditions: those that each text names. -/
import Derived.Test.YtgdhaaokolfdoaaGreatDoorKBL
import Derived.Test.YtgdhaaokolfdoaaGreatDoorKAZ
import Derived.Test.YtgdhaaokolfdoaaGreatDoorKBA
import Derived.Test.YtgdhaaokolfdoaaGreatDoorKBH
import Derived.Deep.RegionLaw
set_option linter.unusedVariables false
set_option linter.unusedSimpArgs false
set_option linter.unnecessarySimpa false
/- DirPages: what the law computes. Conditions: the table of the bits lies in the world. -/
namespace Go.Proofs.YtgdhaaokolfdoaaGreatDoor
open Go.RowKit Go.Sg Go.Sg.Bits Go.Sg.Clk CP SF
/-- Nothing was committed: no page is dead. -/
def StepP (base bd : Nat) (B : Blk) (w : World) (N : Nat) (e : Ending) (w' : World) : Prop :=
  ∃ err, e = .returned (.int .i64 err) ∧ FrD base w w' ∧ ∃ y' x' tops' sl, DirS w' base bd B y' x' tops' sl True N ∧ ∀ k, y'.dead k = false
theorem dirU_p {w w' : World} {base bd : Nat} {B : Blk} {y : Cs} {x x0 : DirD} {tops slots sl : List Rf} {N N' N2 : Nat} {c0 : Cont} {e : Ending} (h : DirS w base bd B y x0 tops slots True N) (hdd : ∀ k, y.dead k = false) (hx : x.per = x0.per ∧ x.most = x0.most) (hu : DirU B bd x y noP false N' [] 7 True c0 sl w e w') (hN : N ≤ N') (h2 : N' ≤ N2) (h9 : N2 ≤ 90000) : StepP base bd B w N2 e w' := by
  obtain ⟨err, rfl, F, ⟨rfl, y', tk, m, e1, e2, e3, e4, e5, -, e6, e7, e8⟩ | ⟨_, ha, _⟩⟩ := hu
  · have hF : FrD base w w' := by rw [← h.base_]; exact frX_frD F h.dir (by rw [h.base_]; exact h.bd_)
    have hS : DirS w' base bd B y' { x with rp := m, rs := y.gen } tk sl True N' := ⟨e2, e1, e3, e4, e5, e6.plan.trans h.plan, e6.pages.trans h.pages, e6.room.trans h.room, e6.places.trans h.places, h.base_, h.bd_, ⟨hx.1.trans h.per.1, hx.2.trans h.per.2⟩, by rw [e7]; have := h.gen; omega⟩
    exact ⟨0, rfl, hF, y', _, tk, sl, hS.mono h2 h9, fun k => by rw [e8]; exact hdd k⟩
  · cases ha
theorem step_p {w w' : World} {base bd : Nat} {B : Blk} {y : Cs} {x : DirD} {tops slots : List Rf} {N N' : Nat} {err : Int} {e : Ending} (h : DirS w base bd B y x tops slots True N) (hdd : ∀ k, y.dead k = false) (hu : ErrP err w e w') (hN : N ≤ N') (h9 : N' ≤ 90000) : StepP base bd B w N' e w' :=
  ⟨err, hu.1, FrD.none hu.2, y, x, tops, slots, (h.fr0 hu.2).mono hN h9, hdd⟩
theorem DirS.set_p {w : World} {base bd : Nat} {B : Blk} {y : Cs} {x : DirD} {tops slots : List Rf} {N n c : Nat} (h : DirS w base bd B y x tops slots True N) (hdd : ∀ k, y.dead k = false) {sa : Option Addr} {l : List Int} (p s : Int) (hs : s < 9223372036854775808) (hl : SlI w sa n c l) (hlF : ∀ W, FrB B w W → SlI W sa n c l) (hn : n ≤ 40) (hN : N + 100 ≤ 90000) :
    Calls Tryz.prog 50 #[dptr bd, .slice sa n c, ref2 p s] w (StepP base bd B w (N + 100)) := by
  have hdm : x.depth ≤ 20 := by have := h.c.z.most; have := h.per.2; omega
  by_cases hr : rightM p s = false
  · exact (set_wrong bd sa n c p s hr w).mono fun e w' hu => step_p h hdd hu (by omega) hN
  · have hr' : rightM p s = true := by simpa using hr
    by_cases ha : l.any (outB x.slots) = true
    · exact (set_range h.dir hdm hl (by omega) p s hr' ha).mono fun e w' hu => step_p h hdd hu (by omega) hN
    · have hrr : rightR (p, s) := by
        simp [rightM] at hr'
        exact ⟨hr'.1.1, hr'.1.2, hr'.2, by simp only; omega⟩
      have hs := h.small
      exact (set_ok (r := (p, s)) (rest := []) (c0 := y.cont) h.st h.dir h.c (by rw [h.pages]; omega) h.live h.calm (fun k hk => by cases hk) (by rw [h.pages]; simp; omega) hl hlF (by omega) (by simpa using ha) hrr (by omega)).mono fun e w' hu => dirU_p h hdd ⟨rfl, rfl⟩ hu (by omega) (by omega) hN
theorem DirS.double_p {w : World} {base bd : Nat} {B : Blk} {y : Cs} {x : DirD} {tops slots : List Rf} {N : Nat} (h : DirS w base bd B y x tops slots True N) (hdd : ∀ k, y.dead k = false) (hN : N + 100 ≤ 90000) :
    Calls Tryz.prog 49 #[dptr bd] w (StepP base bd B w (N + 100)) := by
  by_cases hd : x.depth < x.most
  · have hs := leaves6 (x := { x with depth := x.depth + 1 }) h.per hd
    exact (double_ok (rest := []) (c0 := y.cont) h.st h.dir h.c hd (by rw [h.pages]; omega) h.live h.calm (fun k hk => by cases hk) (by rw [h.pages]; simp; omega) hN).mono fun e w' hu => dirU_p (x := { x with depth := x.depth + 1 }) h hdd ⟨rfl, rfl⟩ hu (by omega) (Nat.le_refl _) hN
  · exact (double_full h.dir (by omega)).mono fun e w' hu => step_p h hdd hu (by omega) hN
theorem mem_tuD {t : Nat → Bool} {m : Nat} {x : Int} : x ∈ tu t m ↔ ∃ n : Nat, x = n ∧ n < m ∧ t n = true := by
  simp only [tu, List.mem_map, List.mem_filter, List.mem_range]
  constructor
  · rintro ⟨n, ⟨h1, h2⟩, rfl⟩; exact ⟨n, rfl, h1, h2⟩
  · rintro ⟨n, rfl, h1, h2⟩; exact ⟨n, ⟨h1, h2⟩, rfl⟩
theorem tu_nodupD (t : Nat → Bool) (m : Nat) : (tu t m).Nodup := by
  unfold tu
  rw [List.Nodup, List.pairwise_map]
  exact (List.nodup_range.filter _).imp (fun h e => h (Int.ofNat.inj e))
/-- All that is taken is the directory's own. -/
theorem DirS.taken {w : World} {base bd : Nat} {B : Blk} {y : Cs} {x : DirD} {tops slots : List Rf} {N : Nat} (h : DirS w base bd B y x tops slots True N) (hdd : ∀ k, y.dead k = false) :
    (tu y.taken y.pages).length = 1 + x.leaves ∧ ∀ (i : Nat) (r : Rf), ((x.rp, x.rs) :: tops)[i]? = some r → r.1 ∈ tu y.taken y.pages := by
  have hp : (tu y.taken y.pages).Perm ((pgs x.rp tops).map (fun (k : Nat) => (k : Int))) := by
    refine (List.perm_ext_iff_of_nodup (tu_nodupD _ _) ?_).2 fun z => ?_
    · rw [List.Nodup, List.pairwise_map]
      have := h.live.nd
      rw [List.append_nil] at this
      exact this.imp (fun h e => h (Int.ofNat.inj e))
    · rw [mem_tuD, List.mem_map]
      constructor
      · rintro ⟨n, rfl, h1, h2⟩
        rcases h.live.all n h1 h2 with h3 | h3 | h3
        · exact ⟨n, by simpa using h3, rfl⟩
        · rw [(h.calm trivial).2] at h3; cases h3
        · rw [hdd] at h3; cases h3
      · rintro ⟨n, hn, rfl⟩
        have hn' : n ∈ pgs x.rp tops ++ [] := by simpa using hn
        exact ⟨n, rfl, h.live.lt n hn', (h.live.tk n hn').1⟩
  refine ⟨?_, fun i r hi => hp.mem_iff.2 ?_⟩
  · rw [hp.length_eq, List.length_map]
    simp only [pgs, List.length_cons, List.length_map]
    have := h.c.tlen
    omega
  · rw [List.mem_map]
    cases i with
    | zero =>
      simp at hi
      subst hi
      have := h.c.rr.1
      exact ⟨x.rp.toNat, by simp [pgs], by simp only; omega⟩
    | succ i =>
      rw [List.getElem?_cons_succ] at hi
      have := (h.c.leaf.tr r (List.mem_of_getElem? hi)).1
      exact ⟨r.1.toNat, by simp only [pgs, List.mem_cons, List.mem_map]; exact .inr ⟨r, List.mem_of_getElem? hi, rfl⟩, by omega⟩
/-- What Make leaves, with no page dead. -/
def MakeP (base : Nat) (B : Blk) (N : Nat) (r : Rf) (w : World) (e : Ending) (w' : World) : Prop :=
  ∃ bd y x tops, e = .returned (.tuple #[dptr bd, .int .i64 0]) ∧ FrD base w w' ∧ DirS w' base bd B y x tops [r] True N ∧ ∀ k, y.dead k = false
theorem make15_p {w : World} {B : Blk} {y : Cs} {N : Nat} (h : StoreC w B y noP false N) (hp : y.plan = small15) (hpg : y.pages = 188) (hrm : y.room = 77) (hpl : y.places = 8) (hg : y.gen ≤ N + 1) (ht : ∀ k, y.taken k = false) (hd : ∀ k, y.dying k = false) (he : ∀ k, y.dead k = false) (r : Rf) (hr : rightR r) (hb : B.base ≤ w.heap.size) (hN : N + 2 ≤ 90000) :
    Calls Tryz.prog 47 #[B.ptr, ref2 r.1 r.2] w (MakeP B.base B (N + 2) r w) := by
  have hfit : fitsM y.plan = true := by rw [hp]; exact small15_fits
  have hL := live_nil ht hd he
  refine (make_dir_ok (own := []) (M := 7) h hfit hL (by rw [hpg]; simp) (by rw [hpg]; omega) (by rw [hrm]; omega) r hr hN).mono ?_
  rintro e w' ⟨v, err, rfl, F, ⟨rfl, bd, m1, m2, rfl, hbd, hD, t1, t2, hS⟩ | ⟨_, ha, _⟩⟩
  · have hgl := gen_small h
    have hm1 : m1 < 188 := by rw [← hpg]; exact t1.1
    have hm2 : m2 < 188 := by rw [← hpg]; exact t2.1
    have hne : (m1 : Int) ≠ (m2 : Int) := fun e => by
      have : m1 = m2 := by omega
      subst this
      have := t2.2.1
      simp [Cs.new, upd] at this
    have hx : atZ y.plan = ⟨6, 5, 0, 0, 0⟩ := by
      have h6 : (layM small15).per.toNat = 6 := by decide +kernel
      rw [hp]
      unfold atZ
      rw [h6]
      rfl
    rw [hx] at hD
    have l1 := hL.new (bs := loadM [r]) h.apart t1
    have a1 : Apart (y.new m1 (loadM [r])).taken (y.new m1 (loadM [r])).fresh (y.new m1 (loadM [r])).dying (y.new m1 (loadM [r])).dead := h.apart.new t1.2.1
    have l2 := l1.new (bs := loadM [((m1 : Int), (y.gen : Int))]) a1 t2
    have e2 : (([] : List Nat) ++ [m1] ++ [m2]).Perm (pgs m2 [((m1 : Int), (y.gen : Int))] ++ []) := by
      simp only [pgs, List.map_cons, List.map_nil, List.nil_append, List.append_nil, Int.toNat_natCast, List.cons_append]
      exact List.Perm.swap _ _ _
    have f0 : AllFresh y [] := ⟨fun k hk => (by cases hk), hd⟩
    have f2 := allfresh_new (m := m2) (allfresh_new (m := m1) f0 (loadM [r])) (loadM [((m1 : Int), (y.gen : Int))])
    refine ⟨bd, _, _, [((m1 : Int), (y.gen : Int))], rfl, frB_frD F, ⟨hS, hD, ⟨?_, (by simp [DirD.slots]), (by simp [DirD.leaves, DirD.slots]), ⟨?_, ?_, ?_⟩, ⟨by simp, by simp⟩, ?_⟩, l2.perm e2, fun _ => ⟨fun k hk => f2.1 k (e2.mem_iff.2 hk), f2.2⟩, hp, hpg, hrm, hpl, rfl, by omega, ⟨rfl, rfl⟩, by simp only [Cs.new]; omega⟩, fun k => he k⟩
    · refine dirZ_of (x := ⟨6, 5, 0, (m2 : Int), (y.gen : Int)⟩) (by simpa [Cs.new] using hfit) (by simp only [Cs.new]; rw [hp]; decide +kernel) (by simp only [Cs.new]; rw [hp]; rfl) (by simp only [Cs.new]; rw [hp, hrm]; rfl) (by simp) (by simp only [Cs.new]; omega)
    · intro q hq; simp at hq; subst hq; exact hr
    · intro q hq; simp at hq; subst hq; exact right_of (by omega) hgl
    · intro i q hi
      cases i with
      | zero =>
        simp at hi
        subst hi
        simp only [Cs.new]
        rw [updC_ne hne, updC_same]
        simp [chunk]
      | succ i => simp at hi
    · simp only [Cs.new]
      rw [updC_same]; simp
  · cases ha
theorem made15d {w : World} {B : Blk} (hS : StoreC w B (openY small15 0 (Dev.fresh 200 96) (fun _ => none)) noP false 0) (hb : B.base ≤ w.heap.size) (r : Rf) (hr : rightR r) : Calls Tryz.prog 47 #[B.ptr, ref2 r.1 r.2] w (MakeP B.base B 2 r w) := by
  obtain ⟨a1, a2, a3, a4, a5, a6, a7, a8, a9, a10⟩ := open15 _ (fun _ => none) _ rfl rfl
  exact make15_p hS a1 a2 a3 a4 (by omega) a7 a9 a10 r hr hb (by omega)
end Go.Proofs.YtgdhaaokolfdoaaGreatDoor

/- What a commit behind a flush and a sync protects; a device behind a sync, behind a crash. Conditions: none. -/
namespace Go.Sg
open Go.RowKit
theorem build_zero {size place stamp n : Nat} {load : List Int} : buildM size 2 place stamp load ≠ List.replicate n 0 := by
  intro h
  have h1 : (buildM size 2 place stamp load)[0]? = some 2 := by simp [buildM, bodyM, leB]
  rw [h, List.getElem?_replicate] at h1
  split at h1
  · simp at h1
  · cases h1
theorem fast_of_sec {D : Dev} (hl : D.loose = []) {k : Int} {bs : List Int} (hne : ∀ n, bs ≠ List.replicate n 0) (h : D.sec k = bs) : D.fast k = some bs := by
  rw [sec_miss (by rw [hl]; intro z hz; cases hz)] at h
  cases hf : D.fast k with
  | none => rw [hf] at h; exact absurd h.symm (hne _)
  | some v => rw [hf] at h; exact congrArg some h
def updF (f : Int → Option (List Int)) (k : Int) (bs : List Int) : Int → Option (List Int) := fun j => if j = k then some bs else f j
/-- All loose writes are fast. -/
def fastAll (f : Int → Option (List Int)) (l : List (Int × List Int)) : Int → Option (List Int) := l.foldl (fun f y => updF f y.1 y.2) f
theorem fastAll_snoc (f : Int → Option (List Int)) (l : List (Int × List Int)) (y : Int × List Int) : fastAll f (l ++ [y]) = updF (fastAll f l) y.1 y.2 := by
  simp [fastAll]
theorem fastAll_get (f : Int → Option (List Int)) (k : Int) (l : List (Int × List Int)) : fastAll f l.reverse k = ((l.find? (fun y => decide (y.1 = k))).map (·.2)).or (f k) := by
  induction l with
  | nil => rfl
  | cons y l ih =>
    rw [List.reverse_cons, fastAll_snoc, List.find?_cons]
    by_cases h : y.1 = k
    · simp [updF, h]
    · have h' : ¬ k = y.1 := fun e => h e.symm
      simp only [updF, if_neg h', decide_eq_false h]
      exact ih
def Dev.synced (D : Dev) : Dev := { D.act with fast := fastAll D.fast D.loose, loose := [] }
theorem Dev.synced_fast (D : Dev) (k : Int) : D.synced.fast k = ((D.loose.reverse.find? (fun y => decide (y.1 = k))).map (·.2)).or (D.fast k) := by
  have := fastAll_get D.fast k D.loose.reverse
  rw [List.reverse_reverse] at this
  exact this
theorem Dev.synced_sec (D : Dev) (k : Int) : D.synced.sec k = D.sec k := by
  have h1 : D.synced.sec k = (D.synced.fast k).getD (List.replicate D.size 0) := sec_miss (D := D.synced) (fun z hz => by cases hz)
  rw [h1, Dev.synced_fast, Dev.sec]
  cases D.loose.reverse.find? (fun y => decide (y.1 = k)) <;> rfl
theorem fast_calm {D : Dev} {k : Int} (h : ∀ y ∈ D.loose, y.1 ≠ k) : D.synced.fast k = D.fast k := by
  rw [Dev.synced_fast]
  rw [List.find?_eq_none.2 (fun y hy => by have := h y (List.mem_reverse.1 hy); simpa using this)]
  rfl
theorem DevOk.synced {D : Dev} {P : Int → Option (List Int)} {a : Bool} {N : Nat} (h : DevOk D P a N) : DevOk D.synced P a (N + 1) := by
  refine ⟨Nat.succ_le_succ h.acts, by simp [Dev.synced], fun y hy => (by cases hy), fun k bs hk => ⟨?_, fun y hy => by cases hy⟩, ?_, fun ha => ?_, ⟨fun y hy => (by cases hy), fun k bs hk => ?_⟩⟩
  · rw [fast_calm (h.prot k bs hk).2]; exact (h.prot k bs hk).1
  · show D.armed - 1 ≤ _
    have := h.armed; omega
  · show D.armed - 1 = 0
    rw [h.calm ha]
  · rw [Dev.synced_fast] at hk
    cases hf : D.loose.reverse.find? (fun y => decide (y.1 = k)) with
    | none => rw [hf] at hk; exact h.byt.2 k bs hk
    | some y =>
      rw [hf] at hk
      cases hk
      exact h.byt.1 y (List.mem_reverse.1 (List.mem_of_find?_eq_some hf))
/-- A device behind a crash. -/
structure CrashOf (D D' : Dev) : Prop where
  sectors : D'.sectors = D.sectors
  size : D'.size = D.size
  acts : D'.acts = D.acts
  loose : D'.loose = []
  armed : D'.armed = 0
  down : D'.down = false
  fast : ∀ k, (∀ y ∈ D.loose, y.1 ≠ k) → D'.fast k = D.fast k
  byt : ((∀ y ∈ D.loose, ∀ x ∈ y.2, 0 ≤ x ∧ x < 256) ∧ ∀ k bs, D.fast k = some bs → ∀ x ∈ bs, 0 ≤ x ∧ x < 256) → ∀ k bs, D'.fast k = some bs → ∀ x ∈ bs, 0 ≤ x ∧ x < 256
theorem DevOk.crash {D D' : Dev} {P : Int → Option (List Int)} {a : Bool} {N : Nat} (h : DevOk D P a N) (k : CrashOf D D') : DevOk D' P false N := by
  have nl : ∀ {p : Int × List Int → Prop}, ∀ y ∈ D'.loose, p y := by rw [k.loose]; intro p y hy; cases hy
  refine ⟨by rw [k.acts]; exact h.acts, by rw [k.loose]; exact Nat.zero_le _, nl, fun s bs hs => ⟨?_, nl⟩, by rw [k.armed]; omega, fun _ => k.armed, ⟨nl, k.byt h.byt⟩⟩
  rw [k.fast s (h.prot s bs hs).2]; exact (h.prot s bs hs).1
end Go.Sg
namespace Go.Proofs.YtgdhaaokolfdoaaGreatDoor
open Go.RowKit Go.Sg Go.Sg.Bits Go.Sg.Clk CP SF
/-- What a commit protects: all that is taken and not dead. -/
def keepP (x : Sto) : Prot := fun s => if x.first ≤ s ∧ (s - x.first).toNat < x.pages ∧ x.taken (s - x.first).toNat = true ∧ x.dead ((s - x.first).toNat : Int) = false then x.dev.fast s else none
theorem keepP_at (x : Sto) (k : Nat) : keepP x (x.first + k) = if k < x.pages ∧ x.taken k = true ∧ x.dead k = false then x.dev.fast (x.first + k) else none := by
  have h : (x.first + (k : Int) - x.first).toNat = k := by omega
  unfold keepP
  rw [h]
  by_cases c : k < x.pages ∧ x.taken k = true ∧ x.dead k = false
  · rw [if_pos c, if_pos ⟨by omega, c⟩]
  · rw [if_neg c, if_neg (fun e => c e.2)]
theorem keepP_fast {x : Sto} {s : Int} {v : List Int} (h : keepP x s = some v) : x.dev.fast s = some v := by
  unfold keepP at h
  split at h
  · exact h
  · cases h
/-- What a commit behind a flush and a sync does. -/
def CommitL (B : Blk) (y : Cs) (P : Prot) (a : Bool) (N : Nat) (w w' : World) : Prop :=
  ∃ n P', StoreC w' (Blk.next B n) y.commit P' a N ∧ w.heap.size ≤ n ∧ ∀ k : Nat, k < y.pages → y.taken k = true → y.dead k = false →
    (∀ st bs, y.cont k = some (st, bs) → P' (y.first + k) = some (buildM y.size 2 k st bs)) ∧ ∀ v, P (y.first + k) = some v → P' (y.first + k) = some v
theorem commit_l {w : World} {B : Blk} {y : Cs} {P : Prot} {a : Bool} {N : Nat} (h : StoreL 2 w B y P a N) (hg : y.gen < 2199023255552) :
    Calls Tryz.prog 37 #[B.ptr] w fun e w' => e = .returned (.tuple #[]) ∧ FrB B w w' ∧ CommitL B y P a N w w' := by
  obtain ⟨⟨x, c, hS, rfl, hi, hl1, hl2⟩, hT, hb⟩ := h
  have hcl := hl1 (by omega)
  have hlo := hl2 (by omega)
  have hap := hi.apart
  refine (commit_at hS (fun k hk => ?_) hg).mono ?_
  · obtain ⟨n, rfl⟩ := Int.eq_ofNat_of_zero_le (hS.inr.2.2 k hk).1
    exact hap.et n hk
  rintro e w' ⟨n, he, hS', F, hn⟩
  have hh := hi.holds.frB F
  have hsec : ∀ k : Nat, ∀ st bs, c k = some (st, bs) → x.dev.sec (x.first + k) = buildM x.dev.size 2 k st bs := fun k st bs hk => by
    cases hm : x.mem k with
    | none => have := hi.holds.dev k st bs hk hm; simpa using this
    | some q =>
      obtain ⟨s0, b0, a1, _, _, _, a5⟩ := hi.holds.mem k q hm
      rw [hk] at a1; cases a1
      have := a5 (hcl k q hm)
      simpa using this
  refine ⟨he, F, n, keepP x, ⟨⟨_, fun k => if x.dead k then none else c k, hS', rfl, hi.down, ⟨hi.dev.acts, hi.dev.many, hi.dev.len, fun k v hv => ⟨keepP_fast (x := x) hv, by show ∀ y ∈ x.dev.loose, _; rw [hlo]; intro y hy; cases hy⟩, hi.dev.armed, hi.dev.calm, hi.dev.byt⟩, ⟨fun k s b hk => ?_, fun k q hq => ?_, fun k s b hk hm => ?_⟩, fun k hk hne => ?_, ?_, hi.few⟩, hT.fr F (fun h => by omega), hb⟩, hn, fun k hk ht hd => ⟨fun st bs hc => ?_, fun v hv => ?_⟩⟩
  · split at hk
    · cases hk
    · exact hh.ok k s b hk
  · have hq' : (if x.dead k then none else x.mem k) = some q := hq
    split at hq'
    · cases hq'
    · rename_i hdk
      obtain ⟨s0, b0, a1, a2, a3, a4, a5⟩ := hh.mem k q hq'
      refine ⟨s0, b0, by rw [if_neg hdk]; exact a1, a2, a3, fun hdi => ?_, a5⟩
      rw [hcl k q hq'] at hdi; cases hdi
  · split at hk
    · cases hk
    · rename_i hdk
      have hm' : (if x.dead k then none else x.mem k) = none := hm
      rw [if_neg hdk] at hm'
      exact hh.dev k s b hk hm'
  · have hne' : keepP x (x.first + k) ≠ none := hne
    rw [keepP_at] at hne'
    split at hne'
    · rename_i hc
      refine ⟨?_, rfl⟩
      show (x.taken k && !x.dead k) = true
      rw [hc.2.1, hc.2.2]; rfl
    · exact absurd rfl hne'
  · refine ⟨fun k hk => (by cases hk), fun k hk => (by cases hk), fun k hk => ?_, fun k hk => (by cases hk), fun k hk => by cases hk⟩
    have hk' : x.dying k = true := hk
    show (x.taken k && !x.dead k) = true
    rw [hap.yt k hk', hap.ye k hk']; rfl
  · show keepP x (x.first + k) = _
    rw [keepP_at, if_pos ⟨hk, ht, hd⟩]
    exact fast_of_sec hlo (fun n => build_zero) (hsec k st bs hc)
  · show keepP x (x.first + k) = _
    rw [keepP_at, if_pos ⟨hk, ht, hd⟩]
    exact (hi.dev.prot _ v hv).1
end Go.Proofs.YtgdhaaokolfdoaaGreatDoor

/- flash.Sync. Conditions: the device lies in the world as DevAt says, it is not down. -/
namespace Go.Proofs.YtgdhaaokolfdoaaGreatDoor
open Go.RowKit Go.Sg
/-- The fast sectors behind k of the loose writes. -/
def SyncF (bf : Nat) (D : Dev) (w1 : World) (k : Nat) (wr : World) : Prop :=
  (∃ l ck, wr.heap[bf]? = some (.map (ents l) ck) ∧ (keys l).Nodup ∧ ∀ j, FastIs wr D.size (Sg.look l j) (fastAll D.fast (D.loose.take k) j)) ∧ Fr (fun b => b = bf) w1 wr
theorem _root_.Go.Sg.FastIs.fr {S : Nat → Prop} {w w' : World} {size : Nat} {v : Option Value} {bs : Option (List Int)} (h : FastIs w size v bs) (F : Fr S w w') (h5 : ∀ g c, w.heap[g]? = some (.cells c 5) → ¬ S g) : FastIs w' size v bs := by
  cases v with
  | none => cases bs with
    | none => trivial
    | some b => exact h.elim
  | some v => cases bs with
    | none => exact h.elim
    | some b =>
      obtain ⟨g, off, cap, e, hb, hc⟩ := h
      exact ⟨g, off, cap, e, hb.fr F h5, hc⟩
theorem sync_step {w1 wr w2 : World} {bf : Nat} {D : Dev} {k : Nat} {l : List Ent} {ck : Nat} (hl : wr.heap[bf]? = some (.map (ents l) ck)) (hn : (keys l).Nodup) (hf : ∀ j, FastIs wr D.size (Sg.look l j) (fastAll D.fast (D.loose.take k) j)) (F1 : Fr (fun b => b = bf) w1 wr)
    {at_ : Int} {bs : List Int} (hk : D.loose[k]? = some (at_, bs)) {ca : Option Addr} {cc : Nat} (hb : ByV w2 ca D.size cc bs) (hcc : D.size ≤ cc) (hz : 0 < D.size) (F : Fr (fun _ => False) wr w2) :
    SyncF bf D w1 (k + 1) (w2.putObj bf (.map (ents (Sg.put l at_ (.slice ca D.size cc) ck)) (bump l at_ ck))) := by
  have hl2 := F.heap hl (fun h => h)
  refine ⟨⟨_, _, heap_putObj_same _ _ _ (lt_of_heap hl2), nodup_put hn _ _ _, fun j => ?_⟩, ?_⟩
  · have F2 : Fr (fun b => b = bf) w2 (w2.putObj bf (.map (ents (Sg.put l at_ (.slice ca D.size cc) ck)) (bump l at_ ck))) := (Fr.refl (fun b => b = bf) _).putObj (fun _ => rfl) _
    have h5 : ∀ g c, w2.heap[g]? = some (.cells c 5) → ¬ g = bf := fun g c hg e => by rw [e, hl2] at hg; cases hg
    have et : D.loose.take (k + 1) = D.loose.take k ++ [(at_, bs)] := by rw [List.take_add_one, hk]; rfl
    rw [look_put, et, fastAll_snoc, updF]
    by_cases hj : at_ = j
    · subst hj
      rw [if_pos rfl, if_pos rfl]
      have hb' := hb.fr F2 h5
      rcases hb.at_ with ⟨_, h0, _⟩ | ⟨b, off, cs, rfl, _⟩
      · omega
      · exact ⟨b, off, cc, rfl, hb', hcc⟩
    · rw [if_neg hj, if_neg (fun e => hj e.symm)]
      exact ((hf j).fr F (fun _ _ _ h => h)).fr F2 h5
  · exact (F1.trans F (fun _ _ h => h.elim)).putObj (fun _ => rfl) _
theorem wr_at {w : World} {base : Nat} {a : Option Addr} {c : Nat} {ws : List Wr} (h : w.ownsRow base 196 2 (.slice a ws.length c) ws.length (ws.flatMap Wr.cells)) {j : Nat} {x : Wr} (hx : ws[j]? = some x) :
    ∃ g, a = some ⟨g, 0, none⟩ ∧ g < w.heap.size ∧ w.cell? ⟨g, j * 2, none⟩ = some (.int .i64 x.at_) ∧ w.cell? ⟨g, j * 2 + 1, none⟩ = some (.slice x.la x.ll x.lc) := by
  obtain ⟨k0, k1⟩ := wr_cells ws hx
  rw [Nat.mul_comm] at k0 k1
  obtain ⟨g, e, hg, h1⟩ := own_cell h k0
  obtain ⟨g', e', _, h2⟩ := own_cell h k1
  rw [e] at e'; cases e'
  exact ⟨g, e, hg, h1, h2⟩
/-- What Sync does. -/
def SyncP (base d bf bq : Nat) (D : Dev) (w : World) (e : Ending) (w' : World) : Prop :=
  (D.act.down = true ∧ e = .returned (.int .i64 4) ∧ DevAt w' base d bf bq D.act ∧ Fr (fun b => b = d) w w') ∨
  (D.act.down = false ∧ e = .returned (.int .i64 0) ∧ DevAt w' base d bf bq D.synced ∧ Fr (fun b => b = d ∨ b = bf) w w')
/-- The device behind all. -/
theorem sync_fin {w w1 wr : World} {base d bf bq : Nat} {D : Dev} (h : DevAt w base d bf bq D) {lv : Value} (hd : w.heap[d]? = some (.cells (devC D bf bq lv) 151)) (hl : LooseAt w base lv D.loose) (hd1 : w1.heap[d]? = some (.cells (devC D.act bf bq lv) 151)) (F1 : Fr (fun b => b = d) w w1) (hS : SyncF bf D w1 D.loose.length wr) :
    DevAt (wr.setCell ⟨d, 3, none⟩ (.slice none 0 0)) base d bf bq D.synced ∧ Fr (fun b => b = d ∨ b = bf) w (wr.setCell ⟨d, 3, none⟩ (.slice none 0 0)) := by
  have h1 := dev_act h hd hl hd1 F1
  obtain ⟨⟨l, ck, hf, hfn, hfs⟩, F2⟩ := hS
  obtain ⟨l0, ck0, hf0, _⟩ := h1.fast
  have ndf : ¬ d = bf := fun e => by rw [← e, hd1] at hf0; cases hf0
  have hdr := F2.heap hd1 ndf
  have F3 : Fr (fun b => b = d) wr (wr.setCell ⟨d, 3, none⟩ (.slice none 0 0)) := (Fr.refl (fun b => b = d) _).setCell (a := ⟨d, 3, none⟩) (fun _ => rfl) _
  have F13 : Fr (fun b => b = d ∨ b = bf) w1 (wr.setCell ⟨d, 3, none⟩ (.slice none 0 0)) := (F2.mono (fun _ _ h => .inr h)).trans F3 (fun _ _ h => .inl h)
  have n1 : ∀ g c t, t ≠ 151 → w1.heap[g]? = some (.cells c t) → ¬ (g = d ∨ g = bf) := fun g c t ht hg e => by
    rcases e with e | e
    · rw [e, hd1] at hg; cases hg; exact ht rfl
    · rw [e, hf0] at hg; cases hg
  obtain ⟨l', ck', hq, hqn, hqs, hqd⟩ := h1.past
  refine ⟨⟨⟨.slice none 0 0, ?_, [], World.ownsRow_nil _ _ _ _, rfl, fun i x y hx _ => by simp at hx⟩, ⟨l, ck, ?_, hfn, fun j => ?_⟩, ⟨l', ck', ?_, hqn, fun e he => ?_, hqd⟩, h1.ge, h1.ne, h1.rg⟩, (F1.mono (fun _ _ h => .inl h)).trans F13 (fun _ _ h => h)⟩
  · rw [heap_setCell_cells _ _ _ _ hdr]; rfl
  · exact F3.heap hf (fun e => ndf e.symm)
  · have := hfs j
    rw [List.take_length] at this
    exact this.fr F3 (fun g c hg e => by rw [e, hdr] at hg; cases hg)
  · exact F13.heap hq (fun e => by
      rcases e with e | e
      · rw [e, hd1] at hq; cases hq
      · exact h1.ne e.symm)
  · exact PastV.fr (hqs e he) F13 (fun g c hg => n1 g c 22 (by decide) hg) (fun g c hg => n1 g c 5 (by decide) hg)
set_option maxHeartbeats 8000000 in
set_option maxRecDepth 100000 in
theorem sync_ok {w : World} {base d bf bq : Nat} {D : Dev} (h : DevAt w base d bf bq D) (hdown : D.down = false) (hacts : D.acts ≤ 1000000) (harm : D.armed ≤ 9223372036854775807) (hmany : D.loose.length ≤ 100000) (hlen : ∀ y ∈ D.loose, y.2.length = D.size) :
    Calls Tryz.prog 41 #[.pointer (some ⟨d, 0, none⟩)] w (SyncP base d bf bq D w) := by
  obtain ⟨lv, hd, hl⟩ := h.dc
  have hz := h.rg.2
  have c7 := cell_of_heap hd 7
  simp [hdown] at c7
  have HACT := hid (act_at (lv := lv) hd hacts harm)
  have H := hid (And.intro h (And.intro hd hl))
  have hlv : ∃ a c, lv = .slice a D.loose.length c := by
    obtain ⟨ws, hown, hwl, hws⟩ := hl
    rw [← hwl]
    obtain ⟨_, ⟨h1, h2⟩ | ⟨g, cap, cur, h1, _⟩⟩ := hown
    · rw [h2]; exact ⟨_, _, h1⟩
    · exact ⟨_, _, h1⟩
  obtain ⟨va, vc, rfl⟩ := hlv
  obtain ⟨n, hn⟩ : ∃ n, D.loose.length = n := ⟨_, rfl⟩
  have hn9 : n ≤ 100000 := by omega
  have HN := hid hn
  have HL := hid hlen
  have ld := lt_of_heap hd
  clear h hd hl hlen hn hmany
  cases hdn : D.act.down with
  | true =>
    have HDN := hid hdn
    rw [hdn] at HACT
    clear hdn
    go_enter Tryz.func41, Tryz.ntmps41
    go_wp2_with fail
    refine HACT.out.mono ?_
    rintro e w1 ⟨rfl, hd1, F1⟩
    have H1 := hid (And.intro hd1 F1)
    clear hd1 F1
    go_wp2_with fail
    go_ret
    exact .inl ⟨HDN.out, rfl, dev_act H.out.1 H.out.2.1 H.out.2.2 H1.out.1 H1.out.2, H1.out.2⟩
  | false =>
    have HDN := hid hdn
    rw [hdn] at HACT
    clear hdn
    go_enter Tryz.func41, Tryz.ntmps41
    go_wp2_with fail
    refine HACT.out.mono ?_
    rintro e w1 ⟨rfl, hd1, F1⟩
    have H1 := hid (And.intro hd1 F1)
    have c3 := cell_of_heap hd1 3
    simp at c3
    rw [HN.out] at c3
    have ld1 := lt_of_heap hd1
    obtain ⟨ws, hown, hwl, hws⟩ := H.out.2.2
    have nd : ∀ g c t, t ≠ 151 → w.heap[g]? = some (.cells c t) → ¬ g = d := fun g c t ht hg e => by rw [e, H.out.2.1] at hg; cases hg; exact ht rfl
    obtain ⟨l0, ck0, hf0, hfn0, hfs0⟩ := H.out.1.fast
    have hnf : ¬ bf = d := fun e => by rw [e, H.out.2.1] at hf0; cases hf0
    have hS0 : SyncF bf D w1 0 w1 := ⟨⟨l0, ck0, F1.heap hf0 hnf, hfn0, fun j => (hfs0 j).fr F1 (fun g c hg => nd g c _ (by decide) hg)⟩, Fr.refl _ _⟩
    have HOW := hid (And.intro (ownsRow_fr hown F1 (fun g c hg => nd g c _ (by decide) hg)) (And.intro hwl (fun i x y hx hy => (⟨(hws i x y hx hy).1, (hws i x y hx hy).2.1.fr F1 (fun g c hg => nd g c _ (by decide) hg), (hws i x y hx hy).2.2⟩ : x.at_ = y.1 ∧ (ByV w1 x.la x.ll x.lc y.2 ∧ x.ll ≤ x.lc)))))
    have HF0 := hid (F1.heap hf0 hnf)
    have HS0 := hid hS0
    clear hd1 F1 hown hwl hws hf0 hfn0 hfs0 hS0 nd c7
    go_wp2_with fail
    go_loopw [22] (fun i wr => ∃ k : Nat, k ≤ n ∧ i = .int .i64 k ∧ SyncF bf D w1 k wr) (fun i _ => n - (intOf i).toNat)
    case atStart => exact ⟨0, Nat.zero_le _, rfl, HS0.out⟩
    case round =>
      obtain ⟨k, hk, rfl, hS⟩ := hrel
      have nc : ∀ g c t, w1.heap[g]? = some (.cells c t) → ¬ g = bf := fun g c t hg e => by rw [e, HF0.out] at hg; cases hg
      by_cases hlt : k < n
      · have hdk : decide ((k : Int) < (n : Int)) = true := by simp; omega
        have hki : (k : Int) < (n : Int) := by omega
        obtain ⟨⟨l, ck, hl, hfn, hfs⟩, FS⟩ := hS
        obtain ⟨x, hx⟩ : ∃ x, ws[k]? = some x := ⟨_, List.getElem?_eq_getElem (by rw [HOW.out.2.1, HN.out]; exact hlt)⟩
        obtain ⟨⟨ya, yb⟩, hy⟩ : ∃ y, D.loose[k]? = some y := ⟨_, List.getElem?_eq_getElem (by rw [HN.out]; exact hlt)⟩
        obtain ⟨hxa, hxb, hxc⟩ := HOW.out.2.2 k x (ya, yb) hx hy
        have hrow : wr.ownsRow base 196 2 (.slice va ws.length vc) ws.length (ws.flatMap Wr.cells) := by
          have := ownsRow_fr HOW.out.1 FS (fun g c hg => nc g c _ hg)
          rw [HOW.out.2.1]; rw [HOW.out.2.1] at this; exact this
        obtain ⟨g, rfl, hg, u0, u1⟩ := wr_at hrow hx
        have hyl : yb.length = D.size := HL.out _ (List.mem_of_getElem? hy)
        have hxl : x.ll = D.size := by rw [← hxb.len]; exact hyl
        simp only at hxa
        rw [hxa] at u0
        rw [hxl] at u1 hxb hxc
        obtain ⟨W, hW⟩ : ∃ W, wr.alloc (.cells #[.int .i64 ya, .slice x.la D.size x.lc] 196) = W := ⟨_, rfl⟩
        have bW : W.heap[wr.heap.size]? = some (.cells #[.int .i64 ya, .slice x.la D.size x.lc] 196) := by rw [← hW]; exact heap_alloc_new _ _
        have FW : Fr (fun _ => False) wr W := by rw [← hW]; exact (Fr.refl _ _).alloc _
        have hdW : W.heap[d]? = some (.cells (devC D.act bf bq (.slice (some ⟨g, 0, none⟩) D.loose.length vc)) 151) := FW.heap (FS.heap H1.out.1 (nc _ _ _ H1.out.1)) (fun h => h)
        have hlW := FW.heap hl (fun h => h)
        have HC := hid (fun V (F : Fr (fun _ => False) W V) => show (V.cell? ⟨wr.heap.size, 0, none⟩ = some (.int .i64 ya) ∧ V.cell? ⟨wr.heap.size, 1, none⟩ = some (.slice x.la D.size x.lc)) ∧ V.cell? ⟨d, 2, none⟩ = some (.map (some bf)) ∧ (V.heap[bf]? = some (.map (ents l) ck) ∧ wr.heap.size < V.heap.size ∧ d < V.heap.size) by
          obtain ⟨t0, t1, tz, tl⟩ := cells2 (F.heap bW (fun h => h))
          have hdV := F.heap hdW (fun h => h)
          exact ⟨⟨t0, t1⟩, by simpa using cell_of_heap hdV 2, F.heap hlW (fun h => h), tl, lt_of_heap hdV⟩)
        have hxb' : ByV W x.la D.size x.lc yb := (hxb.fr FS (fun g c hg => nc g c _ hg)).fr FW (fun _ _ _ h => h)
        have HCL := hid (fun V (F : Fr (fun _ => False) W V) => clone_vc (hxb'.fr F (fun _ _ _ h => h)).slb (show D.size ≤ 65536 by omega))
        have HUP := hid (fun (V : World) (hV : V.heap[bf]? = some (.map (ents l) ck)) (v : Value) => run_mapUpdate (P := Tryz.prog) (T := 147) Tryz.underlying147 Tryz.underlying3 hV ya v)
        have HSy := hid (And.intro hl (And.intro hfn (And.intro hfs (And.intro FS (And.intro hy FW)))))
        have HW := hid hW
        clear hl hfn hfs FS hx hy hxa hxb hxc hrow hyl hxl hW bW FW hdW hlW hxb' nc
        go_upto_region 8 with fail
        rw [HW.out]
        obtain ⟨⟨t0, t1⟩, t2, t3, tl1, tl2⟩ := HC.out _ (Fr.refl _ _)
        have hup := HUP.out _ t3
        have FG : Fr (fun _ => False) W W.drew := (Fr.refl _ _).drew
        clear u0 u1
        go_region_law (((try go_simp); go_at_call 83; refine (HCL.out _ FG).mono ?_; rintro e V1 ⟨ca, cc, rfl, ⟨hb1, hcc⟩, G1⟩; have FG := FG.trans G1 (fun _ _ h => h); obtain ⟨⟨t0, t1⟩, t2, t3, tl1, tl2⟩ := HC.out _ FG; have hup := HUP.out _ t3; have HB1 := hid (And.intro hb1 (And.intro hcc FG)); clear hb1 hcc G1))
        all_goals
          go_wp2_with fail
          go_roundw
          case rel =>
            obtain ⟨hl, hfn, hfs, FS, hy, FW⟩ := HSy.out
            obtain ⟨hb1, hcc, FG⟩ := HB1.out
            exact ⟨k + 1, hlt, by go_num, sync_step hl hfn hfs FS hy hb1 hcc (by omega) (FW.trans FG (fun _ _ h => h))⟩
          case measure => simp [intOf]; omega
      · obtain rfl : k = n := by omega
        have hdk : decide ((k : Int) < (k : Int)) = false := by simp
        have HSy := hid hS
        have hdr := hS.2.heap H1.out.1 (nc _ _ _ H1.out.1)
        have HDR := hid hdr
        have z := fun o => frozen_of_heap hdr o
        have ldr := lt_of_heap hdr
        have c3r := cell_of_heap hdr 3
        simp at c3r
        clear hS hdr
        go_wp2_with fail
        go_ret
        obtain ⟨hD', F'⟩ := sync_fin H.out.1 H.out.2.1 H.out.2.2 H1.out.1 H1.out.2 (by rw [HN.out]; exact HSy.out)
        exact .inr ⟨HDN.out, rfl, hD', F'⟩
end Go.Proofs.YtgdhaaokolfdoaaGreatDoor

/- Sync of a store's device. Conditions: the store lies in the world as StoreL says. -/
namespace Go.Proofs.YtgdhaaokolfdoaaGreatDoor
open Go.RowKit Go.Sg Go.Sg.Bits Go.Sg.Clk CP SF
theorem StoreAt.with_dev {w w' : World} {B : Blk} {x : Sto} (h : StoreAt w B x) (F : Fr (fun b => b = B.d ∨ b = B.bf) w w') {D : Dev} (hD : DevAt w' B.base B.d B.bf B.bq D) (e1 : D.sectors = x.dev.sectors) (e2 : D.size = x.dev.size) : StoreAt w' B { x with dev := D } ∧ FrB B w w' := by
  have FR : FrR B [.d, .bf] w w' := F.mono (fun b _ hs => hs.elim (fun e => ⟨.d, by simp, e⟩) (fun e => ⟨.bf, by simp, e⟩))
  have S := h.stays FR
  have hrg := h.rg
  exact ⟨⟨S.s (by decide), hD, S.bits (by decide) (by decide), S.fr (by decide), S.dy (by decide), S.de (by decide), S.mem (by decide) (by decide) (by decide), S.load, h.ne, h.ge, ⟨hrg.1, hrg.2.1, hrg.2.2.1, by rw [e1]; exact hrg.2.2.2.1, by rw [e2]; exact hrg.2.2.2.2⟩, h.inr⟩, h.frB FR⟩
theorem D_down {w w' : World} {B : Blk} {x : Sto} {c : Cont} {P : Prot} {a : Bool} {N : Nat} (hi : Is w x c P a N) (hdn : x.dev.act.down = true) (hD : DevAt w' B.base B.d B.bf B.bq x.dev.act) : DownC w' B (x.cs c) P (N + 1) := by
  refine ⟨x.dev.act, hD, ⟨Nat.succ_le_succ hi.dev.acts, Nat.le_succ_of_le hi.dev.many, hi.dev.len, hi.dev.prot, ?_, fun h => (by cases h), hi.dev.byt⟩, hdn, rfl, rfl⟩
  show x.dev.armed - 1 ≤ _
  have := hi.dev.armed; omega
/-- What Sync does, to a store's callers. -/
def SyncY (l : Nat) (B : Blk) (y : Cs) (P : Prot) (a : Bool) (N : Nat) (w : World) (e : Ending) (w' : World) : Prop :=
  FrB B w w' ∧ ((e = .returned (.int .i64 0) ∧ StoreL l w' B y P a (N + 1)) ∨ (e = .returned (.int .i64 4) ∧ a = true ∧ DownC w' B y P (N + 1)))
theorem sync_c {w : World} {B : Blk} {y : Cs} {P : Prot} {a : Bool} {N : Nat} (h : StoreL 1 w B y P a N) (hN : N + 1 ≤ 90000) : Calls Tryz.prog 41 #[.pointer (some ⟨B.d, 0, none⟩)] w (SyncY 2 B y P a N w) := by
  obtain ⟨⟨x, c, hS, rfl, hi, hcl, -⟩, hT, hb⟩ := h
  have hfew := hi.few
  refine (sync_ok hS.dev hi.down (Nat.le_trans hi.dev.acts (by omega)) hi.dev.armed (Nat.le_trans hi.dev.many (by omega)) hi.dev.len).mono ?_
  rintro e w' (⟨hdn, rfl, hD, F⟩ | ⟨hdn, rfl, hD, F⟩)
  · obtain ⟨hS', FB⟩ := hS.with_dev (F.mono fun _ _ h => .inl h) hD rfl rfl
    refine ⟨FB, .inr ⟨rfl, ?_, D_down hi hdn hD⟩⟩
    cases a with
    | true => rfl
    | false => rw [Dev.calm_up hi.down (hi.dev.calm rfl)] at hdn; cases hdn
  · obtain ⟨hS', FB⟩ := hS.with_dev F hD rfl rfl
    have hh := hi.holds.frB FB
    exact ⟨FB, .inl ⟨rfl, ⟨⟨_, c, hS', rfl, ⟨hdn, hi.dev.synced, ⟨hh.ok, fun k q hq => (by
      obtain ⟨s0, b0, a1, a2, a3, a4, a5⟩ := hh.mem k q hq
      exact ⟨s0, b0, a1, a2, a3, a4, fun hd => by rw [show ({ x with dev := x.dev.synced } : Sto).dev.sec _ = x.dev.sec _ from Dev.synced_sec _ _]; exact a5 hd⟩), fun k st bs hk hm => by
      rw [show ({ x with dev := x.dev.synced } : Sto).dev.sec _ = x.dev.sec _ from Dev.synced_sec _ _]; exact hh.dev k st bs hk hm⟩, hi.ptk, hi.apart, hN⟩, fun _ => hcl (by omega), fun _ => rfl⟩, hT.fr FB (fun h => by omega), hb⟩⟩⟩
end Go.Proofs.YtgdhaaokolfdoaaGreatDoor

/- Appends within a region that draws its order, for chapters 4 and 15: the law of append as one step; slices of numbers. Conditions: none. -/
namespace Go.Proofs.YtgdhaaokolfdoaaGreatDoor
open Go.RowKit Go.Sg
theorem step_app_src {P : Program} {ops : Array Oper} {o : Oper} {a : Act} {w : World} {K : Act → World → Prop} {Q : Exit → Act → World → Prop} {E : Prop} (hgd : o.guard = none) (s x : Operand) (t : TypeId)
    (ho : o.op = .call { callee := .builtin .append, args := #[s, x], argTypes := #[t, t] }) (base : Nat) (e : TypeId) (i : TypeInfo) (z : Value) (size bytes : Nat) (ht : P.underlying t = some (.slice e)) (hi : P.info? e = some i) (hz : i.zero = some z)
    (hsize : i.size = size) (hby : i.bytes = bytes) (hzs : z.cells.size = size) (hsz : 0 < size) (v : Value) (n : Nat) (xs : List Value) (hs : a.eval s = v) (hown : w.ownsRow base e size v n xs)
    (vx : Value) (m : Nat) (news : List Value) (hx : a.eval x = vx) (hsrc : SrcV w vx m news) (hl : news.length = m * size) (h1 : ∀ u ∈ news, u.oneCell' = true) (h63 : n + m ≤ maxLen) (hbytes : (n + m) * bytes ≤ 140737488355328) (hbase : base ≤ w.heap.size)
    (h : ∀ v' w', w'.ownsRow base e size v' (n + m) (xs ++ news) → w.grownBy w' v.ownBlock → K (a.put o.dst v') w') :
    if Region.wanted o (yielded ops a.tmps) = true then Oper.wp P o a w K Q else E := by
  have hw : Region.wanted o (yielded ops a.tmps) = true := by simp [Region.wanted, hgd]
  rw [if_pos hw]
  obtain ⟨a', c, rfl, ⟨rfl, rfl, rfl, rfl⟩ | ⟨ad, rfl, hc⟩⟩ := hsrc
  · have hrun := run_append_owned_none (P := P) (w := w) base t o.type e i size ht hi v n xs hown
    unfold Oper.wp
    simp [execOp, ho, resolve, invoke, builtin, hs, hx, hrun, Result.andThen]
    exact h v w (by simpa using hown) ⟨rfl, rfl, rfl, Nat.le_refl _, fun _ _ _ => rfl⟩
  · obtain ⟨v', w', hr, h2, h3, h4, h5⟩ := run_append_own_at (P := P) w base t o.type e i z size bytes ht hi hz hsize hby hzs hsz v n xs hown ad m c news hl hc h1 h63 hbytes hbase
    unfold Oper.wp execOp
    simp only [ho, resolve, invoke, builtin, Sem.run_bind, Sem.run_pure, Result.andThen_ok, List.map_toArray, List.map_cons, List.map_nil, hs, hx, hr]
    exact h v' w' h2 h3
theorem wp_app_src {P : Program} {o : Oper} {a : Act} {w : World} {K : Act → World → Prop} {Q : Exit → Act → World → Prop} (hgd : o.guard = none) (s x : Operand) (t : TypeId)
    (ho : o.op = .call { callee := .builtin .append, args := #[s, x], argTypes := #[t, t] }) (base : Nat) (e : TypeId) (i : TypeInfo) (z : Value) (size bytes : Nat) (ht : P.underlying t = some (.slice e)) (hi : P.info? e = some i) (hz : i.zero = some z)
    (hsize : i.size = size) (hby : i.bytes = bytes) (hzs : z.cells.size = size) (hsz : 0 < size) (v : Value) (n : Nat) (xs : List Value) (hs : a.eval s = v) (hown : w.ownsRow base e size v n xs)
    (vx : Value) (m : Nat) (news : List Value) (hx : a.eval x = vx) (hsrc : SrcV w vx m news) (hl : news.length = m * size) (h1 : ∀ u ∈ news, u.oneCell' = true) (h63 : n + m ≤ maxLen) (hbytes : (n + m) * bytes ≤ 140737488355328) (hbase : base ≤ w.heap.size)
    (h : ∀ v' w', w'.ownsRow base e size v' (n + m) (xs ++ news) → w.grownBy w' v.ownBlock → K (a.put o.dst v') w') : Oper.wp P o a w K Q := by
  have hw : Region.wanted o (yielded #[] a.tmps) = true := by simp [Region.wanted, hgd]
  have := step_app_src (ops := #[]) (E := True) hgd s x t ho base e i z size bytes ht hi hz hsize hby hzs hsz v n xs hs hown vx m news hx hsrc hl h1 h63 hbytes hbase (K := K) (Q := Q) h
  rwa [if_pos hw] at this
theorem own_mono {w : World} {b b' e size n : Nat} {v : Value} {xs : List Value} (h : w.ownsRow b e size v n xs) (hb : b' ≤ b) : w.ownsRow b' e size v n xs := by
  obtain ⟨hl, h0 | ⟨g, cap, cur, hv, hg, r⟩⟩ := h
  · exact ⟨hl, .inl h0⟩
  · exact ⟨hl, .inr ⟨g, cap, cur, hv, Nat.le_trans hb hg, r⟩⟩
theorem own_blk {w : World} {b e size n n' cap g : Nat} {xs : List Value} (h : w.ownsRow b e size (.slice (some ⟨g, 0, none⟩) n' cap) n xs) : b ≤ g := by
  obtain ⟨_, ⟨h0, _⟩ | ⟨g', cap', cur', hv, hb, hg', _⟩⟩ := h
  · cases h0
  · cases hv; exact hb
theorem app_fr {w V W : World} {g n cap : Nat} (F : Fr (fun _ => False) w V) (h : V.grownBy W (Value.slice (some ⟨g, 0, none⟩) n cap).ownBlock) (hg : w.heap.size ≤ g) : Fr (fun _ => False) w W :=
  (F.trans (Fr.of_grownBy h) (fun b hb e => by
    have e' : b = g := e
    omega))
theorem sli_src {w : World} {a : Option Addr} {n c : Nat} {l : List Int} (h : SlI w a n c l) : SrcV w (.slice a n c) n (l.map (Value.int .i64)) := by
  cases a with
  | none =>
    obtain ⟨rfl, rfl⟩ := h.nil rfl
    have : l = [] := List.eq_nil_of_length_eq_zero h.len
    subst this
    exact ⟨none, 0, rfl, .inl ⟨rfl, rfl, rfl, rfl⟩⟩
  | some ad =>
    refine ⟨_, c, rfl, .inr ⟨_, rfl, fun j u hj => ?_⟩⟩
    rw [List.getElem?_map] at hj
    cases hx : l[j]? with
    | none => rw [hx] at hj; cases hj
    | some x =>
      rw [hx] at hj; cases hj
      obtain ⟨b, off, e, hb, hc⟩ := h.at_ j x hx
      cases e
      rw [addr_add]
      exact hc
theorem sli_len {w : World} {a : Option Addr} {n c : Nat} {l : List Int} (h : SlI w a n c l) : (l.map (Value.int .i64)).length = n * 1 := by
  rw [List.length_map, h.len, Nat.mul_one]
theorem i64_one (l : List Int) : ∀ u ∈ l.map (Value.int .i64), u.oneCell' = true := by
  intro u hu; obtain ⟨q, _, rfl⟩ := List.mem_map.1 hu; rfl
theorem sli_of_own {w : World} {b n c : Nat} {a : Option Addr} {l : List Int} (h : w.ownsRow b 3 1 (.slice a n c) n (l.map (Value.int .i64))) (hl : l.length = n) : SlI w a n c l := by
  subst hl
  obtain ⟨a', c', e, -, -, hnil, -⟩ := own_slice h
  cases e
  refine ⟨rfl, fun i k hk => ?_, hnil⟩
  obtain ⟨g, e', hg, h1⟩ := own_cell h (j := i) (u := .int .i64 k) (by rw [List.getElem?_map, hk]; rfl)
  exact ⟨g, 0, e', hg, by rw [Nat.zero_add]; exact h1⟩
theorem Tryz.info3d : (Tryz.prog.info? 3).map (fun i => (i.zero, i.size, i.bytes)) = some (some (.int .i64 0), 1, 8) := by kernel_rfl
end Go.Proofs.YtgdhaaokolfdoaaGreatDoor

/- Chapter 15's document: Right, Double, Set. Conditions: the row of references lies in the world. -/
namespace Go.Proofs.YtgdhaaokolfdoaaGreatDoor
open Go.RowKit Go.Sg Go.Sg.Bits Go.Sg.Clk CP SF
/-- A row of the document's references. -/
abbrev Row8 (w : World) (v : Value) (l : List Rf) : Prop := w.ownsRow 0 88 2 v l.length (l.flatMap refC)
theorem Tryz.info88 : (Tryz.prog.info? 88).map (fun i => (i.zero, i.size, i.bytes)) = some (some (.agg #[.int .i64 0, .int .i64 0]), 2, 16) := by kernel_rfl
theorem row8_at {w : World} {base c : Nat} {a : Option Addr} {l : List Rf} {e : TypeId} (h : w.ownsRow base e 2 (.slice a l.length c) l.length (l.flatMap refC)) {k : Nat} {r : Rf} (hr : l[k]? = some r) : ∃ g, a = some ⟨g, 0, none⟩ ∧ g < w.heap.size ∧ w.cell? ⟨g, k * 2, none⟩ = some (.int .i64 r.1) ∧ w.cell? ⟨g, k * 2 + 1, none⟩ = some (.int .i64 r.2) := by
  obtain ⟨f0, f1⟩ := flat_at l k r hr
  obtain ⟨g, e, hg, h1⟩ := own_cell h f0
  obtain ⟨g', e', _, h2⟩ := own_cell h f1
  rw [e] at e'; cases e'
  exact ⟨g, e, hg, h1, h2⟩
set_option maxHeartbeats 1000000 in
theorem right15_ok (p s : Int) (w : World) : Calls Tryz.prog 58 #[ref2 p s] w (RightP p s w) := by
  obtain ⟨w1, hw1⟩ : ∃ w1, w.alloc (.cells #[.int .i64 p, .int .i64 s] 88) = w1 := ⟨_, rfl⟩
  have b0 : w1.heap[w.heap.size]? = some (.cells #[.int .i64 p, .int .i64 s] 88) := by rw [← hw1]; exact heap_alloc_new _ _
  have HF := hid (show Fr (fun _ => False) w w1 by rw [← hw1]; exact (Fr.refl _ _).alloc _)
  obtain ⟨c0, c1, cz, cl⟩ := cells2 b0
  have HW := hid hw1
  clear hw1 b0
  go_enter Tryz.func58, Tryz.ntmps58
  go_upto_region 1 with fail
  rw [HW.out]
  by_cases h1 : 0 ≤ p
  · have d1 : decide ((0 : Int) ≤ p) = true := decide_eq_true h1
    by_cases h2 : p ≤ 2147483647
    · have d2 : decide (p ≤ (2147483647 : Int)) = true := decide_eq_true h2
      by_cases h3 : 0 ≤ s
      · have d3 : decide ((0 : Int) ≤ s) = true := decide_eq_true h3
        go_wp2_with fail
        refine bodyPost_ret (v := .bool true) (by simp [results, go_sem, *]) rfl ⟨by simp [rightM, d1, d2, d3], HF.out⟩
      · have d3 : decide ((0 : Int) ≤ s) = false := decide_eq_false h3
        go_wp2_with fail
        refine bodyPost_ret (v := .bool false) (by simp [results, go_sem, *]) rfl ⟨by simp [rightM, d1, d2, d3], HF.out⟩
    · have d2 : decide (p ≤ (2147483647 : Int)) = false := decide_eq_false h2
      go_wp2_with fail
      refine bodyPost_ret (v := .bool false) (by simp [results, go_sem, *]) rfl ⟨by simp [rightM, d1, d2], HF.out⟩
  · have d1 : decide ((0 : Int) ≤ p) = false := decide_eq_false h1
    go_wp2_with fail
    refine bodyPost_ret (v := .bool false) (by simp [results, go_sem, *]) rfl ⟨by simp [rightM, d1], HF.out⟩
/-- What the document's Double does. -/
def RDbl (v : Value) (l : List Rf) (w : World) (e : Ending) (w' : World) : Prop :=
  Fr (fun _ => False) w w' ∧ ((32 ≤ l.length ∧ e = .returned (.tuple #[v, .int .i64 6])) ∨ (l.length < 32 ∧ ∃ v', e = .returned (.tuple #[v', .int .i64 0]) ∧ Row8 w' v' (dblM l)))
set_option maxHeartbeats 4000000 in
set_option maxRecDepth 100000 in
theorem rdbl15_ok {w : World} {v : Value} {l : List Rf} (h : Row8 w v l) (hl : l.length ≤ 64) : Calls Tryz.prog 59 #[v, .int .i64 32] w (RDbl v l w) := by
  obtain ⟨i0, hi0, hz0, hz1, hz2⟩ := info_parts Tryz.info88
  obtain ⟨n, hn⟩ : ∃ n, l.length = n := ⟨_, rfl⟩
  obtain ⟨va, vc, rfl, -, -, -, -⟩ := own_slice h
  rw [hn]
  have hn64 : n ≤ 64 := by omega
  have HN := hid hn
  have H := hid h
  clear h hl hn
  by_cases h32 : 32 ≤ n
  · have hd : decide ((32 : Int) ≤ (n : Int)) = true := by simp; omega
    go_enter Tryz.func59, Tryz.ntmps59
    go_wp2_with fail
    go_ret2
    exact ⟨Fr.refl _ _, .inl ⟨by rw [HN.out]; exact h32, rfl⟩⟩
  · have hd : decide ((32 : Int) ≤ (n : Int)) = false := by simp; omega
    go_enter Tryz.func59, Tryz.ntmps59
    go_wp2_with fail
    go_loopw [6, 7] (fun v i wr => ∃ k : Nat, k ≤ n ∧ i = .int .i64 k ∧ wr.ownsRow w.heap.size 88 2 v (dblM (l.take k)).length ((dblM (l.take k)).flatMap refC) ∧ Fr (fun _ => False) w wr) (fun _ i _ => n - (intOf i).toNat)
    case atStart => exact ⟨0, Nat.zero_le _, rfl, World.ownsRow_nil _ _ _ _, Fr.refl _ _⟩
    case round =>
      obtain ⟨k, hk, rfl, hown, hF⟩ := hrel
      have HR := hid (And.intro hown hF)
      by_cases hlt : k < n
      · have hd2 : decide ((k : Int) < (n : Int)) = true := by simp; omega
        obtain ⟨r, hr⟩ : ∃ r, l[k]? = some r := ⟨_, List.getElem?_eq_getElem (by rw [HN.out]; exact hlt)⟩
        have hrow : wr.ownsRow 0 88 2 (.slice va l.length vc) l.length (l.flatMap refC) := by rw [HN.out]; have := own_none H.out hF; rwa [HN.out] at this
        obtain ⟨b, rfl, hb, g0, g1⟩ := row8_at hrow hr
        have hki : (k : Int) < (n : Int) := by omega
        have HRk := hid hr
        have hdl : (dblM (l.take k)).length = 2 * k := by rw [dblM_len, List.length_take, HN.out]; omega
        have HDL := hid hdl
        have hsz : w.heap.size ≤ wr.heap.size := hF.size
        obtain ⟨oa, oc, rfl, -, -, -, -⟩ := own_slice hown
        rw [hdl]
        clear hown hF hr hdl hrow
        go_wp2_with fail
        go_region_law
         ((refine step_append_lies _ (by rfl) _ _ _ (by rfl) w.heap.size 88 i0 _ 2 16 Tryz.underlying98 hi0 hz0 hz1 hz2 rfl (by omega) (.slice oa (2 * k) oc) (2 * k) ((dblM (l.take k)).flatMap refC) (by rfl) (by have := (HR.out.1.alloc (.cells #[.int .i64 r.1, .int .i64 r.2, .int .i64 r.1, .int .i64 r.2] 88)).drew; rw [HDL.out] at this; exact this)
            ⟨wr.heap.size, 0, none⟩ 2 2 [.int .i64 r.1, .int .i64 r.2, .int .i64 r.1, .int .i64 r.2] (by rfl) (by rfl) (World.news_of_block (cs := #[.int .i64 r.1, .int .i64 r.2, .int .i64 r.1, .int .i64 r.2]) (t := 88) (fr := (0, 0)) (heap_alloc_new wr _)) (by simp [Value.oneCell'])
            (by omega) (by unfold maxLen; omega) (by omega) (by simp; omega) (wr.heap.size + 1) (by simp) ?_; intro gg cap W5 hown5 hgrow5 hat5 hlt5;
            have H5 := hid (And.intro hown5 hgrow5);
            clear hown5 hgrow5 hat5))
        all_goals
          go_wp2_with fail
          go_roundw
          case rel =>
            have hg5 := H5.out.2
            have ho5 := ((HR.out.1.alloc (.cells #[.int .i64 r.1, .int .i64 r.2, .int .i64 r.1, .int .i64 r.2] 88)).drew)
            rw [HDL.out] at ho5
            have F5 : Fr (fun _ => False) w W5 := ((HR.out.2.alloc (.cells #[.int .i64 r.1, .int .i64 r.2, .int .i64 r.1, .int .i64 r.2] 88)).drew).trans (grown_fr' ho5 hg5) (fun b hb h => by omega)
            refine ⟨k + 1, hlt, by go_num, ?_, F5⟩
            have e2 : (dblM (l.take (k + 1))).flatMap refC = (dblM (l.take k)).flatMap refC ++ [.int .i64 r.1, .int .i64 r.2, .int .i64 r.1, .int .i64 r.2] := by rw [dblM_take HRk.out, List.flatMap_append]; rfl
            have e3 : (dblM (l.take (k + 1))).length = 2 * k + 2 := by rw [dblM_take HRk.out, List.length_append, HDL.out]; rfl
            rw [e2, e3]
            exact H5.out.1
          case measure => simp [intOf]; omega
      · obtain rfl : k = n := by omega
        have hd2 : decide ((k : Int) < (k : Int)) = false := by simp
        have hks : l.take k = l := List.take_of_length_le (by rw [HN.out]; exact Nat.le_refl _)
        rw [hks] at hown
        have H2 := hid (And.intro hown hF)
        clear hown hF
        go_wp2_with fail
        go_ret2
        exact ⟨H2.out.2, .inr ⟨by rw [HN.out]; omega, _, rfl, own_base H2.out.1⟩⟩
end Go.Proofs.YtgdhaaokolfdoaaGreatDoor

/- Chapter 15's document: Set. Conditions: the row of references and the slots lie in the world. -/
namespace Go.Proofs.YtgdhaaokolfdoaaGreatDoor
open Go.RowKit Go.Sg Go.Sg.Bits Go.Sg.Clk CP SF
theorem own_set8 {w : World} {base c g : Nat} {l : List Rf} (h : w.ownsRow base 88 2 (.slice (some ⟨g, 0, none⟩) l.length c) l.length (l.flatMap refC)) {k : Nat} (hk : k < l.length) (p s : Int) :
    ((w.setCell ⟨g, k * 2, none⟩ (.int .i64 p)).setCell ⟨g, k * 2 + 1, none⟩ (.int .i64 s)).ownsRow base 88 2 (.slice (some ⟨g, 0, none⟩) (l.set k (p, s)).length c) (l.set k (p, s)).length ((l.set k (p, s)).flatMap refC) := by
  obtain ⟨hl, ⟨h0, h1⟩ | ⟨g', cap, cur, hv, hb, hg, hc, hm, hs, ht⟩⟩ := h
  · cases h0
  · cases hv
    refine ⟨by rw [refsC_len], .inr ⟨g, c, (cur.setIfInBounds (k * 2) (.int .i64 p)).setIfInBounds (k * 2 + 1) (.int .i64 s), by rw [List.length_set], hb, ?_, by rw [List.length_set]; exact hc, hm, by simpa using hs, ?_⟩⟩
    · rw [heap_setCell_cells _ _ _ _ (heap_setCell_cells _ _ _ _ hg)]
    · rw [flat_set l k p s hk, List.length_set, ← ht]
      simp only [Array.toList_setIfInBounds, List.take_set]
theorem own_some8 {w : World} {b e size n : Nat} {v : Value} {xs : List Value} (h : w.ownsRow b e size v n xs) (hne : v ≠ .slice none 0 0) : ∃ g cap cur, v = .slice (some ⟨g, 0, none⟩) n cap ∧ b ≤ g ∧ w.heap[g]? = some (.cells cur e) := by
  obtain ⟨hl, ⟨h0, _⟩ | ⟨g, cap, cur, hv, hb, hg, r⟩⟩ := h
  · exact absurd h0 hne
  · exact ⟨g, cap, cur, hv, hb, hg⟩
theorem setR_of1 {l : List Rf} {sl : List Int} {p s : Int} (h : rightM p s = false) : setE l.length sl p s = 1 ∧ setR l sl p s = l := by
  have h1 : setE l.length sl p s = 1 := by unfold setE; rw [if_pos h]
  exact ⟨h1, by unfold setR; rw [h1, if_neg (by decide)]⟩
theorem setR_of2 {l : List Rf} {sl : List Int} {p s : Int} (h : rightM p s = true) (ha : sl.any (outB l.length) = true) : setE l.length sl p s = 2 ∧ setR l sl p s = l := by
  have h1 : setE l.length sl p s = 2 := by unfold setE; rw [if_neg (by rw [h]; decide), if_pos ha]
  exact ⟨h1, by unfold setR; rw [h1, if_neg (by decide)]⟩
theorem setR_of0 {l : List Rf} {sl : List Int} {p s : Int} (h : rightM p s = true) (ha : ∀ z ∈ sl, outB l.length z = false) : setE l.length sl p s = 0 ∧ setR l sl p s = setM l (sl.map Int.toNat) (p, s) := by
  have hn : ¬ sl.any (outB l.length) = true := by
    rw [List.any_eq_true]
    rintro ⟨z, hz, h⟩
    rw [ha z hz] at h; cases h
  have h1 : setE l.length sl p s = 0 := by unfold setE; rw [if_neg (by rw [h]; decide), if_neg hn]
  exact ⟨h1, by unfold setR; rw [h1, if_pos rfl]⟩
/-- What the document's Set does. -/
def RSet (l : List Rf) (sl : List Int) (p s : Int) (w : World) (e : Ending) (w' : World) : Prop :=
  Fr (fun _ => False) w w' ∧ ∃ v', e = .returned (.tuple #[v', .int .i64 (setE l.length sl p s)]) ∧ Row8 w' v' (setR l sl p s)
set_option maxHeartbeats 8000000 in
set_option maxRecDepth 100000 in
theorem rset15_ok {w : World} {v : Value} {l : List Rf} (h : Row8 w v l) (hl : l.length ≤ 64) (hl0 : 0 < l.length) {sa : Option Addr} {sn sc : Nat} {sl : List Int} (hs : SlI w sa sn sc sl) (hsn : sn ≤ 100) (p s : Int) :
    Calls Tryz.prog 60 #[v, .slice sa sn sc, ref2 p s] w (RSet l sl p s w) := by
  obtain ⟨i0, hi0, hz0, hz1, hz2⟩ := info_parts Tryz.info88
  obtain ⟨n, hn⟩ : ∃ n, l.length = n := ⟨_, rfl⟩
  obtain ⟨r0, hr0⟩ : ∃ r0, l[0]? = some r0 := ⟨_, List.getElem?_eq_getElem hl0⟩
  obtain ⟨va, vc, rfl, -, -, -, -⟩ := own_slice h
  have hn64 : n ≤ 64 := by omega
  obtain ⟨w1, hw1⟩ : ∃ w1, w.alloc (.cells #[.int .i64 p, .int .i64 s] 88) = w1 := ⟨_, rfl⟩
  have b0 : w1.heap[w.heap.size]? = some (.cells #[.int .i64 p, .int .i64 s] 88) := by rw [← hw1]; exact heap_alloc_new _ _
  have F1 : Fr (fun _ => False) w w1 := by rw [← hw1]; exact (Fr.refl _ _).alloc _
  have HB0 := hid (fun W (F : Fr (fun _ => False) w1 W) => cells2 (F.heap b0 (fun h => h)))
  have HRt := hid (right15_ok p s w1)
  have H1 := hid (And.intro (own_none h F1) (And.intro (hs.fr0 F1) F1))
  have HS0 := hid (And.intro h hs)
  obtain ⟨c0, c1, cz, cl⟩ := cells2 b0
  have HW := hid hw1
  have HN := hid hn
  rw [hn]
  clear hw1 b0 F1 h hs hl hl0 hn hr0
  go_enter Tryz.func60, Tryz.ntmps60
  go_upto_region 1 with fail
  rw [HW.out]
  go_wp2_with fail
  refine HRt.out.mono ?_
  rintro e w2 ⟨rfl, F2⟩
  have HF2 := hid F2
  clear F2 c0 c1 cz cl
  by_cases hr : rightM p s = false
  · rw [hr]
    go_wp2_with fail
    go_ret2
    obtain ⟨e1, e2⟩ := setR_of1 (l := l) (sl := sl) hr
    exact ⟨H1.out.2.2.trans HF2.out (fun _ _ h => h), .slice va n vc, by rw [e1]; rfl, by rw [e2, ← HN.out]; exact own_none H1.out.1 HF2.out⟩
  · have hr' : rightM p s = true := by simpa using hr
    have HRr := hid hr'
    rw [hr']
    clear hr hr'
    go_wp2_with fail
    go_loopw [8] (fun i wr => ∃ k : Nat, k ≤ sn ∧ i = .int .i64 k ∧ wr = w2 ∧ ∀ z ∈ sl.take k, outB n z = false) (fun i _ => sn - (intOf i).toNat)
    case atStart => exact ⟨0, Nat.zero_le _, rfl, rfl, fun z hz => by simp at hz⟩
    case round =>
      obtain ⟨k, hk, rfl, rfl, hout⟩ := hrel
      have HO := hid hout
      clear hout
      by_cases hlt : k < sn
      · have hd : decide ((k : Int) < (sn : Int)) = true := by simp; omega
        have hki : (k : Int) < (sn : Int) := by omega
        obtain ⟨z, hz⟩ : ∃ z, sl[k]? = some z := ⟨_, List.getElem?_eq_getElem (by rw [H1.out.2.1.len]; exact hlt)⟩
        obtain ⟨b, off, rfl, hb, hc⟩ := (H1.out.2.1.fr0 HF2.out).at_ k z hz
        have HZ := hid hz
        clear hz
        by_cases hz0' : z < 0
        · have hdz : decide (z < 0) = true := by simp [hz0']
          go_wp2_with fail
          go_ret2
          have ha : sl.any (outB l.length) = true := List.any_eq_true.2 ⟨z, List.mem_of_getElem? HZ.out, by simp [outB, hz0']⟩
          obtain ⟨e1, e2⟩ := setR_of2 HRr.out ha
          exact ⟨H1.out.2.2.trans HF2.out (fun _ _ h => h), .slice va n vc, by rw [e1]; rfl, by rw [e2, ← HN.out]; exact own_none H1.out.1 HF2.out⟩
        · have hdz : decide (z < 0) = false := by simp; omega
          by_cases hzn : (n : Int) ≤ z
          · have hdn : decide ((n : Int) ≤ z) = true := by simp [hzn]
            go_wp2_with fail
            go_ret2
            have ha : sl.any (outB l.length) = true := List.any_eq_true.2 ⟨z, List.mem_of_getElem? HZ.out, by rw [HN.out]; simp [outB, hzn]⟩
            obtain ⟨e1, e2⟩ := setR_of2 HRr.out ha
            exact ⟨H1.out.2.2.trans HF2.out (fun _ _ h => h), .slice va n vc, by rw [e1]; rfl, by rw [e2, ← HN.out]; exact own_none H1.out.1 HF2.out⟩
          · have hdn : decide ((n : Int) ≤ z) = false := by simp; omega
            have ho : outB n z = false := by simp [outB]; omega
            have HOz := hid ho
            clear ho
            go_wp2_with fail
            go_roundw
            case rel =>
              refine ⟨k + 1, hlt, by go_num, trivial, fun y hy => ?_⟩
              rw [List.take_add_one, HZ.out] at hy
              rcases List.mem_append.1 hy with hy | hy
              · exact HO.out y hy
              · simp at hy; subst hy; exact HOz.out
            case measure => simp [intOf]; omega
      · obtain rfl : k = sn := by omega
        obtain ⟨wo, rfl⟩ : ∃ wo : World, wo = wr := ⟨_, rfl⟩
        have hd : decide ((k : Int) < (k : Int)) = false := by simp
        have hall : ∀ z ∈ sl, outB l.length z = false := fun z hz => by
          rw [HN.out]
          refine HO.out z ?_
          rw [List.take_of_length_le (by rw [H1.out.2.1.len]; exact Nat.le_refl _)]; exact hz
        have HE := hid (setR_of0 (l := l) HRr.out hall)
        have HAll := hid hall
        have HS2 := hid (fun W (F : Fr (fun _ => False) wo W) => own_src (own_none (own_none H1.out.1 HF2.out) F))
        have hlf : (l.flatMap refC).length = n * 2 := by rw [refsC_len, HN.out]
        have HLf := hid hlf
        clear hall hlf
        go_wp2_with (at_builtin; refine wpList_append_src rfl (.tmp 36) (.tmp 37) 98 rfl wo.heap.size 88 i0 _ 2 16 Tryz.underlying98 hi0 hz0 hz1 hz2 rfl (by decide) _ _ _ rfl (own_litB _ _ (Nat.le_refl _) _ _ _ (by simp [go_sem])) (.slice va n vc) n (l.flatMap refC) rfl (by have := HS2.out _ ((Fr.refl _ _).alloc (.cells #[] 88)); rw [HN.out] at this; exact this) HLf.out (by intro u hu; obtain ⟨x, _, hx⟩ := List.mem_flatMap.1 hu; simp [refC] at hx; rcases hx with rfl | rfl <;> rfl) (by simp [maxLen]; omega) (by omega) (by simp) ?_)
        intro v3 W3 hown3 hg3 hne3
        try simp only [List.nil_append, Nat.zero_add] at hown3
        obtain ⟨g, cap, cur, rfl, hgb, hgc⟩ := own_some8 hown3 hne3
        have F3 : Fr (fun _ => False) wo W3 := ((Fr.refl (fun b => b = wo.heap.size) _).alloc _).trans (Fr.of_grownBy hg3) (fun b _ h => h) |>.mono (fun b hb h => by omega)
        have H3 := hid (And.intro (show W3.ownsRow wo.heap.size 88 2 (.slice (some ⟨g, 0, none⟩) l.length cap) l.length (l.flatMap refC) by rw [HN.out]; exact hown3) F3)
        have hgl := lt_of_heap hgc
        have hgw : wo.heap.size ≤ g := hgb
        clear hown3 hg3 hne3 F3 hgc hgb
        go_wp2_with fail
        go_loopw [10] (fun i wr => ∃ q : Nat, q ≤ k ∧ i = .int .i64 q ∧ wr.ownsRow wo.heap.size 88 2 (.slice (some ⟨g, 0, none⟩) (setM l ((sl.take q).map Int.toNat) (p, s)).length cap) (setM l ((sl.take q).map Int.toNat) (p, s)).length ((setM l ((sl.take q).map Int.toNat) (p, s)).flatMap refC) ∧ Fr (fun _ => False) wo wr) (fun i _ => k - (intOf i).toNat)
        case atStart => exact ⟨0, Nat.zero_le _, rfl, H3.out.1, H3.out.2⟩
        case round =>
          obtain ⟨q, hq, rfl, hown, hF⟩ := hrel
          by_cases hlt : q < k
          · have hd : decide ((q : Int) < (k : Int)) = true := by simp; omega
            have hqi : (q : Int) < (k : Int) := by omega
            obtain ⟨z, hz⟩ : ∃ z, sl[q]? = some z := ⟨_, List.getElem?_eq_getElem (by rw [H1.out.2.1.len]; exact hlt)⟩
            obtain ⟨b, off, rfl, hb, hc⟩ := ((H1.out.2.1.fr0 HF2.out).fr0 hF).at_ q z hz
            have ho := HAll.out z (List.mem_of_getElem? hz)
            have ho' : 0 ≤ z ∧ z < n := by
              rw [HN.out] at ho
              simp [outB] at ho; omega
            obtain ⟨zn, rfl⟩ := Int.eq_ofNat_of_zero_le ho'.1
            have hzn : zn < n := by omega
            have hzi : (zn : Int) < (n : Int) := by omega
            have htk : (sl.take (q + 1)).map Int.toNat = (sl.take q).map Int.toNat ++ [zn] := by rw [List.take_add_one, hz]; simp
            obtain ⟨l5, hl5⟩ : ∃ l5, setM l ((sl.take q).map Int.toNat) (p, s) = l5 := ⟨_, rfl⟩
            have hl5n : l5.length = n := by rw [← hl5, setM_len, HN.out]
            have hset : setM l ((sl.take (q + 1)).map Int.toNat) (p, s) = l5.set zn (p, s) := by rw [htk, setM_append, hl5]; rfl
            rw [hl5] at hown
            obtain ⟨q5, hq5⟩ : ∃ q5, l5[zn]? = some q5 := ⟨_, List.getElem?_eq_getElem (by omega)⟩
            obtain ⟨g', e', hg5, d0, d1⟩ := row8_at hown hq5
            cases e'
            have hgf : ∃ c5, wr.heap[g]? = some (.cells c5 88) := by
              obtain ⟨_, ⟨h0, _⟩ | ⟨g', cap', cur', hv, _, hg, _⟩⟩ := hown
              · cases h0
              · cases hv; exact ⟨_, hg⟩
            obtain ⟨c5, hc5⟩ := hgf
            have d5z := fun o => frozen_of_heap hc5 o
            obtain ⟨x0, x1, xz, xl⟩ := HB0.out _ (HF2.out.trans hF (fun _ _ h => h))
            have hos := own_set8 hown (k := zn) (by omega) p s
            have HS5 := hid (And.intro hos (And.intro hset (And.intro hF hl5n)))
            clear htk hl5 hset hown hz ho ho' hq5 hc5 hos hF hl5n
            go_wp2_with fail
            go_region
            all_goals
              go_wp2_with fail
              go_roundw
              case rel =>
                obtain ⟨hos, hset, hF, hl5n⟩ := HS5.out
                refine ⟨q + 1, hlt, by go_num, ?_, ?_⟩
                · rw [hset]
                  exact ownsRow_fr hos ((Fr.refl (fun _ => False) _).drew) (fun _ _ _ h => h)
                · exact Fr.drew (Fr.setCell (S := fun _ => False) (a := ⟨g, zn * 2 + 1, none⟩) (Fr.setCell (S := fun _ => False) (a := ⟨g, zn * 2, none⟩) hF (fun h => by simp at h; omega) _) (fun h => by simp at h; omega) _)
              case measure => simp [intOf]; omega
          · obtain rfl : q = k := by omega
            have hd : decide ((q : Int) < (q : Int)) = false := by simp
            rw [List.take_of_length_le (by rw [H1.out.2.1.len]; exact Nat.le_refl _)] at hown
            have H5 := hid (And.intro hown hF)
            have hlen : (setM l (sl.map Int.toNat) (p, s)).length = n := by rw [setM_len, HN.out]
            clear hown hF
            go_wp2_with fail
            go_ret2
            obtain ⟨e1, e2⟩ := HE.out
            refine ⟨(H1.out.2.2.trans HF2.out (fun _ _ h => h)).trans H5.out.2 (fun _ _ h => h), .slice (some ⟨g, 0, none⟩) n cap, by rw [e1]; rfl, ?_⟩
            rw [e2]
            have := own_base H5.out.1
            rw [hlen] at this
            show wr.ownsRow 0 88 2 (.slice (some ⟨g, 0, none⟩) n cap) (setM l (sl.map Int.toNat) (p, s)).length _
            rw [hlen]
            exact this
end Go.Proofs.YtgdhaaokolfdoaaGreatDoor

/- Chapter 15's law: told. Conditions: the directory and the document's row lie in the world. -/
namespace Go.Proofs.YtgdhaaokolfdoaaGreatDoor
open Go.RowKit Go.Sg Go.Sg.Bits Go.Sg.Clk CP SF
def ToldP (base : Nat) (w : World) (e : Ending) (w' : World) : Prop := e = .returned (.bool true) ∧ FrD base w w'
set_option maxHeartbeats 8000000 in
set_option maxRecDepth 100000 in
theorem told15_ok {w : World} {base bd : Nat} {B : Blk} {y : Cs} {x : DirD} {tops slots : List Rf} {K : Prop} {N : Nat} (h : DirS w base bd B y x tops slots K N) {v : Value} (hr : Row8 w v slots) (hN : N + 100 ≤ 90000) :
    Calls Tryz.prog 61 #[dptr bd, v] w (ToldP base w) := by
  obtain ⟨n, hn⟩ : ∃ n, slots.length = n := ⟨_, rfl⟩
  have hn32 : n ≤ 32 := by rw [← hn, h.c.slen]; exact h.small.2
  obtain ⟨va, vc, rfl, -, -, -, -⟩ := own_slice hr
  have HAl := hid (h.all (by omega))
  have HR := hid hr
  have HN := hid hn
  rw [hn]
  clear h hr hn
  go_enter Tryz.func61, Tryz.ntmps61
  go_wp2_with fail
  refine HAl.out.mono ?_
  rintro e W1 ⟨a1, c1, rfl, hown1, F1, hd1⟩
  rw [HN.out]
  have H1 := hid (And.intro hown1 (And.intro F1 hd1))
  clear hown1 F1 hd1 HAl
  go_wp2_with fail
  go_loopw [7] (fun i wr => ∃ k : Nat, k ≤ n ∧ i = .int .i64 k ∧ FrD base W1 wr ∧ DirS wr base bd B y x tops slots K (N + 10 + 2 * k)) (fun i _ => n - (intOf i).toNat)
  case atStart => exact ⟨0, Nat.zero_le _, rfl, Fr.refl _ _, H1.out.2.2⟩
  case round =>
    obtain ⟨k, hk, rfl, hF, hd⟩ := hrel
    by_cases hlt : k < n
    · have hdl : decide ((k : Int) < (n : Int)) = true := by simp; omega
      have hki : (k : Int) < (n : Int) := by omega
      obtain ⟨⟨p, s⟩, hr⟩ : ∃ r, slots[k]? = some r := ⟨_, List.getElem?_eq_getElem (by rw [HN.out]; exact hlt)⟩
      have HG := hid (hd.get k p s hr (by omega))
      have HFk := hid hF
      have HRk := hid hr
      clear hF hd hr
      go_wp2_with fail
      refine HG.out.mono ?_
      rintro e W2 ⟨rfl, F2, hd2⟩
      have HF2 := hid (HFk.out.trans F2)
      have HD2 := hid hd2
      clear F2 hd2 HG
      go_upto_region 8 with fail
      obtain ⟨W3, hW3⟩ : ∃ W3, W2.alloc (.cells #[.int .i64 p, .int .i64 s] 35) = W3 := ⟨_, rfl⟩
      rw [hW3]
      have b3 : W3.heap[W2.heap.size]? = some (.cells #[.int .i64 p, .int .i64 s] 35) := by rw [← hW3]; exact heap_alloc_new _ _
      have F3 : Fr (fun _ => False) W2 W3 := by rw [← hW3]; exact (Fr.refl _ _).alloc _
      have HF3 := hid F3
      have HC := hid (fun W (F : Fr (fun _ => False) W3 W) => show ∃ g1 g8 : Nat, a1 = some ⟨g1, 0, none⟩ ∧ va = some ⟨g8, 0, none⟩ ∧ (W.cell? ⟨g1, k * 2, none⟩ = some (.int .i64 p) ∧ W.cell? ⟨g1, k * 2 + 1, none⟩ = some (.int .i64 s)) ∧ (W.cell? ⟨g8, k * 2, none⟩ = some (.int .i64 p) ∧ W.cell? ⟨g8, k * 2 + 1, none⟩ = some (.int .i64 s)) ∧ (W.cell? ⟨W2.heap.size, 0, none⟩ = some (.int .i64 p) ∧ W.cell? ⟨W2.heap.size, 1, none⟩ = some (.int .i64 s)) ∧ g1 < W.heap.size ∧ g8 < W.heap.size ∧ W2.heap.size < W.heap.size by
        have F23 : FrD base W1 W := HF2.out.trans (FrD.none (HF3.out.trans F (fun _ _ h => h)))
        obtain ⟨g1, e1, h1, u0, u1⟩ := ownR_at (show OwnR W w.heap.size (.slice a1 slots.length c1) slots from FrD.own H1.out.1 (by decide) F23) HRk.out
        obtain ⟨g8, e8, h8, x0, x1⟩ := row8_at (show W.ownsRow 0 88 2 (.slice va slots.length vc) slots.length (slots.flatMap refC) by have := FrD.own (FrD.own HR.out (by decide) H1.out.2.1) (by decide) F23; exact this) HRk.out
        obtain ⟨t0, t1, tz, tl⟩ := cells2 (F.heap b3 (fun h => h))
        exact ⟨g1, g8, e1, e8, ⟨u0, u1⟩, ⟨x0, x1⟩, ⟨t0, t1⟩, h1, h8, tl⟩)
      obtain ⟨g1, g8, rfl, rfl, ⟨q0, q1⟩, ⟨q2, q3⟩, ⟨q4, q5⟩, l1, l8, lt⟩ := HC.out _ (Fr.refl _ _)
      have HC2 := hid (fun W (F : Fr (fun _ => False) W3 W) => show (W.cell? ⟨g1, k * 2, none⟩ = some (.int .i64 p) ∧ W.cell? ⟨g1, k * 2 + 1, none⟩ = some (.int .i64 s)) ∧ (W.cell? ⟨g8, k * 2, none⟩ = some (.int .i64 p) ∧ W.cell? ⟨g8, k * 2 + 1, none⟩ = some (.int .i64 s)) ∧ (W.cell? ⟨W2.heap.size, 0, none⟩ = some (.int .i64 p) ∧ W.cell? ⟨W2.heap.size, 1, none⟩ = some (.int .i64 s)) by
        obtain ⟨g1', g8', e1, e8, r1, r2, r3, -⟩ := HC.out W F
        cases e1; cases e8
        exact ⟨r1, r2, r3⟩)
      have hn35 : ∀ W, (binOp .neq 35 (ref2 p s) (ref2 p s)).run Tryz.prog W = .ok (.bool false) W := fun W => by rw [neq35]; simp
      have HW3 := hid hW3
      have FG : Fr (fun _ => False) W3 W3.drew := (Fr.refl _ _).drew
      clear b3 F3 hW3
      go_region_held3 (fun W => (W.cell? ⟨g1, k * 2, none⟩ = some (.int .i64 p) ∧ W.cell? ⟨g1, k * 2 + 1, none⟩ = some (.int .i64 s)) ∧ (W.cell? ⟨g8, k * 2, none⟩ = some (.int .i64 p) ∧ W.cell? ⟨g8, k * 2 + 1, none⟩ = some (.int .i64 s)) ∧ (W.cell? ⟨W2.heap.size, 0, none⟩ = some (.int .i64 p) ∧ W.cell? ⟨W2.heap.size, 1, none⟩ = some (.int .i64 s))) (go_keep) (first
        | (go_at_call 51; refine (ref15_ok p s _).mono ?_; rintro _ V1 ⟨rfl, G1⟩; have FG := FG.trans G1 (fun _ _ h => h); obtain ⟨⟨q0, q1⟩, ⟨q2, q3⟩, ⟨q4, q5⟩⟩ := HC2.out _ FG; clear G1))
      go_wp2_with fail
      go_roundw
      case rel => exact ⟨k + 1, hlt, by go_num, HF2.out.trans (FrD.none (HF3.out.trans FG (fun _ _ h => h))), (HD2.out.fr0 (HF3.out.trans FG (fun _ _ h => h))).mono (by omega) (by omega)⟩
      case measure => simp [intOf]; omega
    · obtain rfl : k = n := by omega
      have hdl : decide ((k : Int) < (k : Int)) = false := by simp
      have HFk := hid (H1.out.2.1.trans hF)
      clear hF hd
      go_wp2_with fail
      go_ret
      exact ⟨rfl, HFk.out⟩
end Go.Proofs.YtgdhaaokolfdoaaGreatDoor

/- Chapter 15's directory at a flush, a sync, a commit; opened by its depth and root; what was asked for is not there. Conditions: none. -/
namespace Go.Proofs.YtgdhaaokolfdoaaGreatDoor
open Go.RowKit Go.Sg Go.Sg.Bits Go.Sg.Clk CP SF
/-- A directory whose store is flushed (1), and synced (2). -/
structure DirL (l : Nat) (w : World) (base bd : Nat) (B : Blk) (y : Cs) (x : DirD) (tops slots : List Rf) (K : Prop) (N : Nat) : Prop where
  s : DirS w base bd B y x tops slots K N
  l : StoreL l w B y noP false N
def StepL (l : Nat) (base bd : Nat) (B : Blk) (y : Cs) (x : DirD) (tops slots : List Rf) (K : Prop) (N : Nat) (w : World) (e : Ending) (w' : World) : Prop :=
  e = .returned (.int .i64 0) ∧ FrD base w w' ∧ DirL l w' base bd B y x tops slots K N
theorem DirS.with_store {w w' : World} {base bd : Nat} {B : Blk} {y : Cs} {x : DirD} {tops slots : List Rf} {K : Prop} {N N' : Nat} (h : DirS w base bd B y x tops slots K N) (F : FrB B w w') (hS : StoreC w' B y noP false N') (hN : N ≤ N') : DirS w' base bd B y x tops slots K N' :=
  { h with st := hS, dir := h.dir.frB F, gen := by have := h.gen; omega }
theorem DirS.flush {w : World} {base bd : Nat} {B : Blk} {y : Cs} {x : DirD} {tops slots : List Rf} {K : Prop} {N : Nat} (h : DirS w base bd B y x tops slots K N) (hN : N + 8 ≤ 90000) :
    Calls Tryz.prog 39 #[B.ptr] w (StepL 1 base bd B y x tops slots K (N + 8) w) := by
  have hp := h.places
  refine (flush_c h.st (by rw [hp]; exact hN)).mono ?_
  rintro e w' ⟨err, rfl, F, ⟨rfl, hL⟩ | ⟨_, ha, _⟩⟩
  · rw [hp] at hL
    exact ⟨rfl, by rw [← h.base_]; exact frB_frD F, ⟨h.with_store F hL.c (by omega), hL⟩⟩
  · cases ha
theorem DirL.sync {w : World} {base bd : Nat} {B : Blk} {y : Cs} {x : DirD} {tops slots : List Rf} {K : Prop} {N : Nat} (h : DirL 1 w base bd B y x tops slots K N) (hN : N + 1 ≤ 90000) :
    Calls Tryz.prog 41 #[.pointer (some ⟨B.d, 0, none⟩)] w (StepL 2 base bd B y x tops slots K (N + 1) w) := by
  refine (sync_c h.l hN).mono ?_
  rintro e w' ⟨F, ⟨rfl, hL⟩ | ⟨_, ha, _⟩⟩
  · exact ⟨rfl, by rw [← h.s.base_]; exact frB_frD F, ⟨h.s.with_store F hL.c (by omega), hL⟩⟩
  · cases ha
def StepCm (base bd : Nat) (B : Blk) (x : DirD) (tops slots : List Rf) (N : Nat) (w : World) (e : Ending) (w' : World) : Prop :=
  e = .returned (.tuple #[]) ∧ FrD base w w' ∧ ∃ B' y', (B'.s = B.s ∧ B'.d = B.d) ∧ DirS w' base bd B' y' x tops slots False N
theorem commit_cont {y : Cs} {k : Nat} (h : y.dead k = false) : y.commit.cont k = y.cont k := by
  show (if y.dead k then none else y.cont k) = y.cont k
  rw [h]; rfl
theorem DirC.commit {y : Cs} {x : DirD} {tops slots : List Rf} (h : DirC y x tops slots) (hL : ∀ k ∈ pgs x.rp tops, y.dead k = false) : DirC y.commit x tops slots := by
  have hz := h.z
  refine ⟨⟨hz.most, hz.per, hz.fits, hz.room⟩, h.slen, h.tlen, ⟨h.leaf.sr, h.leaf.tr, fun i r hi => ?_⟩, h.rr, ?_⟩
  · have hr := (h.leaf.tr r (List.mem_of_getElem? hi)).1
    obtain ⟨m, hm⟩ := Int.eq_ofNat_of_zero_le hr
    rw [hm, commit_cont (hL m (by simp only [pgs, List.mem_cons, List.mem_map]; exact .inr ⟨r, List.mem_of_getElem? hi, by omega⟩)), ← hm]
    exact h.leaf.at_ i r hi
  · obtain ⟨m, hm⟩ := Int.eq_ofNat_of_zero_le h.rr.1
    rw [hm, commit_cont (hL m (by simp only [pgs, List.mem_cons]; exact .inl (by omega))), ← hm]
    exact h.root
theorem DirS.commit {w : World} {base bd : Nat} {B : Blk} {y : Cs} {x : DirD} {tops slots : List Rf} {K : Prop} {N : Nat} (h : DirS w base bd B y x tops slots K N) (hN : N + 1 ≤ 90000) :
    Calls Tryz.prog 37 #[B.ptr] w (StepCm base bd B x tops slots (N + 1) w) := by
  have hg := h.gen
  refine (commit_c h.st (by omega) noP (fun s v hv => by cases hv) (fun k _ _ => rfl)).mono ?_
  rintro e w' ⟨n, rfl, hS, F, hn⟩
  have hs := h.small
  have hl := h.live
  have htl := h.c.tlen
  refine ⟨rfl, by rw [← h.base_]; exact frB_frD F, Blk.next B n, y.commit, ⟨rfl, rfl⟩, ⟨hS.mono (by omega) hN, h.dir.frB F, h.c.commit (fun k hk => (hl.tk k (by simpa using hk)).2.2), hl.commit ?_, fun hf => hf.elim, h.plan, h.pages, h.room, h.places, h.base_, h.bd_, h.per, ?_⟩⟩
  · simp only [pgs, List.length_append, List.length_cons, List.length_map, List.length_nil]; omega
  · show y.gen + 1 ≤ _; omega
def StepO (base : Nat) (B : Blk) (y : Cs) (x : DirD) (tops slots : List Rf) (N : Nat) (w : World) (e : Ending) (w' : World) : Prop :=
  ∃ bd', e = .returned (.tuple #[dptr bd', .int .i64 0]) ∧ FrD base w w' ∧ DirS w' base bd' B y x tops slots False N
theorem DirS.opened {w : World} {base bd : Nat} {B : Blk} {y : Cs} {x : DirD} {tops slots : List Rf} {K : Prop} {N : Nat} (h : DirS w base bd B y x tops slots K N) :
    Calls Tryz.prog 53 #[B.ptr, .int .i64 x.depth, ref2 x.rp x.rs] w (StepO base B y x tops slots N w) := by
  have hd := h.c.z.most.1
  have hp := h.per
  have hb := h.bd_
  have hlb := lt_of_heap h.dir
  refine (open_dir_ok h.st (by rw [h.plan]; exact small15_fits) x.depth x.rp x.rs (by rw [h.plan]; show (x.depth : Int) ≤ 5; omega)).mono ?_
  rintro e w' ⟨bd', rfl, hD, hge, F⟩
  have hx : ({ atZ y.plan with depth := x.depth, rp := x.rp, rs := x.rs } : DirD) = x := by
    have h6 : (layM small15).per.toNat = 6 := by decide +kernel
    rw [h.plan]
    unfold atZ
    rw [h6, ← hp.1]
    show (⟨x.per, (5 : Int).toNat, x.depth, x.rp, x.rs⟩ : DirD) = x
    rw [show (5 : Int).toNat = x.most by rw [hp.2]; rfl]
  rw [hx] at hD
  exact ⟨bd', rfl, FrD.none F, { h with st := h.st.fr0 F, dir := hD, calm := fun hf => hf.elim, bd_ := by omega }⟩
theorem DirS.none_get {w : World} {base bd : Nat} {B : Blk} {y : Cs} {x : DirD} {tops slots : List Rf} {K : Prop} {N : Nat} (h : DirS w base bd B y x tops slots K N) (k : Int) (hk : k < 0 ∨ slots.length ≤ k) : Calls Tryz.prog 54 #[dptr bd, .int .i64 k] w (GetE 2 w) :=
  get_range h.dir (by have := h.c.z.most; have := h.per.2; omega) k (by rw [h.c.slen] at hk; exact hk)
end Go.Proofs.YtgdhaaokolfdoaaGreatDoor
