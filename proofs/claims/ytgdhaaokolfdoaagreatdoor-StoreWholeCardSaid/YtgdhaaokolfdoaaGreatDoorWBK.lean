/- A pack of texts: GW, GX, FO, SYN, CR0, CR1. Conditions: those that each text names. -/
import Derived.Test.YtgdhaaokolfdoaaGreatDoorWBJ
import Derived.Test.YtgdhaaokolfdoaaGreatDoorWAJ
import Derived.Test.YtgdhaaokolfdoaaGreatDoorWAS
import Derived.Test.YtgdhaaokolfdoaaGreatDoorWBD
import Derived.Shelf.RegionOpen
import Derived.Test.YtgdhaaokolfdoaaGreatDoorWAR
import Derived.Test.YtgdhaaokolfdoaaGreatDoorWBI
set_option linter.unusedVariables false
set_option linter.unusedSimpArgs false
set_option linter.unnecessarySimpa false
/- flash.given's iterator: it hands over all that a sector was ever given. Conditions: the device lies in the world. -/
namespace Go.Proofs.YtgdhaaokolfdoaaGreatDoor
open Go.RowKit Go.Sg Go.Shelf
attribute [local go_sem] Oper.semAt_some
abbrev encG (x : Sw) : Array Value := #[.slice x.la x.ll x.lc]
/-- A slice of bytes that can be read. -/
def TG (x : Sw) (W : World) : Prop := x.ll ≤ 512 ∧ ∃ bs, ByV W x.la x.ll x.lc bs
theorem TG.fr {x : Sw} {w w' : World} {S : Nat → Prop} (h : TG x w) (F : Fr S w w') (hS : ∀ b c, w.heap[b]? = some (.cells c 5) → ¬ S b) : TG x w' := by
  obtain ⟨h1, bs, h2⟩ := h
  exact ⟨h1, bs, h2.fr F hS⟩
/-- What a body keeps that appends slices to a row in a box. -/
def KpG (m bo M : Nat) (A C : World) : Prop := Fr (fun b => m ≤ b) A C ∧ ∀ b o, A.heap[b]? = some o → b ≠ bo → (∀ c f, o ≠ .cells c 22 f) → (o.isCells = true ∨ M ≤ b) → C.heap[b]? = some o
theorem KpG.trans {m bo M : Nat} {A C D : World} (h : KpG m bo M A C) (k : KpG m bo M C D) : KpG m bo M A D :=
  ⟨h.1.trans k.1 (fun _ _ h => h), fun b o hb hn ht hc => k.2 b o (h.2 b o hb hn ht hc) hn ht hc⟩
theorem KpG.cells {m bo M : Nat} {A C : World} (h : KpG m bo M A C) {b : Nat} {c : Array Value} {t : TypeId} (hb : A.heap[b]? = some (.cells c t)) (ht : t ≠ 22) (hn : b ≠ bo) : C.heap[b]? = some (.cells c t) :=
  h.2 b _ hb hn (fun c' f e => by cases e; exact ht rfl) (.inl rfl)
theorem pastv_rows {w : World} {base N : Nat} {v : Value} (h : PastV w base N v) : ∃ a c, ∃ ws : List Sw, v = .slice a ws.length c ∧ w.ownsRow base 22 1 (.slice a ws.length c) ws.length (ws.map Sw.v) ∧ ws.length ≤ N ∧ ∀ (i : Nat) (x : Sw), ws[i]? = some x → TG x w := by
  obtain ⟨n, xs, hn, ho, hx⟩ := h
  have key : ∀ xs : List Value, (∀ x ∈ xs, ∃ a k cap bs, x = Value.slice a k cap ∧ ByV w a k cap bs ∧ k ≤ 512) → ∃ ws : List Sw, xs = ws.map Sw.v ∧ ∀ x ∈ ws, TG x w := by
    intro xs
    induction xs with
    | nil => exact fun _ => ⟨[], rfl, fun x hx => by cases hx⟩
    | cons x xs ih =>
      intro h
      obtain ⟨ws, rfl, hw⟩ := ih fun z hz => h z (List.mem_cons_of_mem _ hz)
      obtain ⟨a, k, cap, bs, rfl, h1, h2⟩ := h x (by simp)
      exact ⟨⟨a, k, cap⟩ :: ws, rfl, fun z hz => (List.mem_cons.1 hz).elim (fun e => by subst e; exact ⟨h2, bs, h1⟩) (hw z)⟩
  obtain ⟨ws, rfl, hw⟩ := key xs hx
  have hl : ws.length = n := by have := ho.1; simpa using this
  subst hl
  obtain ⟨a, c, rfl, -⟩ := own_slice ho
  exact ⟨a, c, ws, rfl, ho, hn, fun i x hi => hw x (List.mem_of_getElem? hi)⟩
theorem devat_past_row {w : World} {base d bf bq : Nat} {D : Dev} (h : DevAt w base d bf bq D) (k : Nat) :
    ∃ a c, ∃ ws : List Sw, w.ownsRow base 22 1 (.slice a ws.length c) ws.length (ws.map Sw.v) ∧ ws.length ≤ D.acts ∧ (∀ (i : Nat) (x : Sw), ws[i]? = some x → TG x w) ∧
      ∀ W, Fr (fun _ => False) w W → (Instr.lookup 148 (.map (some bq)) (.int .i64 k) false).run Tryz.prog W = .ok (.slice a ws.length c) W := by
  obtain ⟨l, ck, hq, hqn, hqs, hqd⟩ := h.past
  have hlk := fun (W : World) (F : Fr (fun _ => False) w W) => run_lookup (P := Tryz.prog) (T := 148) false Tryz.underlying148 Tryz.underlying3 Tryz.zero203 (F.heap hq (fun h => h)) (k : Int)
  have hpx : PastV w base D.acts ((Sg.look l k).getD (.slice none 0 0)) := by
    cases hl : Sg.look l k with
    | none => exact ⟨0, [], Nat.zero_le _, World.ownsRow_nil _ _ _ _, fun x hx => by cases hx⟩
    | some v =>
      obtain ⟨e0, h1, _, h3⟩ := own_mem hl
      have := hqs e0 h1
      rw [h3] at this
      exact this
  simp only [Bool.false_eq_true, if_false] at hlk
  generalize (Sg.look l k).getD (.slice none 0 0) = pv at hlk hpx
  obtain ⟨a, c, ws, rfl, h1, h2, h3⟩ := pastv_rows hpx
  exact ⟨a, c, ws, h1, h2, h3, hlk⟩
/-- Between two rounds of the iterator's own loop. -/
def GvI (wE : World) (J : List Sw → World → Prop) (b3 bd ba l d k : Nat) (n : Nat) (W : World) : Prop :=
  (∃ pre', pre'.length = n ∧ J pre' W) ∧ Fr (fun _ => False) wE W ∧ W.heap[b3]? = some (.cells #[.func (.yield l) #[] #[]] 42) ∧ W.heap[bd]? = some (.cells #[.pointer (some ⟨d, 0, none⟩)] 27) ∧ W.heap[ba]? = some (.cells #[.int .i64 k] 3)
theorem gvi_own {β : Type} {wE : World} {J : List Sw → World → Prop} {b3 bd ba l d k B B' : Nat} (f : β → Nat) (hJ : OwnFrom B J) (hB : B ≤ B') (hE : wE.heap.size ≤ B') : OwnFrom B' (fun (s : β) W => GvI wE J b3 bd ba l d k (f s) W) :=
  own_and (own_ex fun pre' => own_and (own_pure _ _) (fun _ X Y row hs hg hr => hJ pre' X Y row hs hg fun r e => ⟨Nat.le_trans hB (hr r e).1, (hr r e).2⟩)) (own_and (own_fr hE) (own_and (own_block _ _ _ (fun _ => .inl rfl)) (own_and (own_block _ _ _ (fun _ => .inl rfl)) (own_block _ _ _ (fun _ => .inl rfl)))))
theorem GvI.fr {wE W W' : World} {J : List Sw → World → Prop} {b3 bd ba l d k n : Nat} (h : GvI wE J b3 bd ba l d k n W) (hJ : ∀ pre A C, J pre A → Fr (fun _ => False) A C → J pre C) (F : Fr (fun _ => False) W W') : GvI wE J b3 bd ba l d k n W' := by
  obtain ⟨⟨p, h0, h1⟩, h2, h3, h4, h5⟩ := h
  exact ⟨⟨p, h0, hJ _ _ _ h1 F⟩, h2.trans F (fun _ _ h => h), F.heap h3 (fun h => h), F.heap h4 (fun h => h), F.heap h5 (fun h => h)⟩
theorem GvI.kp {wE W W' : World} {J : List Sw → World → Prop} {b3 bd ba l d k n bo M : Nat} (h : GvI wE J b3 bd ba l d k n W) (K : KpG wE.heap.size bo M W W') (hn : b3 ≠ bo ∧ bd ≠ bo ∧ ba ≠ bo) {pre : List Sw} (hp : pre.length = n + 1) (hJ : J pre W') : GvI wE J b3 bd ba l d k (n + 1) W' := by
  obtain ⟨-, h2, h3, h4, h5⟩ := h
  exact ⟨⟨pre, hp, hJ⟩, h2.trans K.1 (fun b hb hs => by omega), K.cells h3 (by decide) hn.1, K.cells h4 (by decide) hn.2.1, K.cells h5 (by decide) hn.2.2⟩
set_option maxRecDepth 100000 in
set_option maxHeartbeats 4000000 in
theorem given_run {wE w : World} {base d bf bq bd ba bo k : Nat} {D : Dev} (h : DevAt wE base d bf bq D) (hacts : D.acts ≤ 100000) (hk : k < D.sectors) (FE : Fr (fun _ => False) wE w)
    (hbd : w.heap[bd]? = some (.cells #[.pointer (some ⟨d, 0, none⟩)] 27)) (hba : w.heap[ba]? = some (.cells #[.int .i64 k] 3)) (hbo : ∃ v, w.heap[bo]? = some (.cells #[v] 203)) :
    SeqAll Fence.wide 10 Tryz.prog 234 #[.pointer (some ⟨bd, 0, none⟩), .pointer (some ⟨ba, 0, none⟩)] encG TG (Fr (fun _ => False)) (KpG wE.heap.size bo (w.heap.size + 2)) (fun _ => True) 100002 w := fun l J W hW hJ hJR hY h0 => by
  have FW : Fr (fun _ => False) w W := Fr.of_below hW
  have FEW := FE.trans FW (fun _ _ h => h)
  have hD := h.fr FEW (fun h => h) (fun h => h) (fun h => h) (fun _ _ _ _ _ h => h)
  obtain ⟨a, c, ws, hown, hwl, hws, hlk⟩ := devat_past_row h k
  obtain ⟨lv, hdc, -⟩ := h.dc
  have HB := hid (And.intro (FW.heap hbd (fun h => h)) (And.intro (FW.heap hba (fun h => h)) hbo))
  have HRg := hid h.rg
  have HE := hid (And.intro hown (And.intro hwl (And.intro hws hlk)))
  have HD := hid hdc
  have HF := hid (And.intro FEW (And.intro FW FE))
  obtain ⟨n, hn⟩ : ∃ n, ws.length = n := ⟨_, rfl⟩
  have HN := hid hn
  obtain ⟨b3, hb3⟩ : ∃ b3, W.heap.size = b3 := ⟨_, rfl⟩
  obtain ⟨W1, hW1⟩ : ∃ W1, W.alloc (.cells #[.func (.yield l) #[] #[]] 42) = W1 := ⟨_, rfl⟩
  have F1 : Fr (fun _ => False) W W1 := by rw [← hW1]; exact (Fr.refl _ _).alloc _
  have h3 : W1.heap[b3]? = some (.cells #[.func (.yield l) #[] #[]] 42) := by rw [← hW1, ← hb3]; exact heap_alloc_new _ _
  have HG := hid (show GvI wE J b3 bd ba l d k 0 W1 from ⟨⟨[], rfl, hJR _ _ _ h0 F1⟩, FEW.trans F1 (fun _ _ h => h), h3, F1.heap HB.out.1 (fun h => h), F1.heap HB.out.2.1 (fun h => h)⟩)
  have HW1 := hid hW1
  have HB3 := hid hb3
  have HF1 := hid F1
  have hne : b3 ≠ bo ∧ bd ≠ bo ∧ ba ≠ bo := by
    obtain ⟨v, hv⟩ := hbo
    refine ⟨fun e => ?_, fun e => ?_, fun e => ?_⟩
    · have := lt_of_heap hv; have := FW.size; omega
    · rw [e, hv] at hbd; cases hbd
    · rw [e, hv] at hba; cases hba
  have HNe := hid hne
  clear h hD hdc hW h0 FW FEW FE hbd hba hbo hown hwl hws hlk hn hW1 F1 h3 hb3 hne
  refine callsIn_of_wp_marks Tryz.func234 rfl trivial ?_ rfl
  simp only [Tryz.ntmps234, List.size_toArray, List.length_cons, List.length_nil, Nat.reduceAdd, Nat.reduceSub, Array.replicate_succ, Array.replicate_zero, List.push_toArray, List.append_toArray, List.nil_append, List.cons_append]
  gi_upto_region 1 with (fail)
  rw [HW1.out, HB3.out]
  have c1 := cell_of_heap HG.out.2.2.2.1 0
  have c2 := cell_of_heap HG.out.2.2.2.2 0
  simp at c1 c2
  have HTh := hid (there_yes (d := d) (at_ := (k : Int)) (n := (D.sectors : Int)) (by have := cell_of_heap (HG.out.2.1.heap HD.out (fun h => h)) 0; simpa using this) (by omega) (by omega))
  gi_wp2_with (gi_at_call 230; refine (callsIn_wide.2 HTh.out).mono ?_; rintro e w' ⟨rfl, rfl⟩)
  have hd4 : W1.cell? ⟨d, 4, none⟩ = some (.map (some bq)) := by simpa using cell_of_heap (HG.out.2.1.heap HD.out (fun h => h)) 4
  have HC := hid (fun V (F : Fr (fun _ => False) W1 V) => And.intro ((F.cell (p := ⟨bd, 0, none⟩) (lt_of_heap HG.out.2.2.2.1) (fun h => h)).trans c1) (And.intro ((F.cell (p := ⟨ba, 0, none⟩) (lt_of_heap HG.out.2.2.2.2) (fun h => h)).trans c2) (And.intro ((F.cell (p := ⟨d, 4, none⟩) (World.block_lt_of_cell? _ _ hd4) (fun h => h)).trans hd4) (And.intro (World.block_lt_of_cell? _ _ hd4) (HE.out.2.2.2 V (HG.out.2.1.trans F (fun _ _ h => h)))))))
  have FD := (Fr.refl (fun _ => False) W1).drew
  refine wpIn_wide.2 (wp_region_noPanic ?_)
  refine region_plan (fun V => Fr (fun _ => False) W1 V) (.rd 0 (.rd 1 (.rd 2 (.rd 3 (.rd 4 (.rd 5 (.op 6 .done))))))) (by kernel_rfl) (by kernel_rfl) (by kernel_rfl) (fun _ _ _ _ _ h => h) FD ?_
  iterate 6
    try simp only [Act.put, List.setIfInBounds_toArray, List.set_cons_zero, List.set_cons_succ]
    refine plan_rd _ ?_ (by simp only [List.getElem?_toArray, List.getElem?_cons_zero, List.getElem?_cons_succ]; rfl) (by rfl) ?_ ?_
    rotate_left
    · intro V hV
      obtain ⟨e1, e2, e3, e4, e5⟩ := HC.out V hV
      go_simp
      try with_reducible rfl
  try simp only [Act.put, List.setIfInBounds_toArray, List.set_cons_zero, List.set_cons_succ]
  refine plan_op _ (by simp only [List.getElem?_toArray, List.getElem?_cons_zero, List.getElem?_cons_succ]; rfl) (by rfl) (fun K hK => ?_)
  go_simp
  refine (backS_any a ws.length c _).mono ?_
  rintro _ W2 ⟨rfl, hW2⟩
  refine hK _ _ (by rw [← hW2]; exact FD.alloc _) ?_
  clear hK K
  refine plan_done ?_
  refine NoPanic.normal ?_
  try simp only [Act.put, List.setIfInBounds_toArray, List.set_cons_zero, List.set_cons_succ]
  gi_wp2_with (fail)
  obtain ⟨bx, hbx⟩ : ∃ bx, W1.heap.size = bx := ⟨_, rfl⟩
  have F2 : Fr (fun _ => False) W1 W2 := by rw [← hW2]; exact FD.alloc _
  have hx2 : W2.heap[bx]? = some (.cells #[.slice a ws.length c] 203) := by rw [← hW2, ← hbx]; exact heap_alloc_new _ _
  have hG2 := GvI.fr HG.out hJR F2
  have hs2 := lt_of_heap hx2
  have hsE : wE.heap.size ≤ bx := by have := HG.out.2.1.size; omega
  have hsW : W.heap.size ≤ bx := by have := HF1.out.size; omega
  have hsM : w.heap.size + 2 ≤ W2.heap.size := by have := HF.out.2.1.size; have := HF1.out.size; have := lt_of_heap HG.out.2.2.1; have := HB3.out; omega
  have hown2 := ownsRow_fr HE.out.1 (HG.out.2.1.trans F2 (fun _ _ h => h)) (fun _ _ _ h => h)
  have hla : ∀ g, a = some ⟨g, 0, none⟩ → g < wE.heap.size := fun g e => by
    obtain ⟨_, ⟨h1, h2⟩ | ⟨g', cap, cur, h1, _, hg, _⟩⟩ := HE.out.1
    · obtain ⟨h3, _, _⟩ := Value.slice.inj h1
      rw [h3] at e; cases e
    · obtain ⟨h3, _, _⟩ := Value.slice.inj h1
      rw [h3] at e; cases e; exact lt_of_heap hg
  simp only [hbx]
  have HLA := hid hla
  have HX2 := hid (And.intro hx2 (And.intro hG2 F2))
  clear hW2 hG2 F2 FD hla c1 c2 hd4
  refine wpIn_rangeFunc_ownH (F := Fence.wide) rfl (by omega) (gf := 271) (lb := #[.pointer (some ⟨bx, 0, none⟩)]) rfl trivial (enters_of Tryz.func271 (by kernel_rfl) rfl)
    (backS_stops (ok := fun _ x => TG x wE) hown2 (by have := HE.out.2.1; omega) (fun i x hx => HE.out.2.2.1 i x hx) hx2) (fun h k => ⟨k.1.trans h.1, fun g e => (k.2 g e).trans (h.2 g e)⟩) (fun W l o o' hl _ _ _ => ⟨heap_putObj_ne _ _ _ _ (by omega), fun g e => heap_putObj_ne _ _ _ _ (by have := HLA.out g e; omega)⟩) (Below.refl _ _) (fun _ => rfl)
    (fun pre V => GvI wE J b3 bd ba l d k pre.length V ∧ V.heap[bx]? = some (.cells #[.slice a ws.length c] 203)) (fun _ _ _ => False) (own_and (gvi_own _ hJ (by omega) (by omega)) (own_block _ _ _ (fun _ => .inl rfl))) (fun _ _ _ _ _ h _ _ => h.elim) ⟨HX2.out.2.1, HX2.out.1⟩
    (fun x a' _ => a' = { tmps := #[.func (.yield l) #[] #[], .pointer (some ⟨bd, 0, none⟩), .pointer (some ⟨ba, 0, none⟩), .pointer (some ⟨b3, 0, none⟩), undef, .slice x.1.2.la x.1.2.ll x.1.2.lc, .pointer (some ⟨d, 0, none⟩), .bool false, .bool false, .pointer (some ⟨d, 0, none⟩), .int .i64 k, .bool true, .bool false, .bool false, .pointer (some ⟨d, 0, none⟩), .pointer (some ⟨d, 0, none⟩), .pointer (some ⟨d, 4, none⟩), .map (some bq), .int .i64 k, .slice a ws.length c, .func (.func 271) #[] #[.pointer (some ⟨bx, 0, none⟩)], .int .i64 x.1.1, .slice x.1.2.la x.1.2.ll x.1.2.lc, undef, undef, undef, undef, undef, undef, undef, undef, undef, undef, undef, undef], defers := [] })
    (fun x a' => own_pure _ (fun _ => _)) ?assign ?body ?done ?stop
  case assign =>
    rintro l2 pre x V K hI hK
    gi_wp2
    exact hK _ _ (KeepsFrom.refl _ _) ⟨rfl, fun _ _ => rfl⟩ hI rfl
  case body =>
    rintro l2 pre ⟨⟨i, ⟨xa, xl, xc⟩⟩, hok⟩ a' V hl hr ⟨hI, hbV⟩ rfl hlt
    obtain ⟨hl5, bs, hb⟩ := hok
    replace hl5 : xl ≤ 512 := hl5
    have hbV2 := hb.fr hI.2.1 (fun _ _ _ h => h)
    have hI' := hI
    obtain ⟨⟨pre', hpl, hJ'⟩, -⟩ := hI'
    have HC2 := hid (fun (V' : World) (F : Fr (fun _ => False) V V') => clone_v (hbV2.fr F (fun _ _ _ h => h)).slb (by omega))
    have HYi := hid (fun (V2 : World) (va : Option Addr) (vc : Nat) (F : Fr (fun _ => False) V V2) (hbv : ByV V2 va xl vc bs) => hY pre' ⟨va, xl, vc⟩ V2 (hJR _ _ _ hJ' F) ⟨hl5, bs, hbv⟩ (by have := HE.out.2.1; omega))
    have HI := hid (And.intro hI (And.intro hbV hpl))
    have c3 := cell_of_heap hI.2.2.1 0
    simp at c3
    have FIN := hid (fun (V2 V3 : World) (va : Option Addr) (vc : Nat) (F : Fr (fun _ => False) V V2) (hJ3 : J (pre' ++ [(⟨va, xl, vc⟩ : Sw)]) V3) (hk3 : KpG wE.heap.size bo (w.heap.size + 2) V2 V3) =>
      (show KeepsFrom W2.heap.size V V3 ∧ KpB bx a V V3 ∧ GvI wE J b3 bd ba l d k (pre.length + 1) V3 ∧ V3.heap[bx]? = some (.cells #[.slice a ws.length c] 203) from by
        obtain ⟨v, hv⟩ := HB.out.2.2
        have hbo := lt_of_heap hv
        have hb3 := hk3.cells (F.heap hbV (fun h => h)) (by decide) (by have := HF.out.2.1.size; omega)
        refine ⟨(keepsFrom_fr F).trans ⟨hk3.1.size, fun b o hb ho hc => hk3.2 b o ho (by omega) (fun c' f e => by rw [e] at hc; cases hc) (.inr (by omega))⟩, ⟨hb3.trans hbV.symm, fun g e => ?_⟩, (GvI.fr hI hJR F).kp hk3 HNe.out (by simp [hpl]) hJ3, hb3⟩
        have hg := HLA.out g e
        have hgV : g < V.heap.size := by have := lt_of_heap hbV; omega
        exact (hk3.1.block g (Nat.lt_of_lt_of_le hgV F.size) (by omega)).trans (F.block g hgV (fun h => h))))
    have hmo : Tryz.prog.follows .mixedOrders = true := by kernel_rfl
    clear hI hbV hbV2 hJ'
    gi_wp2
    gi_region_with_o (first
      | (gi_at_call 83; refine (CallsIn.inRound l2 (callsIn_wide.2 (HC2.out _ (by first | exact Fr.refl _ _ | exact (Fr.refl _ _).drew)))).mono ?_; rintro e V2 ⟨va, vc, rfl, hbv, F2⟩; have F02 := Fr.trans (Fr.drew (Fr.refl (fun _ => False) V)) F2 (fun _ _ h => h); obtain ⟨fn, tmps, assign, body, hy, hRR⟩ := HYi.out V2 va vc F02 hbv; have c4 := (F02.cell (p := ⟨b3, 0, none⟩) (World.block_lt_of_cell? _ _ c3) (fun h => h)).trans c3)
      | (refine (round_any hRR).mono ?_; rintro e V3 ⟨rfl, hJ3, hk3⟩))
    all_goals
      gi_wp2
      obtain ⟨q1, q2, q3, q4⟩ := FIN.out V2 V3 va vc F02 hJ3 hk3
      exact ⟨q1, q2, by rw [List.length_append]; exact q3, q4⟩
  case done =>
    rintro DD xs V hDD hS ⟨hI, hbV⟩ hK
    have HI := hid (And.intro hI (And.intro hbV hK))
    obtain ⟨⟨pre', hpl, hJ'⟩, hEV, y3, yd, ya⟩ := hI
    have c3 := cell_of_heap y3 0
    have c1 := cell_of_heap yd 0
    have c5 : V.cell? ⟨d, 1, none⟩ = some (.int .i64 D.size) := by simpa using cell_of_heap (hEV.heap HD.out (fun h => h)) 1
    have cl := World.block_lt_of_cell? _ _ c5
    simp at c3 c1
    have cl3 := World.block_lt_of_cell? _ _ c3
    simp only at cl cl3
    obtain ⟨i0, hi, hz0, hz1, hz2⟩ := info_parts Tryz.info5
    have hrg := HRg.out.2
    have hmk := fun V' => run_make_len (P := Tryz.prog) 22 5 i0 _ Tryz.underlying22 hi hz0 D.size (by rw [hz2]; omega) (by omega) V'
    rw [hz1] at hmk
    simp only [Value.cells, Nat.mul_one] at hmk
    have hzs : (List.replicate D.size (Value.int .u8 0)).toArray = madeCells #[.int .u8 0] D.size := by apply Array.toList_inj.1; rw [toList_madeCells_one]
    rw [← hzs] at hmk
    obtain ⟨zs, hzs'⟩ : ∃ zs, (List.replicate D.size (Value.int .u8 0)).toArray = zs := ⟨_, rfl⟩
    rw [hzs'] at hmk
    obtain ⟨sz, hsz⟩ : ∃ sz, D.size = sz := ⟨_, rfl⟩
    rw [hsz] at hmk hzs' hrg c5
    have hxl : xs.length = ws.length := by have := congrArg List.length hS; rw [bkS_len] at this; simpa using this
    obtain ⟨fn, tmps, assign, body, hy, hRR⟩ := hY pre' ⟨some ⟨V.heap.size, 0, none⟩, sz, sz⟩ (V.alloc (.cells zs 5)).drew (hJR _ _ _ hJ' (((Fr.refl _ _).alloc _).drew)) ⟨hrg.2, _, ByV.zeros (f := (0, 0)) (by rw [hzs']; exact heap_alloc_new V _)⟩ (by rw [hpl, hxl]; have := HE.out.2.1; omega)
    have hmo : Tryz.prog.follows .mixedOrders = true := by kernel_rfl
    clear hi hz0 hz1 hz2 hzs hzs' hEV y3 yd ya hbV hJ' hK hsz hS
    gi_wp2
    refine wpIn_mono ?_ NoPanic.imp
    gi_region_with_o (refine hRR.mono ?_; rintro e V3 ⟨rfl, hJ3, hk3⟩)
    all_goals
      refine NoPanic.normal ?_
      obtain ⟨v, hv⟩ := HB.out.2.2
      have hbo := lt_of_heap hv
      have hK3 : V3.heap[DD]? = some (.deferred (some [])) := hk3.2 DD _ ((((Fr.refl (fun _ => False) V).alloc _).drew).heap HI.out.2.2 (fun h => h)) (by omega) (fun c' f e => by cases e) (.inr (by omega))
      exact marks_end0 rfl hK3 ⟨⟨_, rfl⟩, _, trivial, hJ.putObj _ hJ3 (by omega) hK3 rfl⟩
  case stop => exact fun _ _ _ _ _ _ h => h.elim
end Go.Proofs.YtgdhaaokolfdoaaGreatDoor

/- flash.Past: it ends, and gives slices of bytes that can be read. Conditions: the device lies in the world. -/
namespace Go.Proofs.YtgdhaaokolfdoaaGreatDoor
open Go.RowKit Go.Sg Go.Shelf
attribute [local go_sem] Oper.semAt_some
/-- Between two rounds of Past's loop. -/
def PaI (w : World) (bo : Nat) (pre : List Sw) (W : World) : Prop :=
  (∃ v, W.heap[bo]? = some (.cells #[v] 203) ∧ W.ownsRow w.heap.size 22 1 v pre.length (pre.map Sw.v)) ∧ (∀ x ∈ pre, TG x W) ∧ Fr (fun _ => False) w W
theorem pai_fr {w W W' : World} {bo : Nat} {pre : List Sw} (h : PaI w bo pre W) (F : Fr (fun _ => False) W W') : PaI w bo pre W' := by
  obtain ⟨⟨v, h1, h2⟩, h3, h4⟩ := h
  exact ⟨⟨v, F.heap h1 (fun h => h), ownsRow_fr h2 F (fun _ _ _ h => h)⟩, fun x hx => (h3 x hx).fr F (fun _ _ _ h => h), h4.trans F (fun _ _ h => h)⟩
theorem pai_own {w : World} {bo m : Nat} (hm : w.heap.size ≤ m) : OwnFrom m (PaI w bo) :=
  own_of (fun pre W W' h F => pai_fr h F)
   (fun pre W W' k h F hk hc => by
    have n1 : ∀ b cs t f, W.heap[b]? = some (.cells cs t f) → ¬ b = k := fun b cs t f hb e => by rw [e] at hb; exact hc _ _ _ hb
    obtain ⟨⟨v, h1, h2⟩, h3, h4⟩ := h
    exact ⟨⟨v, F.heap h1 (n1 _ _ _ _ h1), ownsRow_fr h2 F (fun g c hg e => n1 _ _ _ _ hg e)⟩, fun x hx => (h3 x hx).fr F (fun g c hg e => n1 _ _ _ _ hg e), h4.trans F (fun b hb e => by omega)⟩)
/-- What Past tells. -/
def PastP (w : World) (e : Ending) (w' : World) : Prop :=
  ∃ va vc, ∃ xs : List Sw, e = .returned (.slice va xs.length vc) ∧ w'.ownsRow w.heap.size 22 1 (.slice va xs.length vc) xs.length (xs.map Sw.v) ∧ (∀ x ∈ xs, TG x w') ∧ Fr (fun _ => False) w w'
theorem own_b22 {w : World} {base e size n g : Nat} {v : Value} {xs : List Value} (h : w.ownsRow base e size v n xs) (hg : v.ownBlock = some g) : base ≤ g ∧ ∃ c, w.heap[g]? = some (.cells c e) := by
  obtain ⟨_, ⟨h1, _⟩ | ⟨g', cap, cur, h1, hb, hgc, _⟩⟩ := h
  · rw [h1] at hg; cases hg
  · rw [h1] at hg; cases hg; exact ⟨hb, cur, hgc⟩
set_option maxRecDepth 100000 in
set_option maxHeartbeats 4000000 in
theorem past_ok {w : World} {base d bf bq k : Nat} {D : Dev} (h : DevAt w base d bf bq D) (hacts : D.acts ≤ 100000) (hk : k < D.sectors) :
    Calls Tryz.prog 116 #[.pointer (some ⟨d, 0, none⟩), .int .i64 k] w (PastP w) := by
  refine (callsIn_wide (n := 11)).1 ?_
  have H := hid h
  obtain ⟨bo, hbo⟩ : ∃ bo, w.heap.size = bo := ⟨_, rfl⟩
  obtain ⟨w1, hw1⟩ : ∃ w1, w.alloc (.cells #[.slice none 0 0] 203) = w1 := ⟨_, rfl⟩
  have F1 : Fr (fun _ => False) w w1 := by rw [← hw1]; exact (Fr.refl _ _).alloc _
  have h1 : w1.heap[bo]? = some (.cells #[.slice none 0 0] 203) := by rw [← hw1, ← hbo]; exact heap_alloc_new _ _
  have HW := hid (And.intro hw1 (And.intro F1 h1))
  have HBo := hid hbo
  obtain ⟨i0, hi0, hz0, hz1, hz2⟩ := info_parts Tryz.info22
  have HI := hid (And.intro hi0 (And.intro hz0 (And.intro hz1 hz2)))
  clear h hw1 F1 h1 hbo hi0 hz0 hz1 hz2
  refine callsIn_of_wp_marks Tryz.func116 rfl trivial ?_ rfl
  simp only [Tryz.ntmps116, List.size_toArray, List.length_cons, List.length_nil, Nat.reduceAdd, Nat.reduceSub, Array.replicate_succ, Array.replicate_zero, List.push_toArray, List.append_toArray, List.nil_append, List.cons_append]
  gi_wp2_with (fail)
  rw [HW.out.1, HBo.out]
  refine (callsIn_wide.2 (given_fn d k w1)).mono ?_
  rintro e W0 ⟨rfl, hW0⟩
  obtain ⟨p0, p1, F0⟩ := heap_two hW0
  have F00 := HW.out.2.1.trans F0 (fun _ _ h => h)
  have hb0 := F0.heap HW.out.2.2 (fun h => h)
  have hs0 : W0.heap.size = w1.heap.size + 2 := by rw [← hW0]; simp
  have hs1 : w.heap.size < w1.heap.size := by have := lt_of_heap HW.out.2.2; have := HBo.out; omega
  gi_wp2_with (fail)
  refine wpIn_range_all (F := Fence.wide) rfl (by omega) (gf := 234) (lb := #[.pointer (some ⟨w1.heap.size, 0, none⟩), .pointer (some ⟨w1.heap.size + 1, 0, none⟩)]) rfl trivial (enters_of Tryz.func234 (by kernel_rfl) rfl)
    (PaI w bo) (given_run H.out hacts hk F00 p0 p1 ⟨_, hb0⟩)
    (fun pre A C h F => pai_fr h F) (fun A C b o F _ ho _ => F.heap ho (fun h => h)) (fun h k => h.trans k)
    (fun W l o o' hl ho hc _ => ?kb) (Below.refl _ _) (fun _ => rfl) (pai_own F00.size) ⟨⟨_, hb0, World.ownsRow_nil _ _ _ _⟩, fun x hx => (by cases hx), F00⟩
    (fun x a' W => TG x W ∧ a' = { tmps := #[.pointer (some ⟨d, 0, none⟩), .int .i64 k, undef, undef, .slice none 0 0, .pointer (some ⟨bo, 0, none⟩), .slice x.la x.ll x.lc, .pointer (some ⟨d, 0, none⟩), .int .i64 k, .func (.func 234) #[] #[.pointer (some ⟨w1.heap.size, 0, none⟩), .pointer (some ⟨w1.heap.size + 1, 0, none⟩)], .slice x.la x.ll x.lc, undef, undef, undef, undef, undef], defers := [] })
    ?hAx ?assign ?body ?done
  case kb =>
    refine ⟨(Fr.refl (fun b => w.heap.size ≤ b) W).putObj (fun _ => by have := F00.size; omega) o', fun b o1 hb hn ht hcl => ?_⟩
    have hne : l ≠ b := fun e => by
      subst e
      rw [ho] at hb; cases hb
      rcases hcl with h | h
      · rw [hc] at h; cases h
      · omega
    rw [heap_putObj_ne _ _ _ _ hne]; exact hb
  case hAx => exact fun x a' => own_and (own_and (own_pure _ _) (own_ex fun bs => fun _ _ _ _ hs hg hr => own_byv hs hg hr)) (own_pure _ (fun _ => _))
  case assign =>
    rintro l2 pre x V K hI hT hK
    gi_wp2
    exact hK _ _ (KeepsFrom.refl _ _) ⟨Fr.refl _ _, fun b o h _ _ _ => h⟩ hI ⟨hT, rfl⟩
  case body =>
    rintro l2 pre ⟨xa, xl, xc⟩ a' V hl hr hI ⟨hT, rfl⟩ hlt
    obtain ⟨⟨v, hv, hown⟩, hT', hF⟩ := hI
    have e0 := cell_of_heap hv 0
    have e1 := frozen_of_heap hv 0
    have l1 := lt_of_heap hv
    simp at e0
    have hsW := hF.size
    have HV := hid (And.intro hv (And.intro hown (And.intro hT' (And.intro hF hT))))
    obtain ⟨hi0, hz0, hz1, hz2⟩ := HI.out
    clear hv hown hT' hF hT
    gi_wp2_with (gi_at_builtin; refine wpListIn_append_own _ rfl (.tmp 11) (.tmp 13) 203 rfl w.heap.size 22 i0 _ 1 24 Tryz.underlying203 hi0 hz0 hz1 hz2 rfl (by decide) _ _ _ rfl (HV.out.2.1.alloc _) ⟨V.heap.size, 0, none⟩ 1 1 [.slice xa xl xc] rfl rfl (cell_one_new _ _ _) (by simp [Value.oneCell']) ?c3 ?c4 ?c5 ?_)
    case c3 => simp [maxLen]; omega
    case c4 => omega
    case c5 => simp; omega
    intro v1 w2 hown2 hgrow hnil
    obtain ⟨g, cap, rfl⟩ := ownsRow_succ hown2
    obtain ⟨hv, hown, hT', hF, hT⟩ := HV.out
    have FA : Fr (fun _ => False) V (V.alloc (.cells #[.slice xa xl xc] 22)) := (Fr.refl _ _).alloc _
    have F2 : Fr (fun b => v.ownBlock = some b) V w2 := (FA.mono (S' := fun b => v.ownBlock = some b) (fun _ _ h => h.elim)).trans (S' := fun b => v.ownBlock = some b) ⟨hgrow.os, hgrow.tape, hgrow.output, hgrow.size, fun b hb hn => hgrow.block b hb (fun e => hn e.symm)⟩ (fun b hb h => h)
    have hne : ¬ v.ownBlock = some bo := fun e => by
      obtain ⟨-, c, hc⟩ := own_b22 hown e
      rw [hv] at hc; cases hc
    have hv2 := F2.heap hv hne
    have f0 := cell_of_heap hv2 0
    have f1 := frozen_of_heap hv2 0
    have l2' := lt_of_heap hv2
    simp at f0
    have H2 := hid (And.intro F2 (And.intro hv2 (And.intro hown2 hgrow)))
    clear hv hown hT' hF hT FA F2 hne hv2 hown2 hgrow hnil e0 e1
    gi_wp2
    obtain ⟨hv, hown, hT', hF, hT⟩ := HV.out
    obtain ⟨F2, hv2, hown2, hgrow⟩ := H2.out
    obtain ⟨V4, hV4⟩ : ∃ V4, w2.setCell ⟨bo, 0, none⟩ (.slice (some ⟨g, 0, none⟩) (pre.length + 1) cap) = V4 := ⟨_, rfl⟩
    rw [hV4]
    have F34 : Fr (fun b => b = bo) w2 V4 := by rw [← hV4]; exact (Fr.refl (fun b => b = bo) _).setCell (a := ⟨bo, 0, none⟩) (fun _ => rfl) _
    have hv4 : V4.heap[bo]? = some (.cells #[.slice (some ⟨g, 0, none⟩) (pre.length + 1) cap] 203) := by rw [← hV4, heap_setCell_cells _ _ _ _ hv2]; rfl
    have F4 : Fr (fun b => b = bo ∨ v.ownBlock = some b) V V4 := (F2.mono (fun _ _ h => .inr h)).trans F34 (fun _ _ h => .inl h)
    have hwbo : w.heap.size ≤ bo := Nat.le_of_eq HBo.out
    have k5 : ∀ b c, V.heap[b]? = some (.cells c 5) → ¬ (b = bo ∨ v.ownBlock = some b) := fun b c hb e => by
      rcases e with e | e
      · rw [e, hv] at hb; cases hb
      · obtain ⟨-, c', hc⟩ := own_b22 hown e
        rw [hb] at hc; cases hc
    have hfr : ∀ b, b < V.heap.size → b = bo ∨ v.ownBlock = some b → w.heap.size ≤ b := fun b _ e => by
      rcases e with e | e
      · omega
      · exact (own_b22 hown e).1
    refine ⟨⟨F4.size, fun b o _ hb hc => F4.heap hb fun e => ?_⟩, ⟨F4.mono hfr, fun b o hb hn ht _ => F4.heap hb fun e => ?_⟩, ⟨⟨_, hv4, ?_⟩, fun x hx => ?_, hF.trans F4 (fun b hb e => by have := hfr b (Nat.lt_of_lt_of_le hb hF.size) e; omega)⟩⟩
    · rcases e with e | e
      · rw [e, hv] at hb; cases hb; cases hc
      · obtain ⟨-, c', hcc⟩ := own_b22 hown e
        rw [hcc] at hb; cases hb; cases hc
    · rcases e with e | e
      · exact hn e
      · obtain ⟨-, c', hcc⟩ := own_b22 hown e
        rw [hcc] at hb; cases hb; exact ht _ _ rfl
    · rw [List.length_append, List.map_append, List.length_singleton]
      refine ownsRow_fr hown2 F34 (fun g' c hg e => ?_)
      rw [e, hv2] at hg; cases hg
    · rcases List.mem_append.1 hx with hx | hx
      · exact (hT' x hx).fr F4 k5
      · rw [List.mem_singleton] at hx
        subst hx
        exact hT.fr F4 k5
  case done =>
    rintro DD xs V hDD hS ⟨⟨v, hv, hown⟩, hT', hF⟩ hK
    obtain ⟨va, vc, rfl, -⟩ := own_slice hown
    have e0 := cell_of_heap hv 0
    simp at e0
    have HV := hid (And.intro hv (And.intro hown (And.intro hT' hF)))
    clear hv hown hT' hF
    gi_wp2
    obtain ⟨hv, hown, hT', hF⟩ := HV.out
    have FP : Fr (fun b => b = DD) V (V.putObj DD (.deferred none)) := (Fr.refl (fun b => b = DD) _).putObj (fun _ => rfl) _
    have n1 : ∀ b cs t f, V.heap[b]? = some (.cells cs t f) → ¬ b = DD := fun b cs t f hb e => by rw [e, hK] at hb; cases hb
    exact marks_ret1 (t := 4) rfl hK ⟨va, vc, xs, rfl, ownsRow_fr hown FP (fun g c hg => n1 _ _ _ _ hg), fun x hx => (hT' x hx).fr FP (fun g c hg => n1 _ _ _ _ hg), hF.trans FP (fun b hb e => by have := F00.size; omega)⟩
end Go.Proofs.YtgdhaaokolfdoaaGreatDoor

/- Chapter 13's foul: it ends, whatever it answers. Conditions: the device lies in the world, is not down, has no loose writes. -/
namespace Go.Proofs.YtgdhaaokolfdoaaGreatDoor
open Go.RowKit Go.Sg Go.Shelf
def FoulP (w : World) (e : Ending) (w' : World) : Prop := ∃ b, e = .returned (.bool b) ∧ Fr (fun _ => False) w w'
theorem sec_byt {D : Dev} (hl : D.loose = []) (hby : ∀ k bs, D.fast k = some bs → ∀ x ∈ bs, 0 ≤ x ∧ x < 256) (q : Int) : ∀ x ∈ D.sec q, 0 ≤ x ∧ x < 256 := by
  rw [sec_miss (by rw [hl]; intro z hz; cases hz)]
  cases hf : D.fast q with
  | none =>
    intro x hx
    have := List.eq_of_mem_replicate hx
    omega
  | some bs => exact hby q bs hf
set_option maxRecDepth 100000 in
set_option maxHeartbeats 8000000 in
theorem foul_ok {w : World} {base d bf bq : Nat} {D : Dev} (h : DevAt w base d bf bq D) (hdown : D.down = false) (hl : D.loose = []) (hby : ∀ k bs, D.fast k = some bs → ∀ x ∈ bs, 0 ≤ x ∧ x < 256) (hacts : D.acts ≤ 100000) :
    Calls Tryz.prog 43 #[.pointer (some ⟨d, 0, none⟩)] w (FoulP w) := by
  obtain ⟨lv, hdc, -⟩ := h.dc
  have hrg := h.rg
  obtain ⟨ns, hns⟩ : ∃ ns, D.sectors = ns := ⟨_, rfl⟩
  have hD := fun (W : World) (F : Fr (fun _ => False) w W) => h.fr F (fun h => h) (fun h => h) (fun h => h) (fun _ _ _ _ _ h => h)
  have HSe := hid (fun (W : World) (F : Fr (fun _ => False) w W) => sectors_at (w := W) (d := d) (n := (ns : Int)) (by have := cell_of_heap (F.heap hdc (fun h => h)) 0; simpa [hns] using this))
  have HRd := hid (fun (W : World) (F : Fr (fun _ => False) w W) (q : Nat) (hq : q < ns) => devread_cap (hD W F) hdown (by rw [hl]; intro y hy; cases hy) (by rw [hl]; exact Nat.zero_le _) q (by omega))
  have HPa := hid (fun (W : World) (F : Fr (fun _ => False) w W) (q : Nat) (hq : q < ns) => past_ok (hD W F) hacts (k := q) (by omega))
  have HBy := hid (fun q : Nat => sec_byt hl hby (q : Int))
  have hns0 : ns ≤ 16384 := by omega
  obtain ⟨sz, hsz⟩ : ∃ sz, D.size = sz := ⟨_, rfl⟩
  rw [hsz] at hrg
  have hsz0 := hrg.2
  have HSz := hid hsz
  clear h hdc hrg hD hns hl hby hsz
  go_enter Tryz.func43, Tryz.ntmps43
  go_wp2_with fail
  go_loopw [3] (fun i wr => ∃ q : Nat, q ≤ ns ∧ i = .int .i64 q ∧ Fr (fun _ => False) w wr) (fun i _ => ns - (intOf i).toNat)
  case atStart => exact ⟨0, Nat.zero_le _, rfl, Fr.refl _ _⟩
  case round =>
    obtain ⟨q, hq, rfl, hF⟩ := hrel
    have HF := hid hF
    clear hF
    by_cases hlt : q < ns
    · have hd : decide ((q : Int) < (ns : Int)) = true := by simp; omega
      have hqw : wrap64 ((q : Int) + 1) = ((q + 1 : Nat) : Int) := by simp only [wrap64]; omega
      go_wp2_with fail
      (with_reducible refine (HSe.out _ HF.out).mono ?_)
      rintro _ _ ⟨rfl, rfl⟩
      go_wp2_with fail
      (with_reducible refine (HRd.out _ HF.out q hlt).mono ?_)
      rintro _ W1 ⟨a, c, rfl, ⟨hb, hc⟩, F1⟩
      obtain ⟨b, off, cs, rfl, hbc⟩ : ∃ b off cs, a = some ⟨b, off, none⟩ ∧ W1.heap[b]? = some (.cells cs 5) := by
        rcases hb.at_ with ⟨_, h0, _⟩ | h0
        · have := HSz.out; omega
        · exact h0
      rw [HSz.out] at hb hc ⊢
      have HR := hid (read_any hb (HBy.out q) hsz0 hc)
      have H1 := hid (And.intro hb (HF.out.trans F1 (fun _ _ h => h)))
      clear hb hbc F1
      go_wp2_with fail
      (with_reducible refine HR.out.mono ?_)
      rintro _ W2 ⟨kd, pl, st, k, s, rfl, F2⟩
      have F02 := H1.out.2.trans F2 (fun _ _ h => h)
      have H2 := hid (And.intro (H1.out.1.fr F2 (fun _ _ _ h => h)) F02)
      clear F2 F02 HR H1
      by_cases hk : k = 0
      · subst hk
        go_wp2_with fail
        (with_reducible refine (HPa.out _ (H2.out.2.alloc _) q hlt).mono ?_)
        rintro _ W4 ⟨va, vc, xs, rfl, hown, hT, F4⟩
        have F24 := ((Fr.refl (fun _ => False) W2).alloc _).trans F4 (fun _ _ h => h)
        obtain ⟨n, hn⟩ : ∃ n, xs.length = n := ⟨_, rfl⟩
        have hnm : n ≤ maxLen := by
          obtain ⟨a', c', e, h1, h2, -⟩ := own_slice hown
          omega
        have hnm' : n ≤ 9223372036854775807 := by simpa [maxLen] using hnm
        have H4 := hid (And.intro hown (And.intro hT (And.intro (H2.out.1.fr F24 (fun _ _ _ h => h)) (H2.out.2.trans F24 (fun _ _ h => h)))))
        have HN := hid hn
        clear hown hT F4 F24 hnm H2
        rw [hn]
        go_wp2_with fail
        go_loopw [8, 10] (fun gv iv wr => ∃ (gb : Bool) (j : Nat), gv = .bool gb ∧ j ≤ n ∧ iv = .int .i64 j ∧ Fr (fun _ => False) W4 wr) (fun _ iv _ => n - (intOf iv).toNat)
        case atStart => exact ⟨false, 0, rfl, Nat.zero_le _, rfl, Fr.refl _ _⟩
        case round =>
          obtain ⟨gb, j, rfl, hj, rfl, hF5⟩ := hrel
          have HF5 := hid hF5
          by_cases hjl : j < n
          · have hdj : decide ((j : Int) < (n : Int)) = true := by simp; omega
            have hjw : wrap64 ((j : Int) + 1) = ((j + 1 : Nat) : Int) := by simp only [wrap64]; omega
            obtain ⟨x, hx⟩ : ∃ x, xs[j]? = some x := ⟨_, List.getElem?_eq_getElem (by rw [HN.out]; exact hjl)⟩
            obtain ⟨g, cur, rfl, hg, hcx⟩ := own_cellS H4.out.1 hx
            obtain ⟨hxl, bs, hbx⟩ := H4.out.2.1 x (List.mem_of_getElem? hx)
            have c0 := (cell_of_heap (hF5.heap hg (fun h => h)) j).trans hcx
            have hgl := lt_of_heap (hF5.heap hg (fun h => h))
            have hbx' := hbx.fr hF5 (fun _ _ _ h => h)
            have hb4 := H4.out.2.2.1.fr hF5 (fun _ _ _ h => h)
            have k1 := conv_byt hbx'
            have k2 := conv_byt hb4
            have hji : (j : Int) < (n : Int) := by omega
            clear hF5 hx hg hcx hbx
            cases gb with
            | true =>
              go_wp2_with fail
              go_quiet (fail)
              go_wp2_with fail
              go_roundw
              case rel => exact ⟨_, j + 1, rfl, hjl, by go_num, (HF5.out.drewN _)⟩
              case measure => simp [intOf]; omega
            | false =>
              have HC := hid (fun V (F : Fr (fun _ => False) wr V) => And.intro ((F.cell (p := ⟨g, j, none⟩) hgl (fun h => h)).trans c0) (And.intro (conv_byt (hbx'.fr F (fun _ _ _ h => h))) (conv_byt (hb4.fr F (fun _ _ _ h => h)))))
              have FD := (Fr.refl (fun _ => False) wr).drew
              clear k1 k2 hbx' hb4
              go_upto_region 14 with fail
              refine wp_region_noPanic ?_
              refine region_plan (fun V => Fr (fun _ => False) wr V) (.rd 0 (.rd 1 (.rd 2 (.rd 3 (.rd 4 (.rd 5 (.rd 6 (.rd 7 (.rd 8 (.rd 9 (.rd 10 (.rd 11 .done)))))))))))) (by kernel_rfl) (by kernel_rfl) (by kernel_rfl) (fun _ _ _ _ _ h => h) FD ?_
              iterate 12
                try simp only [Act.put, List.setIfInBounds_toArray, List.set_cons_zero, List.set_cons_succ]
                refine plan_rd _ ?_ (by simp only [List.getElem?_toArray, List.getElem?_cons_zero, List.getElem?_cons_succ]; rfl) (by rfl) ?_ ?_
                rotate_left
                · intro V hV
                  obtain ⟨e1, e2, e3⟩ := HC.out V hV
                  go_simp
                  try with_reducible rfl
              refine plan_done ?_
              refine NoPanic.normal ?_
              try simp only [Act.put, List.setIfInBounds_toArray, List.set_cons_zero, List.set_cons_succ]
              go_wp2_with fail
              go_roundw
              case rel => exact ⟨_, j + 1, rfl, hjl, by go_num, HF5.out.drew⟩
              case measure => simp [intOf]; omega
          · obtain rfl : j = n := by omega
            have hdj : decide ((j : Int) < (j : Int)) = false := by simp
            cases gb with
            | true =>
              go_wp2_with fail
              go_roundw
              case rel => exact ⟨q + 1, hlt, by go_num, H4.out.2.2.2.trans HF5.out (fun _ _ h => h)⟩
              case measure => simp [intOf]; omega
            | false =>
              go_wp2_with fail
              go_ret
              exact ⟨_, rfl, H4.out.2.2.2.trans HF5.out (fun _ _ h => h)⟩
      · have hkb : (k == 0) = false := by simpa using hk
        clear hk
        go_wp2_with fail
        go_roundw
        case rel => exact ⟨q + 1, hlt, by go_num, H2.out.2.alloc _⟩
        case measure => simp [intOf]; omega
    · obtain rfl : q = ns := by omega
      have hd : decide ((q : Int) < (q : Int)) = false := by simp
      go_wp2_with fail
      (with_reducible refine (HSe.out _ HF.out).mono ?_)
      rintro _ _ ⟨rfl, rfl⟩
      go_wp2_with fail
      go_ret
      exact ⟨_, rfl, HF.out⟩
end Go.Proofs.YtgdhaaokolfdoaaGreatDoor

/- flash.Sync. Conditions: the device lies in the world as DevAt says, it is not down. -/
namespace Go.Proofs.YtgdhaaokolfdoaaGreatDoor
open Go.RowKit Go.Sg
/-- The fast sectors behind k of the loose writes. -/
def SyncF (bf : Nat) (D : Dev) (w1 : World) (k : Nat) (wr : World) : Prop :=
  (∃ l ck, wr.heap[bf]? = some (.map (ents l) ck) ∧ (keys l).Nodup ∧ ∀ j, FastIs wr D.size (Sg.look l j) (fastAll D.fast (D.loose.take k) j)) ∧ Fr (fun b => b = bf) w1 wr
theorem _root_.Go.Sg.FastIs.fr {S : Nat → Prop} {w w' : World} {size : Nat} {v : Option Value} {bs : Option (List Int)} (h : FastIs w size v bs) (F : Fr S w w') (h5 : ∀ g c, w.heap[g]? = some (.cells c 5) → ¬ S g) : FastIs w' size v bs := by
  cases v with
  | none => cases bs with
    | none => trivial
    | some b => exact h.elim
  | some v => cases bs with
    | none => exact h.elim
    | some b =>
      obtain ⟨g, off, cap, e, hb, hc⟩ := h
      exact ⟨g, off, cap, e, hb.fr F h5, hc⟩
theorem sync_step {w1 wr w2 : World} {bf : Nat} {D : Dev} {k : Nat} {l : List Ent} {ck : Nat} (hl : wr.heap[bf]? = some (.map (ents l) ck)) (hn : (keys l).Nodup) (hf : ∀ j, FastIs wr D.size (Sg.look l j) (fastAll D.fast (D.loose.take k) j)) (F1 : Fr (fun b => b = bf) w1 wr)
    {at_ : Int} {bs : List Int} (hk : D.loose[k]? = some (at_, bs)) {ca : Option Addr} {cc : Nat} (hb : ByV w2 ca D.size cc bs) (hcc : D.size ≤ cc) (hz : 0 < D.size) (F : Fr (fun _ => False) wr w2) :
    SyncF bf D w1 (k + 1) (w2.putObj bf (.map (ents (Sg.put l at_ (.slice ca D.size cc) ck)) (bump l at_ ck))) := by
  have hl2 := F.heap hl (fun h => h)
  refine ⟨⟨_, _, heap_putObj_same _ _ _ (lt_of_heap hl2), nodup_put hn _ _ _, fun j => ?_⟩, ?_⟩
  · have F2 : Fr (fun b => b = bf) w2 (w2.putObj bf (.map (ents (Sg.put l at_ (.slice ca D.size cc) ck)) (bump l at_ ck))) := (Fr.refl (fun b => b = bf) _).putObj (fun _ => rfl) _
    have h5 : ∀ g c, w2.heap[g]? = some (.cells c 5) → ¬ g = bf := fun g c hg e => by rw [e, hl2] at hg; cases hg
    have et : D.loose.take (k + 1) = D.loose.take k ++ [(at_, bs)] := by rw [List.take_add_one, hk]; rfl
    rw [look_put, et, fastAll_snoc, updF]
    by_cases hj : at_ = j
    · subst hj
      rw [if_pos rfl, if_pos rfl]
      have hb' := hb.fr F2 h5
      rcases hb.at_ with ⟨_, h0, _⟩ | ⟨b, off, cs, rfl, _⟩
      · omega
      · exact ⟨b, off, cc, rfl, hb', hcc⟩
    · rw [if_neg hj, if_neg (fun e => hj e.symm)]
      exact ((hf j).fr F (fun _ _ _ h => h)).fr F2 h5
  · exact (F1.trans F (fun _ _ h => h.elim)).putObj (fun _ => rfl) _
theorem wr_at {w : World} {base : Nat} {a : Option Addr} {c : Nat} {ws : List Wr} (h : w.ownsRow base 196 2 (.slice a ws.length c) ws.length (ws.flatMap Wr.cells)) {j : Nat} {x : Wr} (hx : ws[j]? = some x) :
    ∃ g, a = some ⟨g, 0, none⟩ ∧ g < w.heap.size ∧ w.cell? ⟨g, j * 2, none⟩ = some (.int .i64 x.at_) ∧ w.cell? ⟨g, j * 2 + 1, none⟩ = some (.slice x.la x.ll x.lc) := by
  obtain ⟨k0, k1⟩ := wr_cells ws hx
  rw [Nat.mul_comm] at k0 k1
  obtain ⟨g, e, hg, h1⟩ := own_cell h k0
  obtain ⟨g', e', _, h2⟩ := own_cell h k1
  rw [e] at e'; cases e'
  exact ⟨g, e, hg, h1, h2⟩
/-- What Sync does. -/
def SyncP (base d bf bq : Nat) (D : Dev) (w : World) (e : Ending) (w' : World) : Prop :=
  (D.act.down = true ∧ e = .returned (.int .i64 4) ∧ DevAt w' base d bf bq D.act ∧ Fr (fun b => b = d) w w') ∨
  (D.act.down = false ∧ e = .returned (.int .i64 0) ∧ DevAt w' base d bf bq D.synced ∧ Fr (fun b => b = d ∨ b = bf) w w')
/-- The device behind all. -/
theorem sync_fin {w w1 wr : World} {base d bf bq : Nat} {D : Dev} (h : DevAt w base d bf bq D) {lv : Value} (hd : w.heap[d]? = some (.cells (devC D bf bq lv) 151)) (hl : LooseAt w base lv D.loose) (hd1 : w1.heap[d]? = some (.cells (devC D.act bf bq lv) 151)) (F1 : Fr (fun b => b = d) w w1) (hS : SyncF bf D w1 D.loose.length wr) :
    DevAt (wr.setCell ⟨d, 3, none⟩ (.slice none 0 0)) base d bf bq D.synced ∧ Fr (fun b => b = d ∨ b = bf) w (wr.setCell ⟨d, 3, none⟩ (.slice none 0 0)) := by
  have h1 := dev_act h hd hl hd1 F1
  obtain ⟨⟨l, ck, hf, hfn, hfs⟩, F2⟩ := hS
  obtain ⟨l0, ck0, hf0, _⟩ := h1.fast
  have ndf : ¬ d = bf := fun e => by rw [← e, hd1] at hf0; cases hf0
  have hdr := F2.heap hd1 ndf
  have F3 : Fr (fun b => b = d) wr (wr.setCell ⟨d, 3, none⟩ (.slice none 0 0)) := (Fr.refl (fun b => b = d) _).setCell (a := ⟨d, 3, none⟩) (fun _ => rfl) _
  have F13 : Fr (fun b => b = d ∨ b = bf) w1 (wr.setCell ⟨d, 3, none⟩ (.slice none 0 0)) := (F2.mono (fun _ _ h => .inr h)).trans F3 (fun _ _ h => .inl h)
  have n1 : ∀ g c t, t ≠ 151 → w1.heap[g]? = some (.cells c t) → ¬ (g = d ∨ g = bf) := fun g c t ht hg e => by
    rcases e with e | e
    · rw [e, hd1] at hg; cases hg; exact ht rfl
    · rw [e, hf0] at hg; cases hg
  obtain ⟨l', ck', hq, hqn, hqs, hqd⟩ := h1.past
  refine ⟨⟨⟨.slice none 0 0, ?_, [], World.ownsRow_nil _ _ _ _, rfl, fun i x y hx _ => by simp at hx⟩, ⟨l, ck, ?_, hfn, fun j => ?_⟩, ⟨l', ck', ?_, hqn, fun e he => ?_, hqd⟩, h1.ge, h1.ne, h1.rg⟩, (F1.mono (fun _ _ h => .inl h)).trans F13 (fun _ _ h => h)⟩
  · rw [heap_setCell_cells _ _ _ _ hdr]; rfl
  · exact F3.heap hf (fun e => ndf e.symm)
  · have := hfs j
    rw [List.take_length] at this
    exact this.fr F3 (fun g c hg e => by rw [e, hdr] at hg; cases hg)
  · exact F13.heap hq (fun e => by
      rcases e with e | e
      · rw [e, hd1] at hq; cases hq
      · exact h1.ne e.symm)
  · exact PastV.fr (hqs e he) F13 (fun g c hg => n1 g c 22 (by decide) hg) (fun g c hg => n1 g c 5 (by decide) hg)
set_option maxHeartbeats 8000000 in
set_option maxRecDepth 100000 in
theorem sync_ok {w : World} {base d bf bq : Nat} {D : Dev} (h : DevAt w base d bf bq D) (hdown : D.down = false) (hacts : D.acts ≤ 1000000) (harm : D.armed ≤ 9223372036854775807) (hmany : D.loose.length ≤ 100000) (hlen : ∀ y ∈ D.loose, y.2.length = D.size) :
    Calls Tryz.prog 41 #[.pointer (some ⟨d, 0, none⟩)] w (SyncP base d bf bq D w) := by
  obtain ⟨lv, hd, hl⟩ := h.dc
  have hz := h.rg.2
  have c7 := cell_of_heap hd 7
  simp [hdown] at c7
  have HACT := hid (act_at (lv := lv) hd hacts harm)
  have H := hid (And.intro h (And.intro hd hl))
  have hlv : ∃ a c, lv = .slice a D.loose.length c := by
    obtain ⟨ws, hown, hwl, hws⟩ := hl
    rw [← hwl]
    obtain ⟨_, ⟨h1, h2⟩ | ⟨g, cap, cur, h1, _⟩⟩ := hown
    · rw [h2]; exact ⟨_, _, h1⟩
    · exact ⟨_, _, h1⟩
  obtain ⟨va, vc, rfl⟩ := hlv
  obtain ⟨n, hn⟩ : ∃ n, D.loose.length = n := ⟨_, rfl⟩
  have hn9 : n ≤ 100000 := by omega
  have HN := hid hn
  have HL := hid hlen
  have ld := lt_of_heap hd
  clear h hd hl hlen hn hmany
  cases hdn : D.act.down with
  | true =>
    have HDN := hid hdn
    rw [hdn] at HACT
    clear hdn
    go_enter Tryz.func41, Tryz.ntmps41
    go_wp2_with fail
    refine HACT.out.mono ?_
    rintro e w1 ⟨rfl, hd1, F1⟩
    have H1 := hid (And.intro hd1 F1)
    clear hd1 F1
    go_wp2_with fail
    go_ret
    exact .inl ⟨HDN.out, rfl, dev_act H.out.1 H.out.2.1 H.out.2.2 H1.out.1 H1.out.2, H1.out.2⟩
  | false =>
    have HDN := hid hdn
    rw [hdn] at HACT
    clear hdn
    go_enter Tryz.func41, Tryz.ntmps41
    go_wp2_with fail
    refine HACT.out.mono ?_
    rintro e w1 ⟨rfl, hd1, F1⟩
    have H1 := hid (And.intro hd1 F1)
    have c3 := cell_of_heap hd1 3
    simp at c3
    rw [HN.out] at c3
    have ld1 := lt_of_heap hd1
    obtain ⟨ws, hown, hwl, hws⟩ := H.out.2.2
    have nd : ∀ g c t, t ≠ 151 → w.heap[g]? = some (.cells c t) → ¬ g = d := fun g c t ht hg e => by rw [e, H.out.2.1] at hg; cases hg; exact ht rfl
    obtain ⟨l0, ck0, hf0, hfn0, hfs0⟩ := H.out.1.fast
    have hnf : ¬ bf = d := fun e => by rw [e, H.out.2.1] at hf0; cases hf0
    have hS0 : SyncF bf D w1 0 w1 := ⟨⟨l0, ck0, F1.heap hf0 hnf, hfn0, fun j => (hfs0 j).fr F1 (fun g c hg => nd g c _ (by decide) hg)⟩, Fr.refl _ _⟩
    have HOW := hid (And.intro (ownsRow_fr hown F1 (fun g c hg => nd g c _ (by decide) hg)) (And.intro hwl (fun i x y hx hy => (⟨(hws i x y hx hy).1, (hws i x y hx hy).2.1.fr F1 (fun g c hg => nd g c _ (by decide) hg), (hws i x y hx hy).2.2⟩ : x.at_ = y.1 ∧ (ByV w1 x.la x.ll x.lc y.2 ∧ x.ll ≤ x.lc)))))
    have HF0 := hid (F1.heap hf0 hnf)
    have HS0 := hid hS0
    clear hd1 F1 hown hwl hws hf0 hfn0 hfs0 hS0 nd c7
    go_wp2_with fail
    go_loopw [22] (fun i wr => ∃ k : Nat, k ≤ n ∧ i = .int .i64 k ∧ SyncF bf D w1 k wr) (fun i _ => n - (intOf i).toNat)
    case atStart => exact ⟨0, Nat.zero_le _, rfl, HS0.out⟩
    case round =>
      obtain ⟨k, hk, rfl, hS⟩ := hrel
      have nc : ∀ g c t, w1.heap[g]? = some (.cells c t) → ¬ g = bf := fun g c t hg e => by rw [e, HF0.out] at hg; cases hg
      by_cases hlt : k < n
      · have hdk : decide ((k : Int) < (n : Int)) = true := by simp; omega
        have hki : (k : Int) < (n : Int) := by omega
        obtain ⟨⟨l, ck, hl, hfn, hfs⟩, FS⟩ := hS
        obtain ⟨x, hx⟩ : ∃ x, ws[k]? = some x := ⟨_, List.getElem?_eq_getElem (by rw [HOW.out.2.1, HN.out]; exact hlt)⟩
        obtain ⟨⟨ya, yb⟩, hy⟩ : ∃ y, D.loose[k]? = some y := ⟨_, List.getElem?_eq_getElem (by rw [HN.out]; exact hlt)⟩
        obtain ⟨hxa, hxb, hxc⟩ := HOW.out.2.2 k x (ya, yb) hx hy
        have hrow : wr.ownsRow base 196 2 (.slice va ws.length vc) ws.length (ws.flatMap Wr.cells) := by
          have := ownsRow_fr HOW.out.1 FS (fun g c hg => nc g c _ hg)
          rw [HOW.out.2.1]; rw [HOW.out.2.1] at this; exact this
        obtain ⟨g, rfl, hg, u0, u1⟩ := wr_at hrow hx
        have hyl : yb.length = D.size := HL.out _ (List.mem_of_getElem? hy)
        have hxl : x.ll = D.size := by rw [← hxb.len]; exact hyl
        simp only at hxa
        rw [hxa] at u0
        rw [hxl] at u1 hxb hxc
        obtain ⟨W, hW⟩ : ∃ W, wr.alloc (.cells #[.int .i64 ya, .slice x.la D.size x.lc] 196) = W := ⟨_, rfl⟩
        have bW : W.heap[wr.heap.size]? = some (.cells #[.int .i64 ya, .slice x.la D.size x.lc] 196) := by rw [← hW]; exact heap_alloc_new _ _
        have FW : Fr (fun _ => False) wr W := by rw [← hW]; exact (Fr.refl _ _).alloc _
        have hdW : W.heap[d]? = some (.cells (devC D.act bf bq (.slice (some ⟨g, 0, none⟩) D.loose.length vc)) 151) := FW.heap (FS.heap H1.out.1 (nc _ _ _ H1.out.1)) (fun h => h)
        have hlW := FW.heap hl (fun h => h)
        have HC := hid (fun V (F : Fr (fun _ => False) W V) => show (V.cell? ⟨wr.heap.size, 0, none⟩ = some (.int .i64 ya) ∧ V.cell? ⟨wr.heap.size, 1, none⟩ = some (.slice x.la D.size x.lc)) ∧ V.cell? ⟨d, 2, none⟩ = some (.map (some bf)) ∧ (V.heap[bf]? = some (.map (ents l) ck) ∧ wr.heap.size < V.heap.size ∧ d < V.heap.size) by
          obtain ⟨t0, t1, tz, tl⟩ := cells2 (F.heap bW (fun h => h))
          have hdV := F.heap hdW (fun h => h)
          exact ⟨⟨t0, t1⟩, by simpa using cell_of_heap hdV 2, F.heap hlW (fun h => h), tl, lt_of_heap hdV⟩)
        have hxb' : ByV W x.la D.size x.lc yb := (hxb.fr FS (fun g c hg => nc g c _ hg)).fr FW (fun _ _ _ h => h)
        have HCL := hid (fun V (F : Fr (fun _ => False) W V) => clone_vc (hxb'.fr F (fun _ _ _ h => h)).slb (show D.size ≤ 65536 by omega))
        have HUP := hid (fun (V : World) (hV : V.heap[bf]? = some (.map (ents l) ck)) (v : Value) => run_mapUpdate (P := Tryz.prog) (T := 147) Tryz.underlying147 Tryz.underlying3 hV ya v)
        have HSy := hid (And.intro hl (And.intro hfn (And.intro hfs (And.intro FS (And.intro hy FW)))))
        have HW := hid hW
        clear hl hfn hfs FS hx hy hxa hxb hxc hrow hyl hxl hW bW FW hdW hlW hxb' nc
        go_upto_region 8 with fail
        rw [HW.out]
        obtain ⟨⟨t0, t1⟩, t2, t3, tl1, tl2⟩ := HC.out _ (Fr.refl _ _)
        have hup := HUP.out _ t3
        have FG : Fr (fun _ => False) W W.drew := (Fr.refl _ _).drew
        clear u0 u1
        go_region_law (((try go_simp); go_at_call 83; refine (HCL.out _ FG).mono ?_; rintro e V1 ⟨ca, cc, rfl, ⟨hb1, hcc⟩, G1⟩; have FG := FG.trans G1 (fun _ _ h => h); obtain ⟨⟨t0, t1⟩, t2, t3, tl1, tl2⟩ := HC.out _ FG; have hup := HUP.out _ t3; have HB1 := hid (And.intro hb1 (And.intro hcc FG)); clear hb1 hcc G1))
        all_goals
          go_wp2_with fail
          go_roundw
          case rel =>
            obtain ⟨hl, hfn, hfs, FS, hy, FW⟩ := HSy.out
            obtain ⟨hb1, hcc, FG⟩ := HB1.out
            exact ⟨k + 1, hlt, by go_num, sync_step hl hfn hfs FS hy hb1 hcc (by omega) (FW.trans FG (fun _ _ h => h))⟩
          case measure => simp [intOf]; omega
      · obtain rfl : k = n := by omega
        have hdk : decide ((k : Int) < (k : Int)) = false := by simp
        have HSy := hid hS
        have hdr := hS.2.heap H1.out.1 (nc _ _ _ H1.out.1)
        have HDR := hid hdr
        have z := fun o => frozen_of_heap hdr o
        have ldr := lt_of_heap hdr
        have c3r := cell_of_heap hdr 3
        simp at c3r
        clear hS hdr
        go_wp2_with fail
        go_ret
        obtain ⟨hD', F'⟩ := sync_fin H.out.1 H.out.2.1 H.out.2.2 H1.out.1 H1.out.2 (by rw [HN.out]; exact HSy.out)
        exact .inr ⟨HDN.out, rfl, hD', F'⟩
end Go.Proofs.YtgdhaaokolfdoaaGreatDoor

/- flash.Arm, flash.Crash. Conditions: the device lies in the world as DevAt says. -/
namespace Go.Proofs.YtgdhaaokolfdoaaGreatDoor
open Go.RowKit Go.Sg
theorem own_somB {w : World} {b e size n : Nat} {v : Value} {xs : List Value} (h : w.ownsRow b e size v n xs) (hne : v ≠ .slice none 0 0) : ∃ g cap cur, v = .slice (some ⟨g, 0, none⟩) n cap ∧ b ≤ g ∧ w.heap[g]? = some (.cells cur e) := by
  obtain ⟨hl, ⟨h0, _⟩ | ⟨g, cap, cur, hv, hb, hg, r⟩⟩ := h
  · exact absurd h0 hne
  · exact ⟨g, cap, cur, hv, hb, hg⟩
def CloneO (n : Nat) (bs : List Int) (w : World) (e : Ending) (w' : World) : Prop :=
  ∃ g cap, e = .returned (.slice (some ⟨g, 0, none⟩) n cap) ∧ w'.ownsRow w.heap.size 5 1 (.slice (some ⟨g, 0, none⟩) n cap) n (bs.map (Value.int .u8)) ∧ Fr (fun _ => False) w w'
set_option maxHeartbeats 1000000 in
set_option maxRecDepth 100000 in
theorem clone_own {w : World} {ad : Addr} {n cap : Nat} {bs : List Int} (h : Byts w (some ad) n bs) (hn : n ≤ 65536) :
    Calls Tryz.prog 83 #[.slice (some ad) n cap] w (CloneO n bs w) := by
  obtain ⟨i0, hi0, hz0, hz1, hz2⟩ := info_parts Tryz.info5
  have hlen := h.len
  have hcell : ∀ (o : Obj) (j : Nat) (u : Value), (bs.map (Value.int .u8))[j]? = some u → (w.alloc o).cell? (ad.add j) = some u := fun o j u hu => by
    rw [List.getElem?_map] at hu
    cases hx : bs[j]? with
    | none => rw [hx] at hu; cases hu
    | some x =>
      rw [hx] at hu
      cases hu
      obtain ⟨b', off', e, hb, hc⟩ := h.at_ j x hx
      cases e
      rw [addr_add]
      exact (((Fr.refl (fun _ => False) w).alloc o).cell (p := ⟨b', off' + j, none⟩) hb (fun h => h)).trans hc
  have HC := hid hcell
  clear h hcell
  have q22 : ∀ (w : World) (a : Option Addr) (n c n' c' : Nat), (binOp .eql 22 (.slice a n c) (.slice none n' c')).run Tryz.prog w = .ok (.bool a.isNone) w := fun w a n c n' c' => Lib.run_eql_slice_nil w _ _ a n c n' c' Tryz.underlying22
  go_enter Tryz.func83, Tryz.ntmps83
  go_wp2_with (at_builtin; refine wpList_append_own_at _ rfl (.tmp 5) (.tmp 6) 22 rfl w.heap.size 5 i0 _ 1 1 Tryz.underlying22 hi0 hz0 hz1 hz2 rfl (by decide) _ _ _ rfl (own_litB _ _ (Nat.le_refl _) _ _ _ (by simp [go_sem])) ad n cap (bs.map (Value.int .u8)) rfl (by simpa using hlen) ?c1 ?c2 ?c3 ?c4 (by simp) ?_)
  case c1 => exact HC.out _
  case c2 => intro u hu; obtain ⟨x, _, rfl⟩ := List.mem_map.1 hu; rfl
  case c3 => simp [maxLen]; omega
  case c4 => omega
  intro v1 w1 hown hgrow hnil hat
  try simp only [List.nil_append, Nat.zero_add] at hown
  have F1 : Fr (fun _ => False) w w1 := ((Fr.refl (fun _ => False) w).alloc _).trans (S' := fun b => b = w.heap.size) (Fr.of_grownBy hgrow) (fun b hb h => by omega)
  obtain ⟨g, cap', cur, rfl, hgb, hgc⟩ := own_somB hown (fun e => hnil e)
  have HG := hid (And.intro hown F1)
  clear hown hgrow hat F1 hgc hgb hnil
  go_wp2
  go_ret
  exact ⟨g, cap', rfl, HG.out.1, HG.out.2⟩
/-- What Arm does. -/
def ArmP (base d bf bq : Nat) (D : Dev) (w : World) (e : Ending) (w' : World) : Prop :=
  ∃ n : Nat, n ≤ 9223372036854775807 ∧ e = .returned (.tuple #[]) ∧ DevAt w' base d bf bq { D with armed := n } ∧ Fr (fun b => b = d) w w'
theorem _root_.Go.Sg.DevAt.recell {w w' : World} {base d bf bq : Nat} {D D' : Dev} (h : DevAt w base d bf bq D) (F : Fr (fun b => b = d) w w') (e1 : D'.sectors = D.sectors) (e2 : D'.size = D.size) (e3 : D'.fast = D.fast) (e4 : D'.acts = D.acts) {lv : Value} (hd : w'.heap[d]? = some (.cells (devC D' bf bq lv) 151)) (hl : LooseAt w' base lv D'.loose) : DevAt w' base d bf bq D' := by
  obtain ⟨lv0, hd0, _⟩ := h.dc
  have n5 : ∀ g c t, t ≠ 151 → w.heap[g]? = some (.cells c t) → ¬ g = d := fun g c t h2 hg e => by rw [e, hd0] at hg; cases hg; exact h2 rfl
  have nm : ∀ g l ck, w.heap[g]? = some (.map l ck) → ¬ g = d := fun g l ck hg e => by rw [e, hd0] at hg; cases hg
  obtain ⟨l, ck, hf, hfn, hfs⟩ := h.fast
  obtain ⟨l', ck', hq, hqn, hqs, hqd⟩ := h.past
  refine ⟨⟨_, hd, hl⟩, ⟨l, ck, F.heap hf (nm _ _ _ hf), hfn, fun k => ?_⟩, ⟨l', ck', F.heap hq (nm _ _ _ hq), hqn, fun e he => ?_, hqd⟩, h.ge, h.ne, by rw [e1, e2]; exact h.rg⟩
  · rw [e2, e3]
    exact (hfs k).fr F (fun g c hg => n5 g c 5 (by decide) hg)
  · rw [e4]
    exact PastV.fr (hqs e he) F (fun g c hg => n5 g c 22 (by decide) hg) (fun g c hg => n5 g c 5 (by decide) hg)
set_option maxHeartbeats 1000000 in
theorem arm_ok {w : World} {base d bf bq : Nat} {D : Dev} (h : DevAt w base d bf bq D) (k : Int) (hk : k ≤ 9223372036854775807) : Calls Tryz.prog 40 #[.pointer (some ⟨d, 0, none⟩), .int .i64 k] w (ArmP base d bf bq D w) := by
  obtain ⟨lv, hd, hl⟩ := h.dc
  have c5 := cell_of_heap hd 5
  have z := fun o => frozen_of_heap hd o
  have ld := lt_of_heap hd
  simp at c5
  have H := hid (And.intro h (And.intro hd hl))
  obtain ⟨n, hn⟩ : ∃ n : Nat, max k 0 = (n : Int) := ⟨(max k 0).toNat, by omega⟩
  have hn9 : n ≤ 9223372036854775807 := by omega
  have HN := hid hn
  clear h hd hl
  go_enter Tryz.func40, Tryz.ntmps40
  go_wp2
  go_end0
  obtain ⟨h, hd, hl⟩ := H.out
  have F : Fr (fun b => b = d) w (w.setCell ⟨d, 5, none⟩ (.int .i64 (n : Int))) := (Fr.refl (fun b => b = d) _).setCell (a := ⟨d, 5, none⟩) (fun _ => rfl) _
  refine ⟨n, hn9, rfl, h.recell F rfl rfl rfl rfl (lv := lv) ?_ ?_, F⟩
  · rw [heap_setCell_cells _ _ _ _ hd]; rfl
  · obtain ⟨ws, hown, hwl, hws⟩ := hl
    have n5 : ∀ g c t, t ≠ 151 → w.heap[g]? = some (.cells c t) → ¬ g = d := fun g c t h2 hg e => by rw [e, hd] at hg; cases hg; exact h2 rfl
    exact ⟨ws, ownsRow_fr hown F (fun g c hg => n5 g c 196 (by decide) hg), hwl, fun i x y hx hy => ⟨(hws i x y hx hy).1, (hws i x y hx hy).2.1.fr F (fun g c hg => n5 g c 5 (by decide) hg), (hws i x y hx hy).2.2⟩⟩
end Go.Proofs.YtgdhaaokolfdoaaGreatDoor

/- flash.Crash. Conditions: the device lies in the world as DevAt says. -/
namespace Go.Proofs.YtgdhaaokolfdoaaGreatDoor
open Go.RowKit Go.Sg
/-- A sector is set. -/
theorem _root_.Go.Sg.DevAt.fast_put {w : World} {base d bf bq : Nat} {D : Dev} {l : List Ent} {ck : Nat} (h : DevAt w base d bf bq D) (hl : w.heap[bf]? = some (.map (ents l) ck)) (hn : (keys l).Nodup) (hf : ∀ j, FastIs w D.size (Sg.look l j) (D.fast j)) (at_ : Int) {b off cap : Nat} {bs : List Int} (hb : ByV w (some ⟨b, off, none⟩) D.size cap bs) (hc : D.size ≤ cap) :
    DevAt (w.putObj bf (.map (ents (Sg.put l at_ (.slice (some ⟨b, off, none⟩) D.size cap) ck)) (bump l at_ ck))) base d bf bq { D with fast := updF D.fast at_ bs } := by
  obtain ⟨W, hW⟩ : ∃ W, w.putObj bf (.map (ents (Sg.put l at_ (.slice (some ⟨b, off, none⟩) D.size cap) ck)) (bump l at_ ck)) = W := ⟨_, rfl⟩
  have F : Fr (fun b => b = bf) w W := by rw [← hW]; exact (Fr.refl (fun b => b = bf) _).putObj (fun _ => rfl) _
  have hWl : W.heap[bf]? = some (.map (ents (Sg.put l at_ (.slice (some ⟨b, off, none⟩) D.size cap) ck)) (bump l at_ ck)) := by rw [← hW]; exact heap_putObj_same _ _ _ (lt_of_heap hl)
  rw [hW]
  have nc : ∀ g c t, w.heap[g]? = some (.cells c t) → ¬ g = bf := fun g c t hg e => by rw [e, hl] at hg; cases hg
  obtain ⟨lv, hd, ws, hown, hwl, hws⟩ := h.dc
  obtain ⟨l', ck', hq, hqn, hqs, hqd⟩ := h.past
  refine ⟨⟨lv, F.heap hd (nc _ _ _ hd), ws, ownsRow_fr hown F (fun g c hg => nc _ _ _ hg), hwl, fun i x y hx hy => ⟨(hws i x y hx hy).1, (hws i x y hx hy).2.1.fr F (fun g c hg => nc _ _ _ hg), (hws i x y hx hy).2.2⟩⟩, ⟨_, _, hWl, nodup_put hn _ _ _, fun j => ?_⟩, ⟨l', ck', F.heap hq (fun e => h.ne e.symm), hqn, fun e he => PastV.fr (hqs e he) F (fun g c hg => nc _ _ _ hg) (fun g c hg => nc _ _ _ hg), hqd⟩, h.ge, h.ne, h.rg⟩
  show FastIs W D.size (Sg.look (Sg.put l at_ _ ck) j) (updF D.fast at_ bs j)
  rw [look_put, updF]
  by_cases hj : at_ = j
  · subst hj
    rw [if_pos rfl, if_pos rfl]
    exact ⟨b, off, cap, rfl, hb.fr F (fun g c hg => nc _ _ _ hg), hc⟩
  · rw [if_neg hj, if_neg (fun e => hj e.symm)]
    exact (hf j).fr F (fun g c hg => nc _ _ _ hg)
/-- A device while a crash goes through the loose writes. -/
structure CrashF (base d bf bq : Nat) (D : Dev) (w : World) (k : Nat) (f : Int → Option (List Int)) (wr : World) : Prop where
  dev : DevAt wr base d bf bq { D with fast := f }
  keep : ∀ j, (∀ y ∈ D.loose.take k, y.1 ≠ j) → f j = D.fast j
  byt : ((∀ y ∈ D.loose, ∀ x ∈ y.2, 0 ≤ x ∧ x < 256) ∧ ∀ k bs, D.fast k = some bs → ∀ x ∈ bs, 0 ≤ x ∧ x < 256) → ∀ k bs, f k = some bs → ∀ x ∈ bs, 0 ≤ x ∧ x < 256
  fr : Fr (fun b => b = bf) w wr
def torn (D : Dev) (f : Int → Option (List Int)) (y : Int × List Int) (n : Nat) : List Int := y.2.take n ++ ((f y.1).getD (List.replicate D.size 0)).drop n
theorem crash_step {base d bf bq : Nat} {D : Dev} {w wr w2 : World} {k : Nat} {f : Int → Option (List Int)} (h : CrashF base d bf bq D w k f wr) {y : Int × List Int} (hk : D.loose[k]? = some y) (n : Nat) (F : Fr (fun _ => False) wr w2)
    {l : List Ent} {ck : Nat} (hl : w2.heap[bf]? = some (.map (ents l) ck)) (hn : (keys l).Nodup) (hf : ∀ j, FastIs w2 D.size (Sg.look l j) (f j)) {b off cap : Nat} (hb : ByV w2 (some ⟨b, off, none⟩) D.size cap (torn D f y n)) (hc : D.size ≤ cap) :
    CrashF base d bf bq D w (k + 1) (updF f y.1 (torn D f y n)) (w2.putObj bf (.map (ents (Sg.put l y.1 (.slice (some ⟨b, off, none⟩) D.size cap) ck)) (bump l y.1 ck))) := by
  have h2 : DevAt w2 base d bf bq { D with fast := f } := h.dev.fr F (fun h => h) (fun h => h) (fun h => h) (fun _ _ _ _ _ h => h)
  refine ⟨DevAt.fast_put h2 hl hn hf y.1 hb hc, fun j hj => ?_, fun hB j bs hjs => ?_, ?_⟩
  · have et : D.loose.take (k + 1) = D.loose.take k ++ [y] := by rw [List.take_add_one, hk]; rfl
    rw [et] at hj
    have h1 : j ≠ y.1 := fun e => hj y (by simp) e.symm
    simp only [updF, if_neg h1]
    exact h.keep j fun z hz => hj z (List.mem_append_left _ hz)
  · simp only [updF] at hjs
    split at hjs
    · cases hjs
      intro x hx
      rcases List.mem_append.1 hx with hx | hx
      · exact hB.1 y (List.mem_of_getElem? hk) x (List.mem_of_mem_take hx)
      · have hx' := List.mem_of_mem_drop hx
        cases hfy : f y.1 with
        | none =>
          rw [hfy] at hx'
          have := List.eq_of_mem_replicate hx'
          omega
        | some v =>
          rw [hfy] at hx'
          exact h.byt hB y.1 v hfy x hx'
    · exact h.byt hB j bs hjs
  · exact (h.fr.trans F (fun _ _ h => h.elim)).putObj (fun _ => rfl) _
theorem torn_fact {z : Int} {s : Nat} (hz : -9223372036854775808 ≤ z ∧ z < 9223372036854775808) (hs : s ≤ 512) : ∃ nv : Nat, nv ≤ s ∧ (z.tmod ((s : Int) + 1) + ((s : Int) + 1)).tmod ((s : Int) + 1) = (nv : Int) ∧ wrap64 (z.tmod ((s : Int) + 1) + ((s : Int) + 1)) = z.tmod ((s : Int) + 1) + ((s : Int) + 1) := by
  have h1 : -((s : Int) + 1) < z.tmod ((s : Int) + 1) ∧ z.tmod ((s : Int) + 1) < (s : Int) + 1 := ⟨Int.lt_tmod_of_pos _ (by omega), Int.tmod_lt_of_pos _ (by omega)⟩
  generalize z.tmod ((s : Int) + 1) = t at *
  have h2 : 0 ≤ (t + ((s : Int) + 1)).tmod ((s : Int) + 1) ∧ (t + ((s : Int) + 1)).tmod ((s : Int) + 1) < (s : Int) + 1 := ⟨Int.tmod_nonneg _ (by omega), Int.tmod_lt_of_pos _ (by omega)⟩
  refine ⟨((t + ((s : Int) + 1)).tmod ((s : Int) + 1)).toNat, by omega, by omega, ?_⟩
  simp only [wrap64]; omega
end Go.Proofs.YtgdhaaokolfdoaaGreatDoor
