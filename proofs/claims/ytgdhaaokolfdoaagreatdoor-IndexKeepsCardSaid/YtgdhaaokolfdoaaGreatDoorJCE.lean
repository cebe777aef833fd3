/- A pack of texts: BKU, RGP, RGT. Conditions: those that each text names. -/
import Derived.Test.YtgdhaaokolfdoaaGreatDoorJCC
import Derived.Test.YtgdhaaokolfdoaaGreatDoorJBC
import Derived.Test.YtgdhaaokolfdoaaGreatDoorJBH
import Derived.Test.YtgdhaaokolfdoaaGreatDoorJBI
import Derived.Shelf.RegionOpen
set_option linter.unusedVariables false
set_option linter.unusedSimpArgs false
set_option linter.unnecessarySimpa false
namespace Go.Proofs.YtgdhaaokolfdoaaGreatDoor
open Go.RowKit Go.Sg CP SF
set_option maxHeartbeats 1000000 in
theorem rbad_ok {w : World} {r : Nat} {bs : List Int} (h : RdAt w r bs false) : Calls Tryz.prog 218 #[.pointer (some ⟨r, 0, none⟩)] w (BoolP false w) := by
  obtain ⟨⟨a, c, hr, -⟩, -⟩ := h
  have c1 : w.cell? ⟨r, 1, none⟩ = some (.bool false) := by simpa using cell_of_heap hr 1
  clear hr
  go_enter Tryz.func218, Tryz.ntmps218
  go_wp2_with fail
  go_ret
  exact ⟨rfl, rfl⟩
def RestP (n : Nat) (w : World) (e : Ending) (w' : World) : Prop := ∃ a c, e = .returned (.slice a n c) ∧ Fr (fun _ => False) w w'
set_option maxHeartbeats 1000000 in
theorem rrest_ok {w : World} {r : Nat} {bs : List Int} (h : RdAt w r bs false) : Calls Tryz.prog 275 #[.pointer (some ⟨r, 0, none⟩)] w (RestP bs.length w) := by
  obtain ⟨⟨a, c, hr, hb, -⟩, hs⟩ := h
  obtain ⟨n, hn⟩ : ∃ n, bs.length = n := ⟨_, rfl⟩
  rw [hn] at hr hb hs ⊢
  have c0 : w.cell? ⟨r, 0, none⟩ = some (.slice a n c) := by simpa using cell_of_heap hr 0
  have HC := hid (clone_vc hb.slb hs)
  clear hr hb hn
  go_enter Tryz.func275, Tryz.ntmps275
  go_wp2_with fail
  refine HC.out.mono ?_
  rintro e w2 ⟨a', c', rfl, -, F2⟩
  have HF := hid F2
  clear F2
  go_wp2_with fail
  go_ret
  exact ⟨_, _, rfl, HF.out⟩
theorem ents_drop {es : List Bt} {k : Nat} {x : Bt} (h : es[k]? = some x) : (es.drop k).flatMap entB = Sg.leB x.hash 8 ++ (Sg.leB x.rg.toNat 8 ++ (Sg.leB x.at_.toNat 2 ++ (Sg.leB x.sz.toNat 2 ++ (es.drop (k + 1)).flatMap entB))) := by
  have hk := (List.getElem?_eq_some_iff.1 h).1
  have e : es[k] = x := (List.getElem?_eq_some_iff.1 h).2
  rw [List.drop_eq_getElem_cons hk, e]
  simp [entB]
theorem ents_byte (es : List Bt) : ∀ z ∈ es.flatMap entB, 0 ≤ z ∧ z < 256 := fun z hz => by
  obtain ⟨x, _, h⟩ := List.mem_flatMap.1 hz
  simp only [entB, List.mem_append] at h
  rcases h with ((h | h) | h) | h <;> exact Sg.leB_byte _ _ z h
theorem packM_byte (d p : Nat) (es : List Bt) : ∀ z ∈ packM d p es, 0 ≤ z ∧ z < 256 := fun z hz => by
  simp only [packM, List.mem_append] at hz
  rcases hz with ((h | h) | h) | h
  · exact Sg.leB_byte _ _ z h
  · exact Sg.leB_byte _ _ z h
  · exact Sg.leB_byte _ _ z h
  · exact ents_byte es z h
theorem tail_byte {bs t : List Int} {n k : Nat} (h : ∀ z ∈ Sg.leB n k ++ t, 0 ≤ z ∧ z < 256) : ∀ z ∈ t, 0 ≤ z ∧ z < 256 := fun z hz => h z (List.mem_append_right _ hz)
def NumQ (r v : Nat) (rest : List Int) (w : World) (e : Ending) (w' : World) : Prop := e = .returned (.int .u64 v) ∧ RdAt w' r rest false ∧ Fr (fun b => b = r) w w'
theorem num_q {w : World} {r v k : Nat} {rest : List Int} (h : RdAt w r (Sg.leB v k ++ rest) false) (hr : ∀ x ∈ rest, 0 ≤ x ∧ x < 256) (kz : Int) (hkz : kz = k) (hk : k = 1 ∨ k = 2 ∨ k = 4 ∨ k = 8) (hv : v < 256 ^ k) :
    Calls Tryz.prog 216 #[.pointer (some ⟨r, 0, none⟩), .int .i64 kz] w (NumQ r v rest w) := by
  refine (num_p h (fun x hx => ?_) k kz hkz hk (by rw [List.length_append, leB_length]; omega)).mono ?_
  · rcases List.mem_append.1 hx with hx | hx
    · exact Sg.leB_byte _ _ x hx
    · exact hr x hx
  · rintro e w' ⟨rfl, h2, F⟩
    rw [take_leB, leV_leB k v hv]
    rw [drop_leB] at h2
    exact ⟨rfl, h2, F⟩
def UnpP (d p : Nat) (es : List Bt) (w : World) (e : Ending) (w' : World) : Prop :=
  ∃ a c, e = .returned (.tuple #[bkV d p (.slice a es.length c), .int .i64 0]) ∧ OwnE w' w.heap.size (.slice a es.length c) es ∧ Fr (fun _ => False) w w'
def UnpI (w1 : World) (b4 b7 r : Nat) (d p : Nat) (es : List Bt) (k : Nat) (W : World) : Prop :=
  RdAt W r ((es.drop k).flatMap entB) false ∧ (∃ v, W.heap[b7]? = some (.cells #[.int .i64 d, .int .i64 p, v] 129) ∧ OwnE W w1.heap.size v (es.take k)) ∧ Fr (fun _ => False) w1 W
set_option maxHeartbeats 8000000 in
set_option maxRecDepth 100000 in
theorem unpack_ok {w : World} {a : Option Addr} {c n d p : Nat} {es : List Bt} (h : ByV w a n c (packM d p es)) (hn : n = 10 + 20 * es.length) (hl : es.length ≤ 24) (hg : ∀ x ∈ es, goodE x) (sl : Nat) (hd : d ≤ 20) (hp : p < 1048576)
    (hR : ∀ W v, OwnE W 0 v es → Calls Tryz.prog 190 #[bkV d p v, .int .i64 sl] W (ValP (.bool true) W)) :
    Calls Tryz.prog 246 #[.slice a n c, .int .i64 sl] w (UnpP d p es w) := by
  obtain ⟨i0, hi0, hz0, hz1, hz2⟩ := info_parts Tryz.info118
  obtain ⟨m, hm⟩ : ∃ m, es.length = m := ⟨_, rfl⟩
  have hm24 : m ≤ 24 := by omega
  obtain ⟨w1, hw1⟩ : ∃ w1, w.alloc (.cells #[.int .i64 0, .int .i64 0, .slice none 0 0] 129) = w1 := ⟨_, rfl⟩
  have b4 : w1.heap[w.heap.size]? = some (.cells #[.int .i64 0, .int .i64 0, .slice none 0 0] 129) := by rw [← hw1]; exact heap_alloc_new _ _
  have F1 : Fr (fun _ => False) w w1 := by rw [← hw1]; exact (Fr.refl _ _).alloc _
  have hs1 : w1.heap.size = w.heap.size + 1 := by rw [← hw1]; simp
  have HNW := hid (show Calls Tryz.prog 215 #[.slice a n c] w1 (NewRdP (packM d p es) w1) from newreader_ok (h.fr F1 (fun _ _ _ h => h)).slb (by omega))
  have HM := hid hm
  have HG := hid hg
  have HRt := hid hR
  have H4 := hid (And.intro b4 (And.intro F1 hs1))
  have HW := hid hw1
  clear h hn hl hg hR hw1 b4 F1 hs1 hm
  go_enter Tryz.func246, Tryz.ntmps246
  go_upto_region 1 with fail
  rw [HW.out]
  go_wp2_with fail
  refine HNW.out.mono ?_
  rintro e w2 ⟨r, rfl, hW2, hr2, F2⟩
  have hW2' := hW2
  have epk : packM d p es = Sg.leB d 1 ++ (Sg.leB es.length 1 ++ (Sg.leB p 8 ++ es.flatMap entB)) := by simp [packM]
  rw [epk] at hW2'
  have hby := packM_byte d p es
  rw [epk] at hby
  have HN1 := hid (num_q hW2' (tail_byte (bs := []) hby) 1 (by simp) (by simp) (by omega))
  have hby2 := tail_byte (bs := []) hby
  have hrl := lt_of_heap hW2.ex.choose_spec.choose_spec.1
  have H2 := hid (And.intro F2 (And.intro hr2 hby2))
  clear hW2 hW2' F2 hby epk hby2 HNW
  go_wp2_with fail
  refine HN1.out.mono ?_
  rintro e w3 ⟨rfl, hR3, F3⟩
  have hcd : IntKind.i64.wrap (d : Int) = (d : Int) := by rw [IntKind.wrap_i64]; omega
  have hs3 := F3.size
  have F13 : Fr (fun _ => False) w1 w3 := H2.out.1.trans F3 (fun b hb e => by have := H2.out.2.1; omega)
  have H3 := hid (And.intro hR3 F13)
  have hr3 : r < w3.heap.size := by omega
  clear hR3 F3 F13 HN1
  go_upto_region 3 with fail
  obtain ⟨w4, hw4⟩ : ∃ w4, w3.alloc (.cells #[.int .i64 d, .int .i64 0, .slice none 0 0] 129) = w4 := ⟨_, rfl⟩
  rw [hw4]
  have b7 : w4.heap[w3.heap.size]? = some (.cells #[.int .i64 d, .int .i64 0, .slice none 0 0] 129) := by rw [← hw4]; exact heap_alloc_new _ _
  have F4 : Fr (fun _ => False) w3 w4 := by rw [← hw4]; exact (Fr.refl _ _).alloc _
  have HN2 := hid (num_q (H3.out.1.fr F4 (fun h => h) (fun _ _ _ h => h)) (tail_byte (bs := []) H2.out.2.2) 1 (by simp) (by simp) (by rw [HM.out]; omega))
  have H5 := hid (And.intro b7 (H3.out.2.trans F4 (fun _ _ h => h)))
  clear hw4 b7 F4
  go_wp2_with fail
  refine HN2.out.mono ?_
  rintro e w5 ⟨rfl, hR5, F5⟩
  have hcm : IntKind.i64.wrap (m : Int) = (m : Int) := by rw [IntKind.wrap_i64]; omega
  have HN3 := hid (num_q hR5 (tail_byte (bs := []) (tail_byte (bs := []) H2.out.2.2)) 8 (by simp) (by simp) (by omega))
  have b75 := F5.heap H5.out.1 (fun e => by omega)
  have H6 := hid (And.intro b75 (H5.out.2.trans F5 (fun b hb e => by have := H2.out.2.1; omega)))
  rw [HM.out]
  clear hR5 F5 b75 HN2
  go_wp2_with fail
  refine HN3.out.mono ?_
  rintro e w6 ⟨rfl, hR6, F6⟩
  have hcp : IntKind.i64.wrap (p : Int) = (p : Int) := by rw [IntKind.wrap_i64]; omega
  have b76 := F6.heap H6.out.1 (fun e => by omega)
  obtain ⟨x0, x1, x2, xz, xl⟩ := cells3 b76
  have H7 := hid (And.intro b76 (And.intro hR6 (H6.out.2.trans F6 (fun b hb e => by have := H2.out.2.1; omega))))
  clear hR6 F6 b76 HN3
  go_upto_region 5 with fail
  obtain ⟨w7, hw7⟩ : ∃ w7, w6.setCell ⟨w3.heap.size, 1, none⟩ (.int .i64 p) = w7 := ⟨_, rfl⟩
  rw [hw7]
  have F7 : Fr (fun b => b = w3.heap.size) w6 w7 := by rw [← hw7]; exact (Fr.refl (fun b => b = w3.heap.size) _).setCell (a := ⟨w3.heap.size, _, none⟩) (fun _ => rfl) _
  have b77 : w7.heap[w3.heap.size]? = some (.cells #[.int .i64 d, .int .i64 p, .slice none 0 0] 129) := by rw [← hw7, heap_setCell_cells _ _ _ _ H7.out.1]; rfl
  have hb7 : w1.heap.size ≤ w3.heap.size := H3.out.2.size
  obtain ⟨q7, hq7⟩ : ∃ q7, w3.heap.size = q7 := ⟨_, rfl⟩
  have hI : UnpI w1 w.heap.size q7 r d p es 0 w7 := by
    rw [← hq7]
    refine ⟨?_, ⟨_, b77, World.ownsRow_nil _ _ _ _⟩, H7.out.2.2.trans F7 (fun b hb e => by omega)⟩
    exact H7.out.2.1.fr F7 (fun e => by omega) (fun b c hb e => by rw [e, H7.out.1] at hb; cases hb)
  have HI := hid hI
  have hrw : w1.heap.size ≤ r := H2.out.2.1
  have hrq : r < q7 := by omega
  have hq71 : w1.heap.size ≤ q7 := by omega
  rw [hq7]
  clear hI b77 F7 hw7 x0 x1 x2 xz xl hb7 hq7 hr3 hs3 hrl
  go_wp2_with fail
  go_loopw [24] (fun iv wr => ∃ k : Nat, k ≤ m ∧ iv = .int .i64 k ∧ UnpI w1 w.heap.size q7 r d p es k wr) (fun iv _ => m - (intOf iv).toNat)
  case atStart => exact ⟨0, Nat.zero_le _, rfl, HI.out⟩
  case round =>
    obtain ⟨k, hk, rfl, hI⟩ := hrel
    obtain ⟨hRd, ⟨v, hb7, hown⟩, hF⟩ := hI
    obtain ⟨va, vc, rfl, -, -, -, -⟩ := own_slice hown
    have htl : (es.take k).length = k := by rw [List.length_take, HM.out]; omega
    replace hown : wr.ownsRow w1.heap.size 118 4 (.slice va (es.take k).length vc) (es.take k).length ((es.take k).flatMap btC) := hown
    rw [htl] at hown hb7
    by_cases hlt : k < m
    · have hdl : decide (k < m) = true := by simp [hlt]
      obtain ⟨x, hx⟩ : ∃ x, es[k]? = some x := ⟨_, List.getElem?_eq_getElem (by rw [HM.out]; exact hlt)⟩
      have hgx := HG.out x (List.mem_of_getElem? hx)
      obtain ⟨g0, g1, g2, g3⟩ := hgx
      have hby : ∀ z ∈ (es.drop k).flatMap entB, 0 ≤ z ∧ z < 256 := ents_byte _
      rw [ents_drop hx] at hRd hby
      obtain ⟨xh, xr, xa, xs⟩ := x
      simp only at g0 g1 g2 g3 hRd hby
      obtain ⟨xr, rfl⟩ := Int.eq_ofNat_of_zero_le g1.1
      obtain ⟨xa, rfl⟩ := Int.eq_ofNat_of_zero_le g2.1
      obtain ⟨xs, rfl⟩ := Int.eq_ofNat_of_zero_le g3.1
      simp only [Int.toNat_natCast] at hRd hby
      have hrg : xr ≤ 1099511627776 ∧ xa ≤ 65535 ∧ xs ≤ 65535 := by omega
      have hby1 := tail_byte (bs := []) hby
      have hby2 := tail_byte (bs := []) hby1
      have hby3 := tail_byte (bs := []) hby2
      have hby4 := tail_byte (bs := []) hby3
      have HN1 := hid (num_q hRd hby1 8 (by simp) (by simp) (by omega))
      have HB := hid (And.intro hby2 (And.intro hby3 hby4))
      have HRC := hid (show ∃ c, wr.heap[r]? = some (.cells c 377) from ⟨_, hRd.ex.choose_spec.choose_spec.1⟩)
      have HX := hid hx
      have hbl := lt_of_heap hb7
      have hrl := lt_of_heap hRd.ex.choose_spec.choose_spec.1
      have HL := hid (And.intro hb7 (And.intro hown hF))
      have hu1 : IntKind.i64.wrap (xr : Int) = (xr : Int) := by rw [IntKind.wrap_i64]; omega
      have hu2 : IntKind.i64.wrap (xa : Int) = (xa : Int) := by rw [IntKind.wrap_i64]; omega
      have hu3 : IntKind.i64.wrap (xs : Int) = (xs : Int) := by rw [IntKind.wrap_i64]; omega
      clear hx hRd hby hby1 hby2 hby3 hby4 hb7 hown hF g1 g2 g3
      go_wp2_with fail
      refine HN1.out.mono ?_
      rintro e W2 ⟨rfl, hR2, F2⟩
      go_upto_region 8 with fail
      obtain ⟨W3, hW3⟩ : ∃ W3, W2.alloc (.cells #[.int .u64 xh, .int .i64 0, .int .i64 0, .int .i64 0] 118) = W3 := ⟨_, rfl⟩
      rw [hW3]
      obtain ⟨b9, hb9⟩ : ∃ b9, W2.heap.size = b9 := ⟨_, rfl⟩
      have x9 : W3.heap[b9]? = some (.cells #[.int .u64 xh, .int .i64 0, .int .i64 0, .int .i64 0] 118) := by rw [← hW3, ← hb9]; exact heap_alloc_new _ _
      have F3 : Fr (fun b => b = r) wr W3 := by rw [← hW3]; exact F2.alloc _
      have hr9 : r ≠ b9 := by have := F2.size; omega
      have hq9 : q7 ≠ b9 := by have := F2.size; omega
      have hs9 : wr.heap.size ≤ b9 := by rw [← hb9]; exact F2.size
      have HN2 := hid (num_q (hR2.fr (show Fr (fun _ => False) W2 W3 by rw [← hW3]; exact (Fr.refl _ _).alloc _) (fun h => h) (fun _ _ _ h => h)) HB.out.1 8 (by simp) (by simp) (by omega))
      have H3 := hid (And.intro x9 F3)
      rw [hb9]
      clear hR2 F2 hW3 x9 F3 HN1 hb9
      go_wp2_with fail
      refine HN2.out.mono ?_
      rintro e W4 ⟨rfl, hR4, F4⟩
      have x9 := F4.heap H3.out.1 (fun e => hr9 e.symm)
      obtain ⟨t0, t1, t2, t3, tz, tl⟩ := cells4b x9
      go_upto_region 9 with fail
      obtain ⟨W5, hW5⟩ : ∃ W5, W4.setCell ⟨b9, 1, none⟩ (.int .i64 xr) = W5 := ⟨_, rfl⟩
      rw [hW5]
      have F5 : Fr (fun b => b = b9) W4 W5 := by rw [← hW5]; exact (Fr.refl (fun b => b = b9) _).setCell (a := ⟨b9, _, none⟩) (fun _ => rfl) _
      have x95 : W5.heap[b9]? = some (.cells #[.int .u64 xh, .int .i64 xr, .int .i64 0, .int .i64 0] 118) := by rw [← hW5, heap_setCell_cells _ _ _ _ x9]; rfl
      have HN3 := hid (num_q (hR4.fr F5 (fun e => hr9 e) (fun b c hb e => by rw [e, x9] at hb; cases hb)) HB.out.2.1 2 (by simp) (by simp) (by omega))
      have H5 := hid (And.intro x95 ((H3.out.2.trans F4 (fun _ _ h => h)).trans F5 (S' := fun b => b = b9) (fun b hb e => by omega)))
      clear hR4 F4 F5 hW5 x9 x95 t0 t1 t2 t3 tz tl HN2
      go_wp2_with fail
      refine HN3.out.mono ?_
      rintro e W6 ⟨rfl, hR6, F6⟩
      have x9 := F6.heap H5.out.1 (fun e => hr9 e.symm)
      obtain ⟨t0, t1, t2, t3, tz, tl⟩ := cells4b x9
      go_upto_region 10 with fail
      obtain ⟨W7, hW7⟩ : ∃ W7, W6.setCell ⟨b9, 2, none⟩ (.int .i64 xa) = W7 := ⟨_, rfl⟩
      rw [hW7]
      have F7 : Fr (fun b => b = b9) W6 W7 := by rw [← hW7]; exact (Fr.refl (fun b => b = b9) _).setCell (a := ⟨b9, _, none⟩) (fun _ => rfl) _
      have x97 : W7.heap[b9]? = some (.cells #[.int .u64 xh, .int .i64 xr, .int .i64 xa, .int .i64 0] 118) := by rw [← hW7, heap_setCell_cells _ _ _ _ x9]; rfl
      have HN4 := hid (num_q (hR6.fr F7 (fun e => hr9 e) (fun b c hb e => by rw [e, x9] at hb; cases hb)) HB.out.2.2 2 (by simp) (by simp) (by omega))
      have H7 := hid (And.intro x97 ((H5.out.2.trans F6 (fun _ _ h => h)).trans F7 (S' := fun b => b = b9) (fun b hb e => by omega)))
      clear hR6 F6 F7 hW7 x9 x97 t0 t1 t2 t3 tz tl HN3
      go_wp2_with fail
      refine HN4.out.mono ?_
      rintro e W8 ⟨rfl, hR8, F8⟩
      have x9 := F8.heap H7.out.1 (fun e => hr9 e.symm)
      obtain ⟨t0, t1, t2, t3, tz, tl⟩ := cells4b x9
      go_upto_region 11 with fail
      obtain ⟨W9, hW9⟩ : ∃ W9, W8.setCell ⟨b9, 3, none⟩ (.int .i64 xs) = W9 := ⟨_, rfl⟩
      rw [hW9]
      have F9 : Fr (fun b => b = b9) W8 W9 := by rw [← hW9]; exact (Fr.refl (fun b => b = b9) _).setCell (a := ⟨b9, _, none⟩) (fun _ => rfl) _
      have x99 : W9.heap[b9]? = some (.cells #[.int .u64 xh, .int .i64 xr, .int .i64 xa, .int .i64 xs] 118) := by rw [← hW9, heap_setCell_cells _ _ _ _ x9]; rfl
      have FA : Fr (fun b => b = r) wr W9 := (H7.out.2.trans F8 (fun _ _ h => h)).trans F9 (S' := fun b => b = b9) (fun b hb e => by omega)
      have hR9 : RdAt W9 r ((es.drop (k + 1)).flatMap entB) false := hR8.fr F9 (fun e => hr9 e) (fun b c hb e => by rw [e, x9] at hb; cases hb)
      have hb79 := FA.heap HL.out.1 (fun e => by omega)
      have hown9 : W9.ownsRow w1.heap.size 118 4 (.slice va k vc) k ((es.take k).flatMap btC) := ownsRow_fr HL.out.2.1 FA (fun g cs hg e => by
        obtain ⟨cr, hcr⟩ := HRC.out
        rw [e, hcr] at hg; cases hg)
      have F19 : Fr (fun _ => False) w1 W9 := HL.out.2.2.trans FA (fun b hb e => by omega)
      obtain ⟨y0, y1, y2, yz, yl⟩ := cells3 hb79
      obtain ⟨t0', t1', t2', t3', tz', tl'⟩ := cells4b x99
      have H9 := hid (And.intro hown9 (And.intro hR9 (And.intro F19 hb79)))
      have hlen : 0 + k + 1 ≤ 25 := by omega
      have hsz9 : w1.heap.size ≤ W9.heap.size := F19.size
      clear hR8 F8 F9 hW9 x9 x99 FA hR9 hb79 hown9 F19 t0 t1 t2 t3 tz tl HN4
      go_wp2_with (at_builtin; refine wpList_append_own_at _ rfl (.tmp 45) (.tmp 47) 127 rfl w1.heap.size 118 i0 _ 4 32 Tryz.underlying127 hi0 hz0 hz1 hz2 rfl (by decide) _ _ _ rfl (H9.out.1.alloc _) ⟨W9.heap.size, 0, none⟩ 1 1 [.int .u64 xh, .int .i64 xr, .int .i64 xa, .int .i64 xs] rfl rfl (World.news_of_block (cs := #[.int .u64 xh, .int .i64 xr, .int .i64 xa, .int .i64 xs]) (t := 118) (fr := (0, 0)) (heap_alloc_new _ _)) (by simp [Value.oneCell']) (by simp [maxLen]; omega) (by omega) (by simp; omega) ?_)
      intro v2 W2 hown2 hgrow2 hnil2 hat2
      have hF2 : Fr (fun b => some b = (Value.slice va k vc).ownBlock) W9 W2 := ((Fr.refl _ _).alloc _).trans (S' := fun b => some b = (Value.slice va k vc).ownBlock) ⟨hgrow2.os, hgrow2.tape, hgrow2.output, hgrow2.size, fun b hb hn => hgrow2.block b hb hn⟩ (fun b hb h => h)
      have hR2 : RdAt W2 r ((es.drop (k + 1)).flatMap entB) false := H9.out.2.1.fr hF2 (fun e => by
        obtain ⟨_, c, hc⟩ := own_blockT H9.out.1 e
        obtain ⟨a, c', h1, _⟩ := H9.out.2.1.ex
        rw [hc] at h1; cases h1) (fun b c hb e => by
        obtain ⟨_, c', hc⟩ := own_blockT H9.out.1 e
        rw [hc] at hb; cases hb)
      have hb72 := hF2.heap H9.out.2.2.2 (fun e => by
        obtain ⟨_, c', hc⟩ := own_blockT H9.out.1 e
        rw [H9.out.2.2.2] at hc; cases hc)
      obtain ⟨va2, vc2, rfl, -, -, -, -⟩ := own_slice hown2
      have F12 : Fr (fun _ => False) w1 W2 := H9.out.2.2.1.trans hF2 (fun b hb e => by have := (own_blockT H9.out.1 e).1; omega)
      have FS : Fr (fun b => b = q7) W2 (W2.setCell ⟨q7, 2, none⟩ (.slice va2 (k + 1) vc2)) := (Fr.refl (fun b => b = q7) _).setCell (a := ⟨q7, _, none⟩) (fun _ => rfl) _
      have HRel := hid (show UnpI w1 w.heap.size q7 r d p es (k + 1) (W2.setCell ⟨q7, 2, none⟩ (.slice va2 (k + 1) vc2)) from ⟨hR2.fr FS (fun e => by omega) (fun b c hb e => by rw [e, hb72] at hb; cases hb), ⟨.slice va2 (k + 1) vc2, by rw [heap_setCell_cells _ _ _ _ hb72]; rfl, by
        have e1 : es.take (k + 1) = es.take k ++ [⟨xh, xr, xa, xs⟩] := by rw [List.take_add_one, HX.out]; rfl
        have e2 : (es.take (k + 1)).flatMap btC = (es.take k).flatMap btC ++ [.int .u64 xh, .int .i64 xr, .int .i64 xa, .int .i64 xs] := by rw [e1, List.flatMap_append]; simp [btC]
        have e3 : (es.take (k + 1)).length = k + 1 := by rw [List.length_take, HM.out]; omega
        show (W2.setCell _ _).ownsRow _ 118 4 _ (es.take (k + 1)).length ((es.take (k + 1)).flatMap btC)
        rw [e2, e3]
        exact ownsRow_fr hown2 FS (fun g cs hg e => by rw [e, hb72] at hg; cases hg)⟩, F12.trans FS (fun b hb e => by omega)⟩)
      obtain ⟨y0', y1', y2', yz', yl'⟩ := cells3 hb72
      clear hown2 hgrow2 hnil2 hat2 hF2 hR2 hb72 F12 FS y0 y1 y2 yz yl t0' t1' t2' t3' tz' tl'
      go_wp2_with fail
      go_roundw
      case rel => exact ⟨k + 1, hlt, by go_num, HRel.out⟩
      case measure => simp [intOf]; omega
    · obtain rfl : k = m := by omega
      have hdl : decide (k < k) = false := by simp
      have e0 : es.drop k = [] := List.drop_eq_nil_of_le (by rw [HM.out]; exact Nat.le_refl _)
      have e1 : es.take k = es := List.take_of_length_le (by rw [HM.out]; exact Nat.le_refl _)
      rw [e0] at hRd
      rw [e1] at hown
      have HBad := hid (rbad_ok hRd)
      have HRest := hid (show Calls Tryz.prog 275 #[.pointer (some ⟨r, 0, none⟩)] wr (RestP 0 wr) from rrest_ok hRd)
      have HL := hid (And.intro hb7 (And.intro (show OwnE wr w1.heap.size (.slice va k vc) es from by
        show wr.ownsRow w1.heap.size 118 4 (.slice va k vc) es.length (es.flatMap btC)
        rw [HM.out]; exact hown) hF))
      have HB7 := hid (fun W (F : Fr (fun _ => False) wr W) => cells3 (F.heap hb7 (fun h => h)))
      clear hRd hb7 hown hF e0 e1 htl
      go_wp2_with fail
      refine HBad.out.mono ?_
      rintro e _ ⟨rfl, rfl⟩
      go_wp2_with fail
      refine HRest.out.mono ?_
      rintro e W2 ⟨ra, rc, rfl, F2⟩
      obtain ⟨y0, y1, y2, yz, yl⟩ := HB7.out _ F2
      have HRi := hid (HRt.out W2 (.slice va k vc) (own_base (own_none HL.out.2.1 F2)))
      have HF2 := hid F2
      clear F2
      go_wp2_with fail
      refine HRi.out.mono ?_
      rintro e W3 ⟨rfl, F3⟩
      have FF := HF2.out.trans F3 (fun _ _ h => h)
      have HF3 := hid FF
      clear y0 y1 y2 yz yl F3
      obtain ⟨y0, y1, y2, yz, yl⟩ := HB7.out _ FF
      obtain ⟨z0, z1, z2, zz, zl⟩ := cells3 (FF.heap (HL.out.2.2.heap H4.out.1 (fun h => h)) (fun h => h))
      clear FF
      go_wp2_with fail
      have FS : ∀ (W : World) (o : Nat) (u : Value), Fr (fun b => b = w.heap.size) W (W.setCell ⟨w.heap.size, o, none⟩ u) := fun W o u => (Fr.refl (fun b => b = w.heap.size) _).setCell (a := ⟨w.heap.size, o, none⟩) (fun _ => rfl) u
      refine bodyPost_ret (v := .tuple #[bkV d p (.slice va k vc), .int .i64 0]) (by simp [results, go_sem, *]) rfl ⟨va, vc, by rw [HM.out], ?_, ?_⟩
      · rw [HM.out]
        have ho := own_none HL.out.2.1 HF3.out
        have hs := H4.out.2.2
        have ho' : W3.ownsRow w1.heap.size 118 4 (.slice va k vc) es.length (es.flatMap btC) := ho
        exact own_fr1 (own_mono ho' (by omega : w.heap.size ≤ w1.heap.size)) (((FS _ _ _).trans (FS _ _ _) (fun _ _ h => h)).trans (FS _ _ _) (fun _ _ h => h)) (fun g hg e => by
          have := (own_blkT ho hg).1
          omega)
      · exact ((((H4.out.2.1.trans HL.out.2.2 (fun _ _ h => h)).trans HF3.out (fun _ _ h => h)).setNew (by omega) _).setNew (by omega) _).setNew (by omega) _
end Go.Proofs.YtgdhaaokolfdoaaGreatDoor

namespace Go.Proofs.YtgdhaaokolfdoaaGreatDoor
open Go.Proofs Go.RowKit Go.Sg Go.Shelf CP SF
attribute [local go_sem] Oper.semAt_some
abbrev encP2 (x : Bt × Bt) : Array Value := #[btV x.1, btV x.2]
def KpP (n0 : Nat) (A C : World) : Prop := A.heap.size ≤ C.heap.size ∧ ∀ b, b < n0 → C.heap[b]? = A.heap[b]?
theorem KpP.refl (n0 : Nat) (A : World) : KpP n0 A A := ⟨Nat.le_refl _, fun _ _ => rfl⟩
theorem KpP.trans {n0 : Nat} {A C D : World} (h : KpP n0 A C) (k : KpP n0 C D) : KpP n0 A D := ⟨Nat.le_trans h.1 k.1, fun b hb => (k.2 b hb).trans (h.2 b hb)⟩
theorem KpP.fr {n0 : Nat} {A C : World} (F : Fr (fun _ => False) A C) (h : n0 ≤ A.heap.size) : KpP n0 A C := ⟨F.size, fun b hb => F.block b (by omega) (fun h => h)⟩
theorem KpP.own {n0 : Nat} {A C : World} {b e size n : Nat} {v : Value} {xs : List Value} (h : A.ownsRow b e size v n xs) (hn : ∀ g, v.ownBlock = some g → g < n0) (K : KpP n0 A C) : C.ownsRow b e size v n xs := by
  obtain ⟨hl, h0 | ⟨g, cap, cur, hv, hb, hg, r⟩⟩ := h
  · exact ⟨hl, .inl h0⟩
  · exact ⟨hl, .inr ⟨g, cap, cur, hv, hb, (K.2 g (hn g (by rw [hv]; rfl))).trans hg, r⟩⟩
theorem pairs_any (d p : Int) (va : Option Addr) (vn vc : Nat) (w : World) :
    Calls Tryz.prog 242 #[bkV d p (.slice va vn vc)] w fun e w' => e = .returned (.func (.func 273) #[] #[.pointer (some ⟨w.heap.size, 0, none⟩)]) ∧ w.alloc (.cells #[.int .i64 d, .int .i64 p, .slice va vn vc] 129) = w' := by
  go_enter Tryz.func242, Tryz.ntmps242
  go_wp2_with fail
  go_ret
  exact ⟨rfl, rfl⟩
def YR (J Jx : List (Bt × Bt) → World → Prop) (Kp : World → World → Prop) (pre : List (Bt × Bt)) (W1 : World) (b : Bool) (W' : World) : Prop := (b = true ∧ J pre W' ∧ Kp W1 W') ∨ (b = false ∧ Jx pre W')
set_option maxRecDepth 100000 in
set_option maxHeartbeats 4000000 in
theorem pairsf_tell {w : World} {bs : Nat} {d p : Int} {v : Value} {es : List Bt} (hs : w.heap[bs]? = some (.cells #[.int .i64 d, .int .i64 p, v] 129)) (hE : OwnE w 0 v es) (hl : es.length ≤ 255) (hso : SortedB es) :
    SeqTell Fence.wide 9 Tryz.prog 273 #[.pointer (some ⟨bs, 0, none⟩)] encP2 (fun x _ => x.1.hash < x.2.hash) (KpP w.heap.size) (fun _ => True) (fun _ => True) es.length w := fun lp J Jx W hW hJ hJx hY h0 => by
  have FW : Fr (fun _ => False) w W := Fr.of_below hW
  obtain ⟨va, vc, rfl, -, -, -, -⟩ := own_slice hE
  obtain ⟨n, hn⟩ : ∃ n, es.length = n := ⟨_, rfl⟩
  have hbs := lt_of_heap hs
  have hs' := FW.heap hs (fun h => h)
  have hE' := own_none hE FW
  have hEg : ∀ g, (Value.slice va es.length vc).ownBlock = some g → g < w.heap.size := fun g hg => (own_blkT hE hg).2
  have HE := hid (fun C (K : KpP w.heap.size W C) => KpP.own hE' hEg K)
  have HBs := hid (fun C (K : KpP w.heap.size W C) => cells3 ((K.2 bs hbs).trans hs'))
  obtain ⟨c0, c1, c2, cz, cl⟩ := HBs.out W (KpP.refl _ _)
  have HSo := hid hso
  have H0 := hid h0
  have HN := hid hn
  have hwW := FW.size
  have hn9 : n ≤ 255 := by omega
  rw [hn] at c2
  clear hs hE hs' hE' hEg hso hW FW h0 hl
  refine callsIn_of_wp Tryz.func273 rfl trivial ?_ rfl
  simp only [Tryz.ntmps273, List.size_toArray, List.length_cons, List.length_nil, Nat.reduceAdd, Nat.reduceSub, Array.replicate_succ, Array.replicate_zero, List.push_toArray, List.append_toArray, List.nil_append, List.cons_append]
  gi_wp2
  gi_loopw [8] (fun iv wr => ∃ (k : Nat) (pre : List (Bt × Bt)), k ≤ n ∧ iv = .int .i64 k ∧ J pre wr ∧ pre.length ≤ k - 1 ∧ KpP w.heap.size W wr) (fun iv _ => n - (intOf iv).toNat)
  case atStart => exact ⟨0, [], Nat.zero_le _, rfl, H0.out, Nat.le_refl _, KpP.refl _ _⟩
  case round =>
    obtain ⟨k, pre, hk, rfl, hJp, hpl, hkp⟩ := hrel
    by_cases hlt : k < n
    · have hdl : decide (k < n) = true := by simp [hlt]
      have hdl2 : decide ((k : Int) < (n : Int)) = true := by simp [hlt]
      have hki : (k : Int) < (n : Int) := by omega
      obtain ⟨x, hx⟩ : ∃ x, es[k]? = some x := ⟨_, List.getElem?_eq_getElem (by rw [HN.out]; exact hlt)⟩
      obtain ⟨g, rfl, hg, u0, u1, u2, u3⟩ := ownE_at (HE.out wr hkp) hx
      obtain ⟨W1, hW1⟩ : ∃ W1, wr.alloc (.cells #[.int .u64 x.hash, .int .i64 x.rg, .int .i64 x.at_, .int .i64 x.sz] 118) = W1 := ⟨_, rfl⟩
      have F1 : Fr (fun _ => False) wr W1 := by rw [← hW1]; exact (Fr.refl _ _).alloc _
      have b4 : W1.heap[wr.heap.size]? = some (.cells #[.int .u64 x.hash, .int .i64 x.rg, .int .i64 x.at_, .int .i64 x.sz] 118) := by rw [← hW1]; exact heap_alloc_new _ _
      have hJ1 : J pre W1 := owns_fr hJ hJp F1
      have hJ1d : J pre W1.drew := owns_fr hJ hJ1 (Fr.refl _ _).drew
      have hwr : w.heap.size ≤ wr.heap.size := Nat.le_trans hwW hkp.1
      have hkp1 : KpP w.heap.size W W1 := hkp.trans (KpP.fr F1 hwr)
      obtain ⟨t0, t1, t2, t3, tz, tl⟩ := cells4b b4
      have H1 := hid (And.intro hkp1 (And.intro hJ1d hpl))
      have HJ1 := hid hJ1
      have HX := hid hx
      have HW1 := hid hW1
      obtain ⟨c0, c1, c2, cz, cl⟩ := HBs.out W1 hkp1
      rw [HN.out] at c2
      clear hJp hkp hkp1 hJ1 hJ1d hW1 F1 b4 hx
      by_cases hk0 : k = 0
      · have hd0 : decide (0 < k) = false := by simp [hk0]
        have hd0' : decide ((0 : Int) < (k : Int)) = false := by simp [hk0]
        have HK0 := hid hk0
        clear hk0
        gi_wp2
        rw [HW1.out]
        gi_big_quiet_th (fail)
        gi_wp2
        go_roundw
        case rel => exact ⟨k + 1, pre, hlt, by go_num, owns_fr hJ HJ1.out ((Fr.refl _ _).drewN _), by have := H1.out.2.2; omega, H1.out.1⟩
        case measure => simp [intOf]; omega
      · obtain ⟨j, hj⟩ : ∃ j, k = j + 1 := ⟨k - 1, by omega⟩
        obtain ⟨y, hy0⟩ : ∃ y, es[j]? = some y := ⟨_, List.getElem?_eq_getElem (by rw [HN.out]; omega)⟩
        have hxy : y.hash < x.hash := sorted_lt HSo.out hy0 HX.out (by omega)
        obtain ⟨g', e', hg', v0, v1, v2, v3⟩ := ownE_at (HE.out W1 H1.out.1) hy0
        cases e'
        have hd0 : decide (0 < k) = true := by simp; omega
        have hd0' : decide ((0 : Int) < (k : Int)) = true := by simp; omega
        have hs1 : wrap64 ((k : Int) - 1) = (j : Int) := by simp only [wrap64]; omega
        have hs2 : IntKind.i64.wrap ((k : Int) - 1) = (j : Int) := by rw [IntKind.wrap_i64]; omega
        have hjn : j < n := by omega
        have hji : (j : Int) < (n : Int) := by omega
        have hpl2 : pre.length < es.length := by have := H1.out.2.2; rw [HN.out]; omega
        have HJ := hid (And.intro hj (And.intro hxy hpl2))
        obtain ⟨fn, tmps, assign, body, hy, hR⟩ := hY pre (y, x) W1.drew H1.out.2.1 hxy hpl2
        dsimp only [encP2] at hy
        have hR' := hR.mono (fun e W' h => (show ∃ b, e = .returned (.bool b) ∧ YR J Jx (KpP w.heap.size) (pre ++ [(y, x)]) W1.drew b W' from by
          rcases h with ⟨rfl, h1, h2⟩ | ⟨rfl, h1⟩
          · exact ⟨true, rfl, .inl ⟨rfl, h1, h2⟩⟩
          · exact ⟨false, rfl, .inr ⟨rfl, h1⟩⟩))
        have HR := hid hR'
        clear hR hR' hj hxy hpl2 hy0 hk0
        gi_wp2
        rw [HW1.out]
        clear u0 u1 u2 u3
        have hmo : Tryz.prog.follows .mixedOrders = true := by kernel_rfl
        gi_region_with_o (refine HR.out.mono ?_; rintro e W3 ⟨bb, rfl, hYR⟩; have HY := hid hYR; clear hYR)
        all_goals
          cases bb with
          | true =>
            have hY2 : J (pre ++ [(y, x)]) W3 ∧ KpP w.heap.size W1.drew W3 := by
              rcases HY.out with ⟨-, h1, h2⟩ | ⟨h1, -⟩
              · exact ⟨h1, h2⟩
              · cases h1
            have HY2 := hid hY2
            clear hY2
            gi_wp2
            go_roundw
            case rel =>
              refine ⟨k + 1, pre ++ [(y, x)], hlt, by go_num, HY2.out.1, ?_, (H1.out.1.trans (KpP.fr (Fr.refl _ _).drew (Nat.le_trans hwW H1.out.1.1))).trans HY2.out.2⟩
              have := H1.out.2.2
              have := HJ.out.1
              rw [List.length_append, List.length_singleton]; omega
            case measure => simp [intOf]; omega
          | false =>
            have hY2 : Jx (pre ++ [(y, x)]) W3 := by
              rcases HY.out with ⟨h1, -⟩ | ⟨-, h1⟩
              · cases h1
              · exact h1
            have HY2 := hid hY2
            clear hY2
            gi_wp2
            refine bodyPost_ret (results_none rfl _ _ _) rfl ?_
            exact ⟨⟨_, rfl⟩, .inr ⟨_, trivial, HY2.out⟩⟩
    · obtain rfl : k = n := by omega
      have hdl : decide (k < k) = false := by simp
      have hdl2 : decide ((k : Int) < (k : Int)) = false := by simp
      gi_wp2
      go_end0
      exact ⟨⟨_, rfl⟩, .inl ⟨pre, trivial, hJp⟩⟩
end Go.Proofs.YtgdhaaokolfdoaaGreatDoor

namespace Go.Proofs.YtgdhaaokolfdoaaGreatDoor
open Go.Proofs Go.RowKit Go.Sg Go.Shelf CP SF
attribute [local go_sem] Oper.semAt_some
theorem right_ret {n : Nat} {R : Ending → World → Prop} {tmps : Array Value} {DD b : Nat} {W : World} {bb : Bool} (q1 : W.heap[b]? = some (.cells #[.bool bb] 4))
    (hK : W.heap[DD]? = some (.deferred (some []))) (hD : b < DD) (hR : R (.returned (.bool bb)) (W.putObj DD (.deferred none))) (t4 : tmps.getD 4 undef = .pointer (some ⟨b, 0, none⟩)) :
    bodyPostM Fence.wide n Tryz.prog Tryz.f190 R .ret { tmps := tmps, defers := [{ target := .collected DD, args := #[] }] } W := by
  have e1 : (W.putObj DD (.deferred none)).cell? ⟨b, 0, none⟩ = some (.bool bb) := by
    have := cell_of_heap ((heap_putObj_ne W DD (.deferred none) b (by omega)).trans q1) 0
    simpa using this
  refine ⟨by simp, .inl ⟨_, _, rfl, run_takeDeferred hK, _, ?_, hR⟩⟩
  rw [Array.getD_eq_getD_getElem?] at t4
  simp [results, Tryz.results190, go_sem, t4, e1]
set_option maxRecDepth 100000 in
set_option maxHeartbeats 8000000 in
theorem bright_ok {w : World} {v : Value} {es : List Bt} (hE : OwnE w 0 v es) (hso : SortedB es) (d p sl : Nat) (hd : d ≤ 8) (hp : p < 2 ^ d) (h1 : 1 ≤ sl) (h2 : sl ≤ 255) (hl : es.length ≤ sl) (hx : ∀ x ∈ es, x.hash < 18446744073709551616) :
    Calls Tryz.prog 190 #[bkV d p v, .int .i64 sl] w (ValP (.bool (!es.any (wrongE d p))) w) := by
  refine (callsIn_wide (n := 10)).1 ?_
  obtain ⟨va, vc, rfl, -, -, -, -⟩ := own_slice hE
  obtain ⟨n, hn⟩ : ∃ n, es.length = n := ⟨_, rfl⟩
  obtain ⟨w1, hw1⟩ : ∃ w1, (w.alloc (.cells #[.int .i64 d, .int .i64 p, .slice va n vc] 129)).alloc (.cells #[.bool false] 4) = w1 := ⟨_, rfl⟩
  obtain ⟨b2, b4, F1⟩ := heap_two hw1
  have s1 : w1.heap.size = w.heap.size + 2 := by rw [← hw1]; simp
  obtain ⟨c0, c1, c2, cz, cl⟩ := cells3 b2
  have HW1 := hid hw1
  have hE1 := own_none hE F1
  have HE := hid hE1
  have hd1 : decide (sl < 1) = false := by simp; omega
  have hd1' : decide ((sl : Int) < 1) = false := by simp; omega
  have hd2 : decide (255 < sl) = false := by simp; omega
  have hd2' : decide ((255 : Int) < (sl : Int)) = false := by simp; omega
  have hd3 : decide (sl < n) = false := by simp; omega
  have hd3' : decide ((sl : Int) < (n : Int)) = false := by simp; omega
  have hd4 : decide ((p : Int) < 0) = false := by simp
  have HWi := hid (show Calls Tryz.prog 241 #[.int .i64 d, .int .i64 8] w1 (BoolP true w1) by
    have := within_b_ok d 8 w1
    rw [show (decide (0 ≤ (d : Int)) && decide ((d : Int) ≤ 8)) = true by simp; omega] at this
    exact this)
  have hshr : (p : Int) / 2 ^ d = 0 := by
    have : p / 2 ^ d = 0 := Nat.div_eq_of_lt hp
    have e : ((p : Int) / 2 ^ d) = ((p / 2 ^ d : Nat) : Int) := by simp
    rw [e, this]; rfl
  have HP := hid (And.intro hso (And.intro hx (And.intro hn (And.intro b2 (And.intro b4 (And.intro F1 s1))))))
  have hn9 : n ≤ 255 := by omega
  have hPr := hid (fun V => pairs_any d p va n vc V)
  rw [hn]
  clear hE hso hx hn hl hw1 b2 b4 F1 s1 hE1 hp
  refine callsIn_of_wp_marks Tryz.func190 rfl trivial ?_ rfl
  simp only [Tryz.ntmps190, List.size_toArray, List.length_cons, List.length_nil, Nat.reduceAdd, Nat.reduceSub, Array.replicate_succ, Array.replicate_zero, List.push_toArray, List.append_toArray, List.nil_append, List.cons_append]
  gi_wp2_with (fail)
  rw [HW1.out]
  gi_wp2_with (fail)
  refine (callsIn_wide.2 HWi.out).mono ?_
  rintro e _ ⟨rfl, rfl⟩
  gi_wp2_with (fail)
  refine (callsIn_wide.2 (hPr.out _)).mono ?_
  rintro e _ ⟨rfl, rfl⟩
  gi_wp2_with (fail)
  obtain ⟨W0, hW0⟩ : ∃ W0, w1.alloc (.cells #[.int .i64 d, .int .i64 p, .slice va n vc] 129) = W0 := ⟨_, rfl⟩
  have F0 : Fr (fun _ => False) w1 W0 := by rw [← hW0]; exact (Fr.refl _ _).alloc _
  have bI : W0.heap[w1.heap.size]? = some (.cells #[.int .i64 d, .int .i64 p, .slice va n vc] 129) := by rw [← hW0]; exact heap_alloc_new _ _
  have hs0 : W0.heap.size = w1.heap.size + 1 := by rw [← hW0]; simp
  rw [hW0]
  have hw0 : w.heap.size + 2 ≤ W0.heap.size := by rw [hs0, HP.out.2.2.2.2.2.2]; omega
  have g2 := F0.heap HP.out.2.2.2.1 (fun h => h)
  have g4 := F0.heap HP.out.2.2.2.2.1 (fun h => h)
  have hE0 : OwnE W0 0 (.slice va n vc) es := by
    have := own_none HE.out F0
    rw [HP.out.2.2.1] at this
    show W0.ownsRow 0 118 4 (.slice va n vc) es.length _
    rw [HP.out.2.2.1]; exact this
  clear c0 c1 c2 cz cl
  refine wpIn_range_tell (F := Fence.wide) rfl (by omega) (gf := 273) (lb := #[.pointer (some ⟨w1.heap.size, 0, none⟩)]) rfl trivial (enters_of Tryz.func273 (by kernel_rfl) rfl)
    (fun pre W => (W.heap[w.heap.size]? = some (.cells #[.int .i64 d, .int .i64 p, .slice va n vc] 129) ∧ W.heap[w.heap.size + 1]? = some (.cells #[.bool false] 4)) ∧ Fr (fun _ => False) W0 W)
    (pairsf_tell (w := W0) bI hE0 (by rw [HP.out.2.2.1]; exact hn9) HP.out.1)
    (fun h k => h.trans k) (fun W l o o' hl _ _ _ => ⟨by rw [size_putObj]; exact Nat.le_refl _, fun b hb => heap_putObj_ne _ _ _ _ (by omega)⟩) (Below.refl _ _) (fun _ => rfl)
    (fun _ _ _ => False)
    (own_and (own_and (own_block _ _ _ (fun _ => .inl rfl)) (own_block _ _ _ (fun _ => .inl rfl))) (own_fr (Nat.le_refl _))) (fun _ _ _ _ _ h _ _ => h.elim) ⟨⟨g2, g4⟩, Fr.refl _ _⟩
    (fun z a' W => ∃ Bx By : Nat, ((W.heap[Bx]? = some (.cells #[.int .u64 z.1.hash, .int .i64 z.1.rg, .int .i64 z.1.at_, .int .i64 z.1.sz] 118) ∧ W.heap[By]? = some (.cells #[.int .u64 z.2.hash, .int .i64 z.2.rg, .int .i64 z.2.at_, .int .i64 z.2.sz] 118)) ∧ z.1.hash < z.2.hash) ∧ a' = { tmps := #[bkV (d : Int) (p : Int) (.slice va n vc), .int .i64 sl, .pointer (some ⟨w.heap.size, 0, none⟩), undef, .pointer (some ⟨w.heap.size + 1, 0, none⟩), .pointer (some ⟨Bx, 0, none⟩), .pointer (some ⟨By, 0, none⟩), .int .i64 sl, .bool false, .bool false, .int .i64 sl, .bool false, .bool false, .bool false, .pointer (some ⟨w.heap.size, 2, none⟩), .slice va n vc, .int .i64 n, .int .i64 sl, .bool false, .bool false, .bool false, .pointer (some ⟨w.heap.size, 0, none⟩), .int .i64 d, .bool true, .bool false, .bool false, .bool false, .pointer (some ⟨w.heap.size, 1, none⟩), .int .i64 p, .bool false, .bool false, .bool false, .pointer (some ⟨w.heap.size, 1, none⟩), .int .i64 p, .pointer (some ⟨w.heap.size, 0, none⟩), .int .i64 d, .int .i64 0, .bool false, .bool false, .agg #[.int .i64 d, .int .i64 p, .slice va n vc], .func (Fn.func 273) #[] #[.pointer (some ⟨w1.heap.size, 0, none⟩)], btV z.1, btV z.2, undef, undef, undef, undef, undef, undef, undef, undef, undef, undef], defers := [] })
    (fun z a' => own_ex fun Bx => own_ex fun By => own_and (own_and (own_and (own_block _ _ _ (fun _ => .inl rfl)) (own_block _ _ _ (fun _ => .inl rfl))) (own_pure _ _)) (own_pure _ _))
    ?assign ?body ?done ?stop
  case assign =>
    rintro lp pre ⟨z1, z2⟩ W K' hI hT hK
    have FN : Fr (fun _ => False) W ((W.alloc (.cells #[.int .u64 z1.hash, .int .i64 z1.rg, .int .i64 z1.at_, .int .i64 z1.sz] 118)).alloc (.cells #[.int .u64 z2.hash, .int .i64 z2.rg, .int .i64 z2.at_, .int .i64 z2.sz] 118)) := ((Fr.refl _ _).alloc _).alloc _
    have hsW : W0.heap.size ≤ W.heap.size := hI.2.size
    have HI := hid (And.intro hI hT)
    have HK := hid hK
    have HFN := hid FN
    clear hI hT hK bI hE0 g2 g4 FN
    gi_wp2
    obtain ⟨⟨⟨h1, h2⟩, hF⟩, hT⟩ := HI.out
    have FN := HFN.out
    refine HK.out _ _ (((KeepsOthers.alloc _ _).trans (KeepsOthers.alloc _ _)).from _) ⟨FN.size, fun b hb => FN.block b (by omega) (fun h => h)⟩ ⟨⟨FN.heap h1 (fun h => h), FN.heap h2 (fun h => h)⟩, hF.trans FN (fun _ _ h => h)⟩ ⟨W.heap.size, W.heap.size + 1, ⟨⟨(heap_alloc_lt _ _ _ (by simp)).trans (heap_alloc_new _ _), by have := heap_alloc_new (W.alloc (.cells #[.int .u64 z1.hash, .int .i64 z1.rg, .int .i64 z1.at_, .int .i64 z1.sz] 118)) (.cells #[.int .u64 z2.hash, .int .i64 z2.rg, .int .i64 z2.at_, .int .i64 z2.sz] 118); simpa using this⟩, hT⟩, rfl⟩
  case body =>
    rintro lp pre ⟨z1, z2⟩ a' W hl ⟨rr, hrr⟩ hI ⟨Bx, By, ⟨⟨hb1, hb2⟩, hlt⟩, rfl⟩ hlen
    simp only at hb1 hb2 hlt
    obtain ⟨t0, t1, t2, t3, tz, tl⟩ := cells4b hb1
    obtain ⟨u0, u1, u2, u3, uz, ul⟩ := cells4b hb2
    have hge : decide (z2.hash ≤ z1.hash) = false := by simp; omega
    have hge' : decide ((z2.hash : Int) ≤ (z1.hash : Int)) = false := by simp; omega
    have HI := hid hI
    clear hI hb1 hb2 hlt bI hE0 g2 g4 hrr
    gi_wp2
    exact ⟨KeepsFrom.refl _ _, KpP.refl _ _, HI.out⟩
  case done =>
    rintro D xs W hD hS ⟨⟨h1, h2⟩, hF⟩ hK
    obtain ⟨c0, c1, c2, cz, cl⟩ := cells3 h1
    have HCo := hid (containsE_ok (own_none hE0 hF) (by rw [HP.out.2.2.1]; exact hn9) ⟨w.heap.size, 0, none⟩ (wrongE d p) (fun x hx W' FW => wrong1_ok (FW.heap h1 (fun h => h)) (by omega) x (HP.out.2.1 x hx)))
    have HD := hid (And.intro h1 (And.intro h2 (And.intro hF hK)))
    clear h1 h2 hF hK hS bI hE0 g2 g4
    gi_wp2_with (fail)
    refine (callsIn_wide.2 HCo.out).mono ?_
    rintro e W2 ⟨rfl, F2⟩
    obtain ⟨h1, h2, hF, hK⟩ := HD.out
    have h2' := F2.heap h2 (fun h => h)
    have d0 := cell_of_heap h2' 0
    have dz := frozen_of_heap h2' 0
    have hK2 := F2.heap hK (fun h => h)
    simp at d0
    have dl := lt_of_heap h2'
    have HD2 := hid (And.intro h2' (And.intro F2 hK2))
    clear h1 h2 hF hK F2 h2' hK2 c0 c1 c2 cz cl
    gi_wp2_with (fail)
    obtain ⟨h2', F2, hK2⟩ := HD2.out
    have hFw : Fr (fun _ => False) w W2 := ((HP.out.2.2.2.2.2.1.trans F0 (fun _ _ h => h)).trans HD.out.2.2.1 (fun _ _ h => h)).trans F2 (fun _ _ h => h)
    refine right_ret (bb := !es.any (wrongE d p)) (b := w.heap.size + 1) (by rw [heap_setCell_cells _ _ _ _ h2']; rfl) ((heap_setCell_ne _ _ _ _ (by show w.heap.size + 1 ≠ D; omega)).trans hK2) (by omega) ⟨rfl, ?_⟩ rfl
    exact ((hFw.setNew (by omega) _)).putObj (fun hh => by omega) _
  case stop => exact fun _ _ _ _ _ _ h => h.elim
end Go.Proofs.YtgdhaaokolfdoaaGreatDoor
