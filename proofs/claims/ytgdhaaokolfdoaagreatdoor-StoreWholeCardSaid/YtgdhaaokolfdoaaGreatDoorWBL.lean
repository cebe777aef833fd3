/- A pack of texts: CR2, SYC, WH0. Conditions: those that each text names. -/
import Derived.Test.YtgdhaaokolfdoaaGreatDoorWBK
import Derived.Test.YtgdhaaokolfdoaaGreatDoorWBJ
set_option linter.unusedVariables false
set_option linter.unusedSimpArgs false
set_option linter.unnecessarySimpa false
/- flash.Crash: the walk. Conditions: the device lies in the world as DevAt says; the fates lie in it. -/
namespace Go.Proofs.YtgdhaaokolfdoaaGreatDoor
open Go.RowKit Go.Sg
/-- What stands behind the first m of a slice. -/
def sfV (a : Option Addr) (n c m : Nat) : Value := .slice (if c = m then a else a.map (·.add m)) (n - m) (c - m)
theorem byv_src {w : World} {a : Option Addr} {n c : Nat} {bs : List Int} (h : ByV w a n c bs) : SrcV w (.slice a n c) n (bs.map (Value.int .u8)) := by
  rcases h.at_ with ⟨rfl, rfl, rfl⟩ | ⟨b, off, cs, rfl, _⟩
  · have : bs = [] := List.eq_nil_of_length_eq_zero h.by_.len
    subst this
    exact ⟨none, 0, rfl, .inl ⟨rfl, rfl, rfl, rfl⟩⟩
  · exact ⟨_, c, rfl, .inr ⟨_, rfl, slb_news h.slb⟩⟩
/-- A row of bytes of one's own, as a slice of them. -/
theorem byv_own {w : World} {b n : Nat} {v : Value} {bs : List Int} (h : w.ownsRow b 5 1 v n (bs.map (Value.int .u8))) (hn : 0 < n) : ∃ g cap, v = .slice (some ⟨g, 0, none⟩) n cap ∧ ByV w (some ⟨g, 0, none⟩) n cap bs ∧ n ≤ cap ∧ b ≤ g := by
  have hl := h.1
  simp at hl
  obtain ⟨a, c, rfl, hnc, hc, hnil, hsm⟩ := own_slice h
  cases a with
  | none => have := (hnil rfl).1; omega
  | some ad =>
    obtain ⟨g, rfl, hg⟩ := hsm _ rfl
    obtain ⟨hgb, cur, hcur⟩ : b ≤ g ∧ ∃ cur, w.heap[g]? = some (.cells cur 5) := by
      obtain ⟨_, ⟨h0, _⟩ | ⟨g', cap', cur', hv, hb, hg', _⟩⟩ := h
      · cases h0
      · cases hv; exact ⟨hb, _, hg'⟩
    refine ⟨g, c, rfl, ⟨⟨hl, fun i x hx => ?_⟩, .inr ⟨g, 0, cur, rfl, hcur⟩⟩, hnc, hgb⟩
    obtain ⟨g', e', _, h1⟩ := own_cell h (j := i) (u := .int .u8 x) (by rw [List.getElem?_map, hx]; rfl)
    cases e'
    exact ⟨g, 0, rfl, hg, by rw [Nat.zero_add]; exact h1⟩
theorem drop_len {w : World} {a : Option Addr} {n c m : Nat} {bs : List Int} (h : ByV w a n c bs) : ((bs.drop m).map (Value.int .u8)).length = (n - m) * 1 := by
  rw [List.length_map, List.length_drop, h.len, Nat.mul_one]
theorem u8_one (l : List Int) : ∀ u ∈ l.map (Value.int .u8), u.oneCell' = true := by
  intro u hu; obtain ⟨q, _, rfl⟩ := List.mem_map.1 hu; rfl
/-- What Crash does. -/
def CrashP (base d bf bq : Nat) (D : Dev) (w : World) (e : Ending) (w' : World) : Prop :=
  e = .returned (.tuple #[]) ∧ ∃ D', DevAt w' base d bf bq D' ∧ CrashOf D D' ∧ Fr (fun b => b = d ∨ b = bf) w w'
set_option maxHeartbeats 8000000 in
set_option maxRecDepth 100000 in
theorem crash_ok {w : World} {base d bf bq : Nat} {D : Dev} (h : DevAt w base d bf bq D) (hlen : ∀ y ∈ D.loose, y.2.length = D.size) (hmany : D.loose.length ≤ 100000) {fa : Option Addr} {fn fc : Nat} {fl : List Int} (hfs : SlI w fa fn fc fl) (hfn : fn ≤ 100000) (hfr : ∀ z ∈ fl, -9223372036854775808 ≤ z ∧ z < 9223372036854775808) (hfb : ∀ b off, fa = some ⟨b, off, none⟩ → fl ≠ [] → b ≠ bf) :
    Calls Tryz.prog 42 #[.pointer (some ⟨d, 0, none⟩), .slice fa fn fc] w (CrashP base d bf bq D w) := by
  obtain ⟨i0, hi0, hz0, hz1, hz2⟩ := info_parts Tryz.info5
  obtain ⟨lv, hd, ws, hown, hwl, hws⟩ := h.dc
  have hz := h.rg.2
  obtain ⟨n, hn⟩ : ∃ n, ws.length = n := ⟨_, rfl⟩
  have hlv : ∃ a c, lv = .slice a ws.length c := by
    obtain ⟨_, ⟨h1, h2⟩ | ⟨g, cap, cur, h1, _⟩⟩ := hown
    · rw [h2]; exact ⟨_, _, h1⟩
    · exact ⟨_, _, h1⟩
  obtain ⟨va, vc, rfl⟩ := hlv
  obtain ⟨l0, ck0, hf0, -, -⟩ := h.fast
  have c1 := cell_of_heap hd 1
  have c3 := cell_of_heap hd 3
  simp at c1 c3
  have ld := lt_of_heap hd
  rw [hn] at c3
  have hn9 : n ≤ 100000 := by omega
  have HO := hid (And.intro hown (And.intro hwl hws))
  have H0 := hid (show CrashF base d bf bq D w 0 D.fast w from ⟨h, fun _ _ => rfl, fun hB => hB.2, Fr.refl _ _⟩)
  have HD := hid (And.intro h hd)
  have HN := hid hn
  have HS := hid hfs
  have HFB := hid hfb
  have HFR := hid hfr
  have HL := hid hlen
  have HF0 := hid hf0
  clear h hd hown hwl hws hn hfs hfb hfr hlen hf0
  go_enter Tryz.func42, Tryz.ntmps42
  go_wp2_with fail
  go_loopw [20] (fun i wr => ∃ (k : Nat) (f : Int → Option (List Int)), k ≤ n ∧ i = .int .i64 k ∧ CrashF base d bf bq D w k f wr) (fun i _ => n - (intOf i).toNat)
  case atStart => exact ⟨0, D.fast, Nat.zero_le _, rfl, H0.out⟩
  case round =>
    obtain ⟨k, f, hk, rfl, hc⟩ := hrel
    have nc : ∀ g c t, w.heap[g]? = some (.cells c t) → ¬ g = bf := fun g c t hg e => by rw [e, HF0.out] at hg; cases hg
    by_cases hlt : k < n
    · have hdk : decide ((k : Int) < (n : Int)) = true := by simp; omega
      have hki : (k : Int) < (n : Int) := by omega
      obtain ⟨x, hx⟩ : ∃ x, ws[k]? = some x := ⟨_, List.getElem?_eq_getElem (by rw [HN.out]; exact hlt)⟩
      obtain ⟨⟨ya, yb⟩, hy⟩ : ∃ y, D.loose[k]? = some y := ⟨_, List.getElem?_eq_getElem (by rw [← HO.out.2.1, HN.out]; exact hlt)⟩
      obtain ⟨hxa, hxb, hxc⟩ := HO.out.2.2 k x (ya, yb) hx hy
      have hown' := ownsRow_fr HO.out.1 hc.fr (fun g c hg => nc g c _ hg)
      obtain ⟨g, rfl, hg, u0, u1⟩ := wr_at hown' hx
      have hyl : yb.length = D.size := HL.out _ (List.mem_of_getElem? hy)
      have hxl : x.ll = D.size := by rw [← hxb.len]; exact hyl
      simp only at hxa
      rw [hxa] at u0
      rw [hxl] at u1 hxb hxc
      obtain ⟨W, hW⟩ : ∃ W, wr.alloc (.cells #[.int .i64 ya, .slice x.la D.size x.lc] 196) = W := ⟨_, rfl⟩
      have bW : W.heap[wr.heap.size]? = some (.cells #[.int .i64 ya, .slice x.la D.size x.lc] 196) := by rw [← hW]; exact heap_alloc_new _ _
      have FW : Fr (fun _ => False) wr W := by rw [← hW]; exact (Fr.refl _ _).alloc _
      have HX := hid (fun V (F : Fr (fun _ => False) W V) => cells2 (F.heap bW (fun h => h)))
      have HC := hid (And.intro hc (And.intro hy FW))
      have hdW : W.heap[d]? = some (.cells (devC { D with fast := f } bf bq (.slice (some ⟨g, 0, none⟩) ws.length vc)) 151) := by
        refine FW.heap (hc.fr.heap HD.out.2 (nc _ _ _ HD.out.2)) (fun h => h)
      have HDV := hid (fun V (F : Fr (fun _ => False) W V) => show V.cell? ⟨d, 2, none⟩ = some (.map (some bf)) ∧ d < V.heap.size by
        have := F.heap hdW (fun h => h)
        exact ⟨by simpa using cell_of_heap this 2, lt_of_heap this⟩)
      have hxb' : ByV W x.la D.size x.lc yb := (hxb.fr hc.fr (fun g c hg => nc g c _ hg)).fr FW (fun _ _ _ h => h)
      have HXB := hid (And.intro hxb' hxc)
      have HW := hid hW
      have hyz : D.size ≤ 512 := hz.2
      clear hx hxa hxb hxc hown' hyl hxl hW bW FW hc hdW hxb' hy
      go_upto_region 6 with fail
      rw [HW.out]
      clear u0 u1
      go_upto_if 28 with fail
      go_cut [7] from 28 to 38 (fun v wx => wx = W ∧ ∃ nv : Nat, nv ≤ D.size ∧ v = .int .i64 nv)
      case first =>
        by_cases hfk : k < fn
        · have hdf : decide ((k : Int) < (fn : Int)) = true := by simp; omega
          have hfi : (k : Int) < (fn : Int) := by omega
          obtain ⟨z, hz'⟩ : ∃ z, fl[k]? = some z := ⟨_, List.getElem?_eq_getElem (by rw [HS.out.len]; exact hfk)⟩
          obtain ⟨b, off, rfl, hb, hcz⟩ := (HS.out.fr (HC.out.1.fr.trans HC.out.2.2 (fun b _ h => h.elim)) (fun b off e _ hne => HFB.out b off e hne)).at_ k z hz'
          obtain ⟨nv, hnv, hn1, hn2⟩ := torn_fact (HFR.out z (List.mem_of_getElem? hz')) hyz
          have HNV := hid hnv
          clear hz'
          go_wp2_with fail
          go_meet
          exact ⟨rfl, nv, HNV.out, rfl⟩
        · have hdf : decide ((k : Int) < (fn : Int)) = false := by simp; omega
          go_wp2_with fail
          go_meet
          exact ⟨rfl, 0, Nat.zero_le _, rfl⟩
      case rest =>
        obtain ⟨hwc, nv, hnv, rfl⟩ := hcut
        subst hwc
        have hDW : DevAt wc base d bf bq { D with fast := f } := HC.out.1.dev.fr HC.out.2.2 (fun h => h) (fun h => h) (fun h => h) (fun _ _ _ _ _ h => h)
        obtain ⟨l, ck, hl, hfn', hff⟩ := hDW.fast
        obtain ⟨ad, had⟩ : ∃ ad, x.la = some ad := by
          rcases HXB.out.1.at_ with ⟨_, h0, _⟩ | ⟨b, off, cs, h1, _⟩
          · omega
          · exact ⟨_, h1⟩
        have hxb := HXB.out.1
        rw [had] at hxb
        have HCL := hid (fun V (F : Fr (fun _ => False) wc V) => clone_own (cap := x.lc) ((hxb.fr F (fun _ _ _ h => h)).take hnv).by_ (show nv ≤ 65536 by omega))
        have HKP := hid (fun V (F : Fr (fun _ => False) wc V) => kept_cap (hDW.fr F (fun h => h) (fun h => h) (fun h => h) (fun _ _ _ _ _ h => h)) ya)
        have HCe := hid (fun V (F : Fr (fun _ => False) wc V) => show (V.cell? ⟨wr.heap.size, 0, none⟩ = some (.int .i64 ya) ∧ V.cell? ⟨wr.heap.size, 1, none⟩ = some (.slice (some ad) D.size x.lc)) ∧ V.cell? ⟨d, 2, none⟩ = some (.map (some bf)) ∧ (V.heap[bf]? = some (.map (ents l) ck) ∧ wr.heap.size < V.heap.size ∧ d < V.heap.size) by
          obtain ⟨t0, t1, tz, tl⟩ := HX.out V F
          obtain ⟨t2, tl2⟩ := HDV.out V F
          rw [had] at t1
          exact ⟨⟨t0, t1⟩, t2, F.heap hl (fun h => h), tl, tl2⟩)
        have HUP := hid (fun (V : World) (hV : V.heap[bf]? = some (.map (ents l) ck)) (v : Value) => run_mapUpdate (P := Tryz.prog) (T := 147) Tryz.underlying147 Tryz.underlying3 hV ya v)
        have hst : ∀ W, (Instr.slice 22 (.slice (some ad) D.size x.lc) none (some (.int .i64 nv)) none).run Tryz.prog W = .ok (.slice (some ad) nv x.lc) W := fun W => slice_to _ _ _ _ (Nat.le_trans hnv HXB.out.2) W
        have hsf : ∀ a c W, (Instr.slice 22 (.slice a D.size c) (some (.int .i64 nv)) none none).run Tryz.prog W = .ok (sfV a D.size c nv) W := fun a c W => slice_from _ _ _ _ hnv W
        have HMap := hid (And.intro hl (And.intro hfn' hff))
        have HAD := hid had
        have hsum : nv + (D.size - nv) = D.size := by omega
        have HSum := hid hsum
        have HM63 := hid (show nv + (D.size - nv) ≤ maxLen by unfold maxLen; omega)
        have HMb := hid (show (nv + (D.size - nv)) * 1 ≤ 140737488355328 by omega)
        have hsz : 96 ≤ D.size := hz.1
        have HS := hid (fun V (F : Fr (fun _ => False) wc V) => show (V.cell? ⟨wr.heap.size, 0, none⟩ = some (.int .i64 ya) ∧ V.cell? ⟨wr.heap.size, 1, none⟩ = some (.slice (some ad) D.size x.lc)) ∧ V.cell? ⟨d, 2, none⟩ = some (.map (some bf)) from ⟨(HCe.out V F).1, (HCe.out V F).2.1⟩)
        have hnb : wr.heap.size ≠ bf := fun e => by
          have h1 := HC.out.1.dev.fast
          obtain ⟨l9, ck9, h9, _⟩ := h1
          have := lt_of_heap h9
          omega
        have hdb : d ≠ bf := fun e => by
          obtain ⟨lv9, hd9, _⟩ := HC.out.1.dev.dc
          obtain ⟨l9, ck9, h9, _⟩ := HC.out.1.dev.fast
          rw [e, h9] at hd9; cases hd9
        have HSp := hid (fun V (o : Obj) (F : Fr (fun _ => False) wc V) => show ((V.putObj bf o).cell? ⟨wr.heap.size, 0, none⟩ = some (.int .i64 ya) ∧ (V.putObj bf o).cell? ⟨wr.heap.size, 1, none⟩ = some (.slice (some ad) D.size x.lc)) ∧ (V.putObj bf o).cell? ⟨d, 2, none⟩ = some (.map (some bf)) by
          obtain ⟨⟨t0, t1⟩, t2, t3, tl1, tl2⟩ := HCe.out V F
          have FP : Fr (fun b => b = bf) V (V.putObj bf o) := (Fr.refl (fun b => b = bf) _).putObj (fun _ => rfl) _
          exact ⟨⟨(FP.cell (p := ⟨_, 0, none⟩) tl1 hnb).trans t0, (FP.cell (p := ⟨_, 1, none⟩) tl1 hnb).trans t1⟩, (FP.cell (p := ⟨_, 2, none⟩) tl2 hdb).trans t2⟩)
        have FG : Fr (fun _ => False) wc wc.drew := (Fr.refl _ _).drew
        clear hDW hl hfn' hff had hxb hsum
        go_upto_region 8 with fail
        refine wp_region_noPanic ?_
        refine region_plan (fun V => (V.cell? ⟨wr.heap.size, 0, none⟩ = some (.int .i64 ya) ∧ V.cell? ⟨wr.heap.size, 1, none⟩ = some (.slice (some ad) D.size x.lc)) ∧ V.cell? ⟨d, 2, none⟩ = some (.map (some bf))) (.rd 0 (.rd 1 (.rd 2 (.rd 3 (.rd 4 (.rd 5 (.rd 6 (.rd 7 (.rd 8 (.rd 9 (.rd 10 (.rd 12 (.rd 13 (.rd 14 (.rd 15 (.rd 17 (.op 11 (.op 16 (.rd 18 (.op 19 (.op 20 .done))))))))))))))))))))) (by kernel_rfl) (by kernel_rfl) (by kernel_rfl) (fun _ _ _ _ _ h => h) (HS.out _ FG) ?_
        try simp only [Act.put, List.setIfInBounds_toArray, List.set_cons_zero, List.set_cons_succ]
        refine plan_rd _ ?_ (by simp only [List.getElem?_toArray, List.getElem?_cons_zero, List.getElem?_cons_succ]; rfl) (by rfl) ?_ ?_
        rotate_left
        · intro V hV
          obtain ⟨⟨t0, t1⟩, t2⟩ := hV
          go_simp
          try with_reducible rfl
        try simp only [Act.put, List.setIfInBounds_toArray, List.set_cons_zero, List.set_cons_succ]
        refine plan_rd _ ?_ (by simp only [List.getElem?_toArray, List.getElem?_cons_zero, List.getElem?_cons_succ]; rfl) (by rfl) ?_ ?_
        rotate_left
        · intro V hV
          obtain ⟨⟨t0, t1⟩, t2⟩ := hV
          go_simp
          try with_reducible rfl
        try simp only [Act.put, List.setIfInBounds_toArray, List.set_cons_zero, List.set_cons_succ]
        refine plan_rd _ ?_ (by simp only [List.getElem?_toArray, List.getElem?_cons_zero, List.getElem?_cons_succ]; rfl) (by rfl) ?_ ?_
        rotate_left
        · intro V hV
          obtain ⟨⟨t0, t1⟩, t2⟩ := hV
          go_simp
          try with_reducible rfl
        try simp only [Act.put, List.setIfInBounds_toArray, List.set_cons_zero, List.set_cons_succ]
        refine plan_rd _ ?_ (by simp only [List.getElem?_toArray, List.getElem?_cons_zero, List.getElem?_cons_succ]; rfl) (by rfl) ?_ ?_
        rotate_left
        · intro V hV
          obtain ⟨⟨t0, t1⟩, t2⟩ := hV
          go_simp
          try with_reducible rfl
        try simp only [Act.put, List.setIfInBounds_toArray, List.set_cons_zero, List.set_cons_succ]
        refine plan_rd _ ?_ (by simp only [List.getElem?_toArray, List.getElem?_cons_zero, List.getElem?_cons_succ]; rfl) (by rfl) ?_ ?_
        rotate_left
        · intro V hV
          obtain ⟨⟨t0, t1⟩, t2⟩ := hV
          go_simp
          try with_reducible rfl
        try simp only [Act.put, List.setIfInBounds_toArray, List.set_cons_zero, List.set_cons_succ]
        refine plan_rd _ ?_ (by simp only [List.getElem?_toArray, List.getElem?_cons_zero, List.getElem?_cons_succ]; rfl) (by rfl) ?_ ?_
        rotate_left
        · intro V hV
          obtain ⟨⟨t0, t1⟩, t2⟩ := hV
          go_simp
          try with_reducible rfl
        try simp only [Act.put, List.setIfInBounds_toArray, List.set_cons_zero, List.set_cons_succ]
        refine plan_rd _ ?_ (by simp only [List.getElem?_toArray, List.getElem?_cons_zero, List.getElem?_cons_succ]; rfl) (by rfl) ?_ ?_
        rotate_left
        · intro V hV
          obtain ⟨⟨t0, t1⟩, t2⟩ := hV
          go_simp
          try with_reducible rfl
        try simp only [Act.put, List.setIfInBounds_toArray, List.set_cons_zero, List.set_cons_succ]
        refine plan_rd _ ?_ (by simp only [List.getElem?_toArray, List.getElem?_cons_zero, List.getElem?_cons_succ]; rfl) (by rfl) ?_ ?_
        rotate_left
        · intro V hV
          obtain ⟨⟨t0, t1⟩, t2⟩ := hV
          go_simp
          try with_reducible rfl
        try simp only [Act.put, List.setIfInBounds_toArray, List.set_cons_zero, List.set_cons_succ]
        refine plan_rd _ ?_ (by simp only [List.getElem?_toArray, List.getElem?_cons_zero, List.getElem?_cons_succ]; rfl) (by rfl) ?_ ?_
        rotate_left
        · intro V hV
          obtain ⟨⟨t0, t1⟩, t2⟩ := hV
          go_simp
          try with_reducible rfl
        try simp only [Act.put, List.setIfInBounds_toArray, List.set_cons_zero, List.set_cons_succ]
        refine plan_rd _ ?_ (by simp only [List.getElem?_toArray, List.getElem?_cons_zero, List.getElem?_cons_succ]; rfl) (by rfl) ?_ ?_
        rotate_left
        · intro V hV
          obtain ⟨⟨t0, t1⟩, t2⟩ := hV
          go_simp
          try with_reducible rfl
        try simp only [Act.put, List.setIfInBounds_toArray, List.set_cons_zero, List.set_cons_succ]
        refine plan_rd _ ?_ (by simp only [List.getElem?_toArray, List.getElem?_cons_zero, List.getElem?_cons_succ]; rfl) (by rfl) ?_ ?_
        rotate_left
        · intro V hV
          obtain ⟨⟨t0, t1⟩, t2⟩ := hV
          go_simp
          try with_reducible rfl
        try simp only [Act.put, List.setIfInBounds_toArray, List.set_cons_zero, List.set_cons_succ]
        refine plan_rd _ ?_ (by simp only [List.getElem?_toArray, List.getElem?_cons_zero, List.getElem?_cons_succ]; rfl) (by rfl) ?_ ?_
        rotate_left
        · intro V hV
          obtain ⟨⟨t0, t1⟩, t2⟩ := hV
          go_simp
          try with_reducible rfl
        try simp only [Act.put, List.setIfInBounds_toArray, List.set_cons_zero, List.set_cons_succ]
        refine plan_rd _ ?_ (by simp only [List.getElem?_toArray, List.getElem?_cons_zero, List.getElem?_cons_succ]; rfl) (by rfl) ?_ ?_
        rotate_left
        · intro V hV
          obtain ⟨⟨t0, t1⟩, t2⟩ := hV
          go_simp
          try with_reducible rfl
        try simp only [Act.put, List.setIfInBounds_toArray, List.set_cons_zero, List.set_cons_succ]
        refine plan_rd _ ?_ (by simp only [List.getElem?_toArray, List.getElem?_cons_zero, List.getElem?_cons_succ]; rfl) (by rfl) ?_ ?_
        rotate_left
        · intro V hV
          obtain ⟨⟨t0, t1⟩, t2⟩ := hV
          go_simp
          try with_reducible rfl
        try simp only [Act.put, List.setIfInBounds_toArray, List.set_cons_zero, List.set_cons_succ]
        refine plan_rd _ ?_ (by simp only [List.getElem?_toArray, List.getElem?_cons_zero, List.getElem?_cons_succ]; rfl) (by rfl) ?_ ?_
        rotate_left
        · intro V hV
          obtain ⟨⟨t0, t1⟩, t2⟩ := hV
          go_simp
          try with_reducible rfl
        try simp only [Act.put, List.setIfInBounds_toArray, List.set_cons_zero, List.set_cons_succ]
        refine plan_rd _ ?_ (by simp only [List.getElem?_toArray, List.getElem?_cons_zero, List.getElem?_cons_succ]; rfl) (by rfl) ?_ ?_
        rotate_left
        · intro V hV
          obtain ⟨⟨t0, t1⟩, t2⟩ := hV
          go_simp
          try with_reducible rfl
        try simp only [Act.put, List.setIfInBounds_toArray, List.set_cons_zero, List.set_cons_succ]
        refine plan_op _ (by simp only [List.getElem?_toArray, List.getElem?_cons_zero, List.getElem?_cons_succ]; rfl) (by rfl) (fun K hK => ?_)
        go_simp
        refine (HCL.out _ FG).mono ?_
        rintro _ V1 ⟨g1, cap1, rfl, hown1, G83⟩
        have hb0 := FG.size
        have FG := FG.trans G83 (fun _ _ h => h)
        try go_simp
        refine hK _ _ (HS.out _ FG) ?_
        clear hK K
        try simp only [Act.put, List.setIfInBounds_toArray, List.set_cons_zero, List.set_cons_succ]
        refine plan_op _ (by simp only [List.getElem?_toArray, List.getElem?_cons_zero, List.getElem?_cons_succ]; rfl) (by rfl) (fun K hK => ?_)
        go_simp
        refine (HKP.out _ FG).mono ?_
        rintro _ V2 ⟨ka, kc, rfl, ⟨hkb, hkc⟩, G113⟩
        have hO := own_mono (own_none hown1 G113) hb0
        have FG := FG.trans G113 (fun _ _ h => h)
        try go_simp
        refine hK _ _ (HS.out _ FG) ?_
        clear hK K
        try simp only [Act.put, List.setIfInBounds_toArray, List.set_cons_zero, List.set_cons_succ]
        refine plan_rd _ ?_ (by simp only [List.getElem?_toArray, List.getElem?_cons_zero, List.getElem?_cons_succ]; rfl) (by rfl) ?_ ?_
        rotate_left
        · intro V hV
          obtain ⟨⟨t0, t1⟩, t2⟩ := hV
          go_simp
          try with_reducible rfl
        try simp only [Act.put, List.setIfInBounds_toArray, List.set_cons_zero, List.set_cons_succ]
        refine plan_op _ (by simp only [List.getElem?_toArray, List.getElem?_cons_zero, List.getElem?_cons_succ]; rfl) (by rfl) (fun K hK => ?_)
        refine wp_app_src rfl (.tmp 50) (.tmp 57) 22 rfl wc.heap.size 5 i0 _ 1 1 Tryz.underlying22 hi0 hz0 hz1 hz2 rfl (Nat.succ_pos 0) _ nv _ rfl hO _ (D.size - nv) _ rfl (byv_src (hkb.drop hnv hkc)) (drop_len hkb) (u8_one _) HM63.out HMb.out FG.size ?_
        intro v3 W3 hown3 hgrow3
        rw [← List.map_append] at hown3
        have FG := app_fr FG hgrow3 (own_blk hO)
        rw [HSum.out] at hown3
        obtain ⟨g3, cap3, rfl, hbv3, hcap3, hg3⟩ := byv_own hown3 (by omega)
        refine hK _ _ (HS.out _ FG) ?_
        clear hK K
        try simp only [Act.put, List.setIfInBounds_toArray, List.set_cons_zero, List.set_cons_succ]
        refine plan_op _ (by simp only [List.getElem?_toArray, List.getElem?_cons_zero, List.getElem?_cons_succ]; rfl) (by rfl) (fun K hK => ?_)
        have hup := HUP.out _ (HCe.out _ FG).2.2.1 (.slice (some ⟨g3, 0, none⟩) D.size cap3)
        go_simp
        refine hK _ _ (HSp.out _ _ FG) ?_
        clear hK K
        try simp only [Act.put, List.setIfInBounds_toArray, List.set_cons_zero, List.set_cons_succ]
        refine plan_done ?_
        refine NoPanic.normal ?_
        go_wp2_with fail
        go_roundw
        case rel =>
          obtain ⟨hl, hfn', hff⟩ := HMap.out
          exact ⟨k + 1, _, hlt, by go_num, crash_step HC.out.1 HC.out.2.1 nv (HC.out.2.2.trans FG (fun _ _ h => h)) (FG.heap hl (fun h => h)) hfn' (fun j => (hff j).fr FG (fun _ _ _ h => h)) hbv3 hcap3⟩
        case measure => simp [intOf]; omega

    · obtain rfl : k = n := by omega
      have hdk : decide ((k : Int) < (k : Int)) = false := by simp
      have HC := hid hc
      have hdr := hc.fr.heap HD.out.2 (nc _ _ _ HD.out.2)
      have HDR := hid hdr
      have z := fun o => frozen_of_heap hdr o
      have ldr := lt_of_heap hdr
      have c3r := cell_of_heap hdr 3
      have c5r := cell_of_heap hdr 5
      have c7r := cell_of_heap hdr 7
      simp at c3r c5r c7r
      clear hc hdr
      go_wp2
      go_end0
      have F3 : Fr (fun b => b = d) wr (((wr.setCell ⟨d, 3, none⟩ (.slice none 0 0)).setCell ⟨d, 5, none⟩ (.int .i64 0)).setCell ⟨d, 7, none⟩ (.bool false)) := (((Fr.refl (fun b => b = d) _).setCell (a := ⟨d, 3, none⟩) (fun _ => rfl) _).setCell (a := ⟨d, 5, none⟩) (fun _ => rfl) _).setCell (a := ⟨d, 7, none⟩) (fun _ => rfl) _
      have h3 := heap_setCell_cells wr d 3 (.slice none 0 0) HDR.out
      have h5 := heap_setCell_cells _ d 5 (.int .i64 0) h3
      have h7 := heap_setCell_cells _ d 7 (.bool false) h5
      refine ⟨rfl, { D with fast := f, loose := [], armed := 0, down := false }, HC.out.dev.recell F3 rfl rfl rfl rfl (lv := .slice none 0 0) ?_ ⟨[], World.ownsRow_nil _ _ _ _, rfl, fun i x y hx _ => by simp at hx⟩, ⟨rfl, rfl, rfl, rfl, rfl, rfl, fun j hj => HC.out.keep j fun y hy => hj y (List.mem_of_mem_take hy), fun hB => HC.out.byt hB⟩, (HC.out.fr.mono (fun _ _ h => .inr h)).trans F3 (fun _ _ h => .inl h)⟩
      rw [h7]; rfl
end Go.Proofs.YtgdhaaokolfdoaaGreatDoor

/- Sync of a store's device. Conditions: the store lies in the world as StoreL says. -/
namespace Go.Proofs.YtgdhaaokolfdoaaGreatDoor
open Go.RowKit Go.Sg Go.Sg.Bits Go.Sg.Clk CP SF
theorem StoreAt.with_dev {w w' : World} {B : Blk} {x : Sto} (h : StoreAt w B x) (F : Fr (fun b => b = B.d ∨ b = B.bf) w w') {D : Dev} (hD : DevAt w' B.base B.d B.bf B.bq D) (e1 : D.sectors = x.dev.sectors) (e2 : D.size = x.dev.size) : StoreAt w' B { x with dev := D } ∧ FrB B w w' := by
  have FR : FrR B [.d, .bf] w w' := F.mono (fun b _ hs => hs.elim (fun e => ⟨.d, by simp, e⟩) (fun e => ⟨.bf, by simp, e⟩))
  have S := h.stays FR
  have hrg := h.rg
  exact ⟨⟨S.s (by decide), hD, S.bits (by decide) (by decide), S.fr (by decide), S.dy (by decide), S.de (by decide), S.mem (by decide) (by decide) (by decide), S.load, h.ne, h.ge, ⟨hrg.1, hrg.2.1, hrg.2.2.1, by rw [e1]; exact hrg.2.2.2.1, by rw [e2]; exact hrg.2.2.2.2⟩, h.inr⟩, h.frB FR⟩
theorem D_down {w w' : World} {B : Blk} {x : Sto} {c : Cont} {P : Prot} {a : Bool} {N : Nat} (hi : Is w x c P a N) (hdn : x.dev.act.down = true) (hD : DevAt w' B.base B.d B.bf B.bq x.dev.act) : DownC w' B (x.cs c) P (N + 1) := by
  refine ⟨x.dev.act, hD, ⟨Nat.succ_le_succ hi.dev.acts, Nat.le_succ_of_le hi.dev.many, hi.dev.len, hi.dev.prot, ?_, fun h => (by cases h), hi.dev.byt⟩, hdn, rfl, rfl⟩
  show x.dev.armed - 1 ≤ _
  have := hi.dev.armed; omega
/-- What Sync does, to a store's callers. -/
def SyncY (l : Nat) (B : Blk) (y : Cs) (P : Prot) (a : Bool) (N : Nat) (w : World) (e : Ending) (w' : World) : Prop :=
  FrB B w w' ∧ ((e = .returned (.int .i64 0) ∧ StoreL l w' B y P a (N + 1)) ∨ (e = .returned (.int .i64 4) ∧ a = true ∧ DownC w' B y P (N + 1)))
theorem sync_c {w : World} {B : Blk} {y : Cs} {P : Prot} {a : Bool} {N : Nat} (h : StoreL 1 w B y P a N) (hN : N + 1 ≤ 90000) : Calls Tryz.prog 41 #[.pointer (some ⟨B.d, 0, none⟩)] w (SyncY 2 B y P a N w) := by
  obtain ⟨⟨x, c, hS, rfl, hi, hcl, -⟩, hT, hb⟩ := h
  have hfew := hi.few
  refine (sync_ok hS.dev hi.down (Nat.le_trans hi.dev.acts (by omega)) hi.dev.armed (Nat.le_trans hi.dev.many (by omega)) hi.dev.len).mono ?_
  rintro e w' (⟨hdn, rfl, hD, F⟩ | ⟨hdn, rfl, hD, F⟩)
  · obtain ⟨hS', FB⟩ := hS.with_dev (F.mono fun _ _ h => .inl h) hD rfl rfl
    refine ⟨FB, .inr ⟨rfl, ?_, D_down hi hdn hD⟩⟩
    cases a with
    | true => rfl
    | false => rw [Dev.calm_up hi.down (hi.dev.calm rfl)] at hdn; cases hdn
  · obtain ⟨hS', FB⟩ := hS.with_dev F hD rfl rfl
    have hh := hi.holds.frB FB
    exact ⟨FB, .inl ⟨rfl, ⟨⟨_, c, hS', rfl, ⟨hdn, hi.dev.synced, ⟨hh.ok, fun k q hq => (by
      obtain ⟨s0, b0, a1, a2, a3, a4, a5⟩ := hh.mem k q hq
      exact ⟨s0, b0, a1, a2, a3, a4, fun hd => by rw [show ({ x with dev := x.dev.synced } : Sto).dev.sec _ = x.dev.sec _ from Dev.synced_sec _ _]; exact a5 hd⟩), fun k st bs hk hm => by
      rw [show ({ x with dev := x.dev.synced } : Sto).dev.sec _ = x.dev.sec _ from Dev.synced_sec _ _]; exact hh.dev k st bs hk hm⟩, hi.ptk, hi.apart, hN⟩, fun _ => hcl (by omega), fun _ => rfl⟩, hT.fr FB (fun h => by omega), hb⟩⟩⟩
end Go.Proofs.YtgdhaaokolfdoaaGreatDoor

/- StoreWhole: what lies in the world between two acts. Conditions: none. -/
namespace Go.Proofs.YtgdhaaokolfdoaaGreatDoor
open Go.RowKit Go.Sg Go.Sg.Bits Go.Sg.Clk CP SF
theorem wrap_succ {m : Nat} (h : m < 1000000) : wrap64 ((m : Int) + 1) = ((m + 1 : Nat) : Int) := by simp only [wrap64]; omega
theorem dec_lt {a b : Nat} (h : a < b) : decide ((a : Int) < (b : Int)) = true := by simp; omega
theorem int_lt {a b : Nat} (h : a < b) : (a : Int) < (b : Int) := by omega
theorem arm_c {w : World} {B : Blk} {y : Cs} {P : Prot} {a : Bool} {N : Nat} (h : StoreC w B y P a N) (k : Int) (hk : k ≤ 9223372036854775807) :
    Calls Tryz.prog 40 #[.pointer (some ⟨B.d, 0, none⟩), .int .i64 k] w fun e w' => e = .returned (.tuple #[]) ∧ FrB B w w' ∧ StoreC w' B y P true N := by
  obtain ⟨⟨x, c, hS, rfl, hi⟩, hT, hb⟩ := h
  refine (arm_ok hS.dev k hk).mono ?_
  rintro e w' ⟨n, hn, he, hD, F⟩
  obtain ⟨hS', FB⟩ := hS.with_dev (F.mono fun _ _ h => .inl h) hD rfl rfl
  have hh := hi.holds.frB FB
  exact ⟨he, FB, ⟨⟨_, c, hS', rfl, ⟨hi.down, ⟨hi.dev.acts, hi.dev.many, hi.dev.len, hi.dev.prot, hn, fun h => (by cases h), hi.dev.byt⟩, ⟨hh.ok, hh.mem, hh.dev⟩, hi.ptk, hi.apart, hi.few⟩⟩, hT.fr FB (fun h => by omega), hb⟩⟩
theorem EndW.mono {w : World} {L : Loc} {N N' : Nat} {last ahead : List RPg} (h : EndW w L N last ahead) (hN : N ≤ N') : EndW w L N' last ahead := by
  obtain ⟨D, P, h1, h2, r⟩ := h
  exact ⟨D, P, h1, h2.mono hN, r⟩
theorem EndW.frL {w w' : World} {L : Loc} {N : Nat} {last ahead : List RPg} (h : EndW w L N last ahead) {k : Nat} (F : Fr (fun b => b = k) w w') {c : Array Value} {t : TypeId} (hk : w.heap[k]? = some (.cells c t)) (ht : t ∉ 5 :: mutT) : EndW w' L N last ahead := by
  obtain ⟨D, P, h1, r⟩ := h
  obtain ⟨lv, hd, _⟩ := h1.dc
  obtain ⟨l, ck, hf, _⟩ := h1.fast
  obtain ⟨l', ck', hq, _⟩ := h1.past
  refine ⟨D, P, h1.fr F (fun e => ?_) (fun e => ?_) (fun e => ?_) (fun g c' t' ht' hg e => ?_), r⟩
  · rw [e, hk] at hd; cases hd; exact ht (by decide)
  · rw [e, hk] at hf; cases hf
  · rw [e, hk] at hq; cases hq
  · rw [e, hk] at hg; cases hg; rcases ht' with rfl | rfl | rfl <;> exact ht (by decide)
/-- What an act left: its results are v0 to v6, and whether the device is down. -/
def DOut (L : Loc) (N G : Nat) (last ahead : List RPg) (v0 v1 v2 v3 v4 v5 v6 : Value) (err : Int) (w : World) : Prop :=
  (err = 0 ∧ ∃ B y r P ta tc la lc fa fc ya yc da dc, (v0 = .slice ta r.taken.length tc ∧ v1 = .int .i64 r.hand ∧ v2 = .int .i64 r.gen ∧ v3 = .slice la r.live.length lc ∧ v4 = .slice fa r.fresh.length fc ∧ v5 = .slice ya r.dying.length yc ∧ v6 = .slice da r.dead.length dc) ∧
    S13W w L B y r P N G last ahead ∧ RefAt w r (.slice ta r.taken.length tc) (.slice la r.live.length lc) (.slice fa r.fresh.length fc) (.slice ya r.dying.length yc) (.slice da r.dead.length dc)) ∨ (err = 4 ∧ EndW w L N last ahead)
theorem DOut.fr0 {L : Loc} {N G : Nat} {last ahead : List RPg} {v0 v1 v2 v3 v4 v5 v6 : Value} {err : Int} {w w' : World} (h : DOut L N G last ahead v0 v1 v2 v3 v4 v5 v6 err w) (F : Fr (fun _ => False) w w') : DOut L N G last ahead v0 v1 v2 v3 v4 v5 v6 err w' := by
  rcases h with ⟨h0, B, y, r, P, ta, tc, la, lc, fa, fc, ya, yc, da, dc, hv, hS, hR⟩ | ⟨h0, hE⟩
  · exact .inl ⟨h0, B, y, r, P, ta, tc, la, lc, fa, fc, ya, yc, da, dc, hv, hS.fr0 F, hR.fr F⟩
  · exact .inr ⟨h0, hE.fr0 F⟩
theorem DOut.box {L : Loc} {N G : Nat} {last ahead : List RPg} {v0 v1 v2 v3 v4 v5 v6 : Value} {err : Int} {w w' : World} (h : DOut L N G last ahead v0 v1 v2 v3 v4 v5 v6 err w) {k : Nat} (F : Fr (fun b => b = k) w w') {c : Array Value} (hk : w.heap[k]? = some (.cells c 64)) (h0 : 0 < k) : DOut L N G last ahead v0 v1 v2 v3 v4 v5 v6 err w' := by
  rcases h with ⟨he, B, y, r, P, ta, tc, la, lc, fa, fc, ya, yc, da, dc, hv, hS, hR⟩ | ⟨he, hE⟩
  · exact .inl ⟨he, B, y, r, P, ta, tc, la, lc, fa, fc, ya, yc, da, dc, hv, { hS with st := hS.st.box F hk h0 }, ref_64 hR F (fun x hx => by subst hx; exact ⟨_, hk⟩)⟩
  · exact .inr ⟨he, hE.frL F hk (by decide)⟩
def DidX (L : Loc) (N G : Nat) (last ahead : List RPg) (w : World) (e : Ending) (w' : World) : Prop :=
  ∃ (t l f y d : Option Addr) (k0 k1 k2 k3 k4 k5 k6 k7 k8 k9 : Nat) (x z err : Int), e = .returned (.tuple #[.agg #[.slice t k0 k1, .int .i64 x, .int .i64 z, .slice l k2 k3, .slice f k4 k5, .slice y k6 k7, .slice d k8 k9], .int .i64 err, .bool true]) ∧ FrT L.base w w' ∧ DOut L N G last ahead (.slice t k0 k1) (.int .i64 x) (.int .i64 z) (.slice l k2 k3) (.slice f k4 k5) (.slice y k6 k7) (.slice d k8 k9) err w'
theorem didX_of {L : Loc} {N G : Nat} {last ahead : List RPg} {w : World} {e : Ending} {w' : World} (h : DidW L N G last ahead last ahead w e w') : DidX L N G last ahead w e w' := by
  obtain ⟨v, err, rfl, F, ⟨rfl, B, y, r, P, ta, tc, la, lc, fa, fc, ya, yc, da, dc, rfl, hS, hR⟩ | ⟨rfl, ⟨t, l, f, y, d, a, b, c, e, g, h, i, j, k, m, x, z, rfl⟩, hE⟩⟩ := h
  · exact ⟨_, _, _, _, _, _, _, _, _, _, _, _, _, _, _, _, _, 0, rfl, F, .inl ⟨rfl, B, y, r, P, ta, tc, la, lc, fa, fc, ya, yc, da, dc, ⟨rfl, rfl, rfl, rfl, rfl, rfl, rfl⟩, hS, hR⟩⟩
  · exact ⟨_, _, _, _, _, _, _, _, _, _, _, _, _, _, _, _, _, 4, rfl, F, .inr ⟨rfl, hE⟩⟩
theorem S13W.mono {w : World} {L : Loc} {B : Blk} {y : Cs} {r : R13} {P : Prot} {N N' G G' : Nat} {last ahead : List RPg} (h : S13W w L B y r P N G last ahead) (hN : N ≤ N') (h9 : N' ≤ 90000) (hG : G ≤ G') : S13W w L B y r P N' G' last ahead :=
  { h with st := h.st.mono hN h9, gen := Nat.le_trans h.gen hG }
theorem DOut.mono {L : Loc} {N N' G G' : Nat} {last ahead : List RPg} {v0 v1 v2 v3 v4 v5 v6 : Value} {err : Int} {w : World} (h : DOut L N G last ahead v0 v1 v2 v3 v4 v5 v6 err w) (hN : N ≤ N') (h9 : N' ≤ 90000) (hG : G ≤ G') : DOut L N' G' last ahead v0 v1 v2 v3 v4 v5 v6 err w := by
  rcases h with ⟨h0, B, y, r, P, ta, tc, la, lc, fa, fc, ya, yc, da, dc, hv, hS, hR⟩ | ⟨h0, hE⟩
  · exact .inl ⟨h0, B, y, r, P, ta, tc, la, lc, fa, fc, ya, yc, da, dc, hv, hS.mono hN h9 hG, hR⟩
  · exact .inr ⟨h0, hE.mono hN⟩
theorem DidX.mono {L : Loc} {N N' G G' : Nat} {last ahead : List RPg} {w w' : World} {e : Ending} (h : DidX L N G last ahead w e w') (hN : N ≤ N') (h9 : N' ≤ 90000) (hG : G ≤ G') : DidX L N' G' last ahead w e w' := by
  obtain ⟨t, l, f, y, d, k0, k1, k2, k3, k4, k5, k6, k7, k8, k9, x, z, err, he, F, hO⟩ := h
  exact ⟨t, l, f, y, d, k0, k1, k2, k3, k4, k5, k6, k7, k8, k9, x, z, err, he, F, hO.mono hN h9 hG⟩
theorem kept_len {P : Prot} {L : List RPg} (h : Kept P L) : L.length ≤ 48 := by
  have := len_nodup (n := 48) h.2 (fun k hk => by
    obtain ⟨p, hp, rfl⟩ := List.mem_map.1 hk
    obtain ⟨m, st, e1, e2, hc, hP⟩ := h.1 p hp
    have := hc.1.2
    rw [e1]; omega)
  simpa using this
theorem PgR.crash {w w' : World} {base d bf bq : Nat} {D : Dev} {v : Value} {L : List RPg} (h : PgR w v L) (hD : DevAt w base d bf bq D) (F : Fr (fun b => b = d ∨ b = bf) w w') : PgR w' v L := by
  obtain ⟨lv, hd, _⟩ := hD.dc
  obtain ⟨l, ck, hf, _⟩ := hD.fast
  refine ownsRow_fr h F (fun g c hg hs => ?_)
  rcases hs with e | e
  · rw [e, hd] at hg; cases hg
  · rw [e, hf] at hg; cases hg
structure Nums (m : Nat) : Prop where
  a : 18 * m + 8 ≤ 90000
  b : 18 * m + 8 + 1 ≤ 90000
  c : 18 * m + 8 + 1 + 9 ≤ 90000
  d : 18 * m + 9 ≤ 90000
  e : 18 * m + 9 ≤ 18 * (m + 1)
  f : 18 * (m + 1) ≤ 90000
  g : 18 * m + 8 + 1 + 9 ≤ 18 * (m + 1)
  h : m + 1 ≤ 999999
  i : 18 * m + 8 ≤ 5000
  j : 18 * m + 8 + 1 ≤ 5000
  k : 18 * (m + 1) ≤ 5000
  l : m + 1 ≤ 200
  o : m + 1 + 1 ≤ m + 2
theorem nums {m n : Nat} (h : m < n) (hn : n ≤ 100) : Nums m := by constructor <;> omega
/-- The rows of what counted at the last two commits, and the generation. -/
def KeptV (last ahead : List RPg) (m : Nat) (v7 v8 v9 : Value) (w : World) : Prop :=
  ∃ a7 c7 a8 c8 g, v7 = .slice a7 last.length c7 ∧ v8 = .slice a8 ahead.length c8 ∧ v9 = .int .i64 ((g : Nat) : Int) ∧ g ≤ m + 1 ∧ PgR w (.slice a7 last.length c7) last ∧ PgR w (.slice a8 ahead.length c8) ahead
theorem KeptV.frT {last ahead : List RPg} {m base : Nat} {v7 v8 v9 : Value} {w w' : World} (h : KeptV last ahead m v7 v8 v9 w) (F : FrT base w w') : KeptV last ahead m v7 v8 v9 w' := by
  obtain ⟨a7, c7, a8, c8, g, h7, h8, h9, hg, k7, k8⟩ := h
  exact ⟨a7, c7, a8, c8, g, h7, h8, h9, hg, FrT.own k7 (by decide) F, FrT.own k8 (by decide) F⟩
theorem KeptV.mono {last ahead : List RPg} {m m' : Nat} {v7 v8 v9 : Value} {w : World} (h : KeptV last ahead m v7 v8 v9 w) (hm : m ≤ m') : KeptV last ahead m' v7 v8 v9 w := by
  obtain ⟨a7, c7, a8, c8, g, h7, h8, h9, hg, r⟩ := h
  exact ⟨a7, c7, a8, c8, g, h7, h8, h9, by omega, r⟩
theorem KeptV.box {last ahead : List RPg} {m : Nat} {v7 v8 v9 : Value} {w w' : World} (h : KeptV last ahead m v7 v8 v9 w) {k : Nat} (F : Fr (fun b => b = k) w w') {c : Array Value} (hk : w.heap[k]? = some (.cells c 64)) : KeptV last ahead m v7 v8 v9 w' := by
  obtain ⟨a7, c7, a8, c8, g, h7, h8, h9, hg, k7, k8⟩ := h
  have key : ∀ g c', w.heap[g]? = some (.cells c' 71) → ¬ g = k := fun g c' hg e => by rw [e, hk] at hg; cases hg
  exact ⟨a7, c7, a8, c8, g, h7, h8, h9, hg, ownsRow_fr k7 F key, ownsRow_fr k8 F key⟩
/-- Between two rounds of the law. -/
def WAt (W1 : World) (L : Loc) (b6 m : Nat) (v7 v8 v9 : Value) (wr : World) : Prop :=
  ∃ B y r P ta tc la lc fa fc ya yc da dc last ahead, S13W wr L B y r P (18 * m) (m + 1) last ahead ∧ RefAt wr r (.slice ta r.taken.length tc) (.slice la r.live.length lc) (.slice fa r.fresh.length fc) (.slice ya r.dying.length yc) (.slice da r.dead.length dc) ∧
    wr.heap[b6]? = some (.cells #[.slice ta r.taken.length tc, .int .i64 r.hand, .int .i64 r.gen, .slice la r.live.length lc, .slice fa r.fresh.length fc, .slice ya r.dying.length yc, .slice da r.dead.length dc] 64) ∧ KeptV last ahead m v7 v8 v9 wr ∧ Fr (fun _ => False) W1 wr
/-- Behind all acts. -/
def EndX (W1 : World) (L : Loc) (v7 v8 v9 : Value) (wx : World) : Prop :=
  ∃ last ahead, EndW wx L 5000 last ahead ∧ KeptV last ahead 200 v7 v8 v9 wx ∧ Fr (fun _ => False) W1 wx
/-- Ahead of an act. -/
def WMid (W1 : World) (L : Loc) (b6 m : Nat) (x : ActV) (v7 v8 v9 : Value) (wx : World) : Prop :=
  ∃ r ta tc la lc fa fc ya yc da dc last ahead, wx.heap[b6]? = some (.cells #[.slice ta r.taken.length tc, .int .i64 r.hand, .int .i64 r.gen, .slice la r.live.length lc, .slice fa r.fresh.length fc, .slice ya r.dying.length yc, .slice da r.dead.length dc] 64) ∧ KeptV last ahead (m + 1) v7 v8 v9 wx ∧ Fr (fun _ => False) W1 wx ∧
    ∀ W, Fr (fun _ => False) wx W → Calls Tryz.prog 36 #[.pointer (some ⟨L.s, 0, none⟩), refV (r : R13) (.slice ta r.taken.length tc) (.slice la r.live.length lc) (.slice fa r.fresh.length fc) (.slice ya r.dying.length yc) (.slice da r.dead.length dc), x.val] W (DidX L (18 * (m + 1)) (m + 2) last ahead W)
/-- Behind an act: its results lie in a box. -/
def WhCut (W1 : World) (L : Loc) (b6 m : Nat) (v7 v8 v9 : Value) (v11 v12 v13 : Value) (wx : World) : Prop :=
  ∃ b11 v0 v1 v2 v3 v4 v5 v6 err last ahead c6, v11 = .pointer (some ⟨b11, 0, none⟩) ∧ v12 = .int .i64 err ∧ v13 = .bool true ∧ b11 ≠ b6 ∧ wx.heap[b11]? = some (.cells #[v0, v1, v2, v3, v4, v5, v6] 64) ∧ wx.heap[b6]? = some (.cells c6 64) ∧ c6.size = 7 ∧ DOut L (18 * (m + 1)) (m + 2) last ahead v0 v1 v2 v3 v4 v5 v6 err wx ∧ KeptV last ahead (m + 1) v7 v8 v9 wx ∧ Fr (fun _ => False) W1 wx
end Go.Proofs.YtgdhaaokolfdoaaGreatDoor
