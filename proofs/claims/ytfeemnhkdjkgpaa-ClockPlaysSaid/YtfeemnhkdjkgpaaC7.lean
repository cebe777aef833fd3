/- Drop of the clock of int, and the walk of ClockLast. Conditions: the arguments read as the row opens them. -/
import Derived.Test.YtfeemnhkdjkgpaaC6
import Derived.Test.YtfeemnhkdjkgpaaLast
namespace Go.Proofs.Ytfeemnhkdjkgpaa
open Go.RowKit Go.Sg Go.Sg.Clk

def DropPost (pl : List Pl) (hand bc bp bm : Nat) (key : Int) (w : World) (e : Ending) (w' : World) : Prop :=
  e = .returned (.tuple #[CI.got (.int .i64 0) pl key, .bool (find pl key).isSome]) ∧ CI.AtI w' bc bp bm (dropM (.int .i64 0) pl key) hand ∧ Fr (fun b => b = bp ∨ b = bm) w w'

set_option maxHeartbeats 2000000 in
theorem drop_at {w : World} {bc bp bm hand : Nat} {pl : List Pl} (h : CI.AtI w bc bp bm pl hand) (key : Int) :
    Calls Try.prog 16 #[.pointer (some ⟨bc, 0, none⟩), .int .i64 key] w (DropPost pl hand bc bp bm key w) := by
  have L := hid (CI.look_at h key)
  cases hf : find pl key with
  | none =>
    rw [hf] at L
    have e1 : dropM (.int .i64 0) pl key = pl := by simp [dropM, hf]
    have e2 : CI.got (.int .i64 0) pl key = .int .i64 0 := by simp [CI.got, hf]
    have E := hid (And.intro e1 (And.intro e2 (And.intro hf h)))
    clear e1 e2 hf h
    go_enter Try.func16, Try.ntmps16
    go_wp2_with fail
    refine L.out.mono ?_
    rintro e w' ⟨rfl, rfl⟩
    go_wp2
    go_ret2
    obtain ⟨e1, e2, e3, e4⟩ := E.out
    exact ⟨by rw [e2, e3]; rfl, by rw [e1]; exact e4, Fr.refl _ _⟩
  | some i =>
    rw [hf] at L
    obtain ⟨p, hp, hful, hkey⟩ := find_some hf
    obtain ⟨n1, n2, n3⟩ := h.ne
    have hr := h.room
    have hi : i < pl.length := (List.getElem?_eq_some_iff.1 hp).1
    have f0 := h.c0
    have f1 := h.c1
    have k0 := h.k0 hp
    have k1 := h.k1 hp
    have k2 := h.k2 hp
    have k3 := h.k3 hp
    have zp := h.zp
    obtain ⟨l, ck, hm, hR⟩ := h.m
    have hlk : Sg.look l key = some (.int .i64 i) := by rw [hR.2.1, hf]; rfl
    have hl2 := fun (W : World) (hW : W.heap[bm]? = some (.map (ents l) ck)) => run_lookup (P := Try.prog) (T := 59) false Try.underlying59 Try.underlying3 Try.zero3 hW key
    have hdel := fun (W : World) (hW : W.heap[bm]? = some (.map (ents l) ck)) => run_delete (P := Try.prog) (T := 59) Try.underlying59 Try.underlying3 hW key 0 #[59, 3] rfl
    rw [hlk] at hl2
    simp only [Option.getD_some, Bool.false_eq_true, if_false] at hl2
    have e1 : dropM (.int .i64 0) pl key = pl.set i (Pl.none (.int .i64 0)) := by simp [dropM, hf]
    have e2 : CI.got (.int .i64 0) pl key = p.v := by simp [CI.got, hf, hp]
    have H := hid h
    have HP := hid hp
    have HR := hid hR
    have HU := hid (And.intro hful hkey)
    have HF := hid hf
    have E := hid (And.intro e1 e2)
    have HK := hid hlk
    have HM := hid hm
    obtain ⟨y, hy⟩ : ∃ y, p.v = .int .i64 y := h.vs p (List.mem_of_getElem? hp)
    have L2 := L.out
    simp only [Option.bind_some, hp, Option.map_some, Option.getD_some, Option.isSome_some] at L2
    rw [hy] at L2 k1
    have L3 := hid L2
    have HY := hid hy
    clear e1 e2 hf h hp hful hkey hR hlk hy L L2
    go_enter Try.func16, Try.ntmps16
    go_wp2_with fail
    refine L3.out.mono ?_
    rintro e w' ⟨rfl, rfl⟩
    go_wp2
    go_region
    go_wp2
    go_ret2
    obtain ⟨hnd, hl, hn⟩ := HR.out
    obtain ⟨hu, hk⟩ := HU.out
    obtain ⟨e1, e2⟩ := E.out
    refine ⟨by rw [e2, HF.out, HY.out]; rfl, ?_, ((((((Fr.refl (fun b => b = bp ∨ b = bm) _).setCell (fun _ => .inl rfl) _).setCell (fun _ => .inl rfl) _).setCell (fun _ => .inl rfl) _).setCell (fun _ => .inl rfl) _).drew).putObj (fun _ => .inr rfl) _⟩
    rw [e1]
    refine H.out.place HP.out _ (fun h => (by cases h)) ⟨0, rfl⟩ H.out.hand ?_ ?_ (heap_putObj_same _ _ _ ?_) (nodup_del hnd _) (fun k => ?_) ?_
    · simp only [go_sem, ne_eq, n1.symm, n2.symm, not_false_eq_true]; exact H.out.c
    · simp only [go_sem, ne_eq, n3.symm, not_false_eq_true]; exact heap_place H.out.p HP.out _ _ _ _ _ rfl
    · simpa using lt_of_heap HM.out
    · rw [look_del hnd, hl, hu, hk]
      simp [Pl.none]
    · rw [length_del, HK.out, hn, hu]; simp [Pl.none]

theorem dropM_len (z : Value) (pl : List Pl) (key : Int) : (dropM z pl key).length = pl.length := by
  unfold dropM; split <;> simp
theorem markM_full (pl : List Pl) (key : Int) : ∀ i : Nat, ((CI.markM pl key)[i]?).map (fun p : Pl => (p.full, p.key)) = (pl[i]?).map (fun p : Pl => (p.full, p.key)) := by
  intro i
  unfold CI.markM
  split
  · rename_i j hj
    rw [List.getElem?_modify]
    cases pl[i]? <;> simp
    split <;> exact ⟨rfl, rfl⟩
  · rfl
theorem inv_mark {pl : List Pl} {key : Int} {hand : Nat} (h : Inv pl hand) : Inv (CI.markM pl key) hand := by
  refine h.same ?_ fun i => ?_
  · unfold CI.markM; split <;> simp
  · have := markM_full pl key i
    unfold isFull
    cases h1 : (CI.markM pl key)[i]? <;> cases h2 : pl[i]? <;> rw [h1, h2] at this <;> simp at this ⊢
    exact this.1
theorem small_mark {pl : List Pl} {key : Int} (h : Small pl) : Small (CI.markM pl key) := by
  intro i p hp hf
  have := markM_full pl key i
  rw [hp] at this
  cases h2 : pl[i]? with
  | none => rw [h2] at this; cases this
  | some q => rw [h2] at this; simp at this; have := h i q h2 (by rw [← this.1, hf]); omega
theorem markM_len (pl : List Pl) (key : Int) : (CI.markM pl key).length = pl.length := by
  unfold CI.markM; split <;> simp

theorem tmod_bounds (x : Int) : -100 < x.tmod 100 ∧ x.tmod 100 < 100 :=
  ⟨Int.lt_tmod_of_pos x (by decide), Int.tmod_lt_of_pos x (by decide)⟩

set_option maxHeartbeats 4000000 in
set_option maxRecDepth 100000 in
theorem clockLast_walk (a0 : Int) (w0 : (Lit.int .u8 a0).wf = true) (a : Option Addr) (len cap : Nat) (l : List (Int × Int × Int)) (hll : l.length = len) (w : World) (hl : Row3 w a l) :
    Calls Try.prog 4 #[.int .u8 a0, .slice a len cap] w fun e w' => e = .returned (.bool true) ∧ Fr (fun _ => False) w w' := by
  have hb : 0 ≤ a0 ∧ a0 ≤ 255 := by
    simp only [Lit.wf, Bool.and_eq_true, decide_eq_true_eq] at w0
    exact w0
  obtain ⟨n0, rfl⟩ := Int.eq_ofNat_of_zero_le hb.1
  have hn0 : n0 ≤ 255 := by omega
  clear w0 hb
  by_cases hlen : 200 < len
  · clear hl hll
    go_enter Try.func4, Try.ntmps4
    go_wp2
    go_ret
    exact ⟨rfl, Fr.refl _ _⟩
  · obtain ⟨n, hn⟩ : ∃ n, n0 % 64 + 2 = n := ⟨_, rfl⟩
    have hn1 : 2 ≤ n ∧ n ≤ 65 := by omega
    have hN : (n0 : Int) % 64 + 2 = (n : Int) := by omega
    have HN := hid hN
    have HL := hid hl
    have HLL := hid hll
    clear hN hl hll hn
    go_enter Try.func4, Try.ntmps4
    go_wp2_with fail
    rw [HN.out]
    refine (CI.new_ok n (by omega) (by omega) w).mono ?_
    rintro e wc ⟨rfl, h0, F0⟩
    obtain ⟨bc, hbc⟩ : ∃ bc, w.heap.size + 2 = bc := ⟨_, rfl⟩
    obtain ⟨bp, hbp⟩ : ∃ bp, w.heap.size = bp := ⟨_, rfl⟩
    obtain ⟨bm, hbm⟩ : ∃ bm, w.heap.size + 1 = bm := ⟨_, rfl⟩
    have hnew : w.heap.size ≤ bc ∧ w.heap.size ≤ bp ∧ w.heap.size ≤ bm := by omega
    have t : ∀ b, b < w.heap.size → (b = bc ∨ b = bp ∨ b = bm) → False := fun b hb h => by omega
    rw [hbc, hbm, hbp] at h0
    rw [hbc]
    clear hbc hbm hbp
    have H0 := hid h0
    have T := hid t
    clear h0 t HN
    go_wp2
    go_loopw [6] (fun i wr => ∃ (k : Nat) (pl : List Pl) (hand : Nat), k ≤ len ∧ i = .int .i64 k ∧ CI.AtI wr bc bp bm pl hand ∧ pl.length = n ∧ Inv pl hand ∧ Small pl ∧ Fr (fun _ => False) w wr) (fun i _ => len - (intOf i).toNat)
    case atStart =>
      refine ⟨0, _, _, Nat.zero_le _, rfl, H0.out, by simp, .inl ⟨0, by simp; omega, rfl, fun i hi => ?_⟩, fun i p hp hf => ?_, F0⟩
      · simp at hi
        simp [isFull, hi, Pl.none]
      · rw [List.eq_of_mem_replicate (List.mem_of_getElem? hp)] at hf; cases hf
    case round =>
      obtain ⟨k, pl, hand, hk, rfl, hA, hpl, hI, hS, hF⟩ := hrel
      by_cases hkl : k < len
      · obtain ⟨x, hx⟩ : ∃ x, l[k]? = some x := ⟨_, List.getElem?_eq_getElem (by have := HLL.out; omega)⟩
        obtain ⟨b, off, rfl, hb, q0, q1, q2, -, -, -⟩ := (HL.out.below (hF.below (fun _ _ h => h))).at_ k x hx
        have HR := hid (HL.out.below (hF.below (fun _ _ h => h)))
        have HX := hid hx
        have HA := hid hA
        have HP := hid hpl
        have HI := hid hI
        have HSm := hid hS
        clear hA hpl hx hI hS
        have b1 := tmod_bounds x.2.1
        have b2 := tmod_bounds x.2.2
        have hB := hF.below (fun _ _ h => h)
        go_wp2_with fail
        · refine (CI.get_at HA.out _).mono ?_
          rintro e w1 ⟨rfl, hA1, F1⟩
          have HA1 := hid hA1
          clear hA1
          generalize CI.got (.int .i64 0) pl (x.2.1.tmod 100) = v1
          generalize (find pl (x.2.1.tmod 100)).isSome = t1
          go_wp2
          go_roundw
          case rel => exact ⟨k + 1, _, hand, by omega, by simp, HA1.out, (markM_len _ _).trans HP.out, inv_mark HI.out, small_mark HSm.out, hF.trans F1 (fun b hb h => T.out b hb (.inr (.inl h)))⟩
          case measure => simp [intOf]; omega
        · refine (CI.put_at HA.out (x.2.1.tmod 100) k).mono ?_
          rintro e w1 ⟨rfl, hA1, F1⟩
          have G1 := hF.trans F1 T.out
          obtain ⟨b', off', e', hb', p0, p1, p2, -, -, -⟩ := (HL.out.below (G1.below (fun _ _ h => h))).at_ k x HX.out
          cases e'
          have HA1 := hid hA1
          clear hA1 q0 q1 q2
          go_wp2_with fail
          refine (CI.put_at HA1.out (x.2.2.tmod 100 + 1000) k).mono ?_
          rintro e w2 ⟨rfl, hA2, F2⟩
          have hst := Clk.step HA.out.nd HA.out.hand (by rw [HP.out]; omega) HI.out HSm.out b1 (show 100 ≤ x.2.2.tmod 100 + 1000 by omega) (.int .i64 k) (.int .i64 k) (.int .i64 0)
          have hln := ((did HA1.out.nd HA1.out.hand (x.2.2.tmod 100 + 1000) (.int .i64 k)).len.trans (did HA.out.nd HA.out.hand (x.2.1.tmod 100) (.int .i64 k)).len).trans HP.out
          have G2 := G1.trans F2 T.out
          obtain ⟨b', off', e', hb', r0, r1, r2, -, -, -⟩ := (HL.out.below (G2.below (fun _ _ h => h))).at_ k x HX.out
          cases e'
          generalize putM (putM pl hand (x.2.1.tmod 100) (.int .i64 k)).pl (putM pl hand (x.2.1.tmod 100) (.int .i64 k)).hand (x.2.2.tmod 100 + 1000) (.int .i64 k) = M2 at *
          have HA2 := hid hA2
          have HST := hid hst
          have HLN := hid hln
          clear hA2 hst hln p0 p1 p2
          cases hg : M2.gone with
          | none =>
            simp only [CI.goneK, CI.goneV, Option.map_none, Option.getD_none, Option.isSome_none]
            clear hg
            go_wp2_with fail
            refine (drop_at HA2.out (x.2.2.tmod 100 + 1000)).mono ?_
            rintro e w3 ⟨rfl, hA3, F3⟩
            have HA3 := hid hA3
            clear hA3
            generalize CI.got (.int .i64 0) M2.pl (x.2.2.tmod 100 + 1000) = v1
            generalize (find M2.pl (x.2.2.tmod 100 + 1000)).isSome = t1
            go_wp2
            go_roundw
            case rel => exact ⟨k + 1, _, M2.hand, by omega, by simp, HA3.out, (dropM_len _ _ _).trans HLN.out, HST.out.inv, HST.out.small, G2.trans F3 (fun b hb h => T.out b hb (.inr h))⟩
            case measure => simp [intOf]; omega
          | some g =>
            simp only [CI.goneK, CI.goneV, Option.map_some, Option.getD_some, Option.isSome_some]
            have hne : (g.key == x.2.1.tmod 100) = false := by simpa using HST.out.gone g hg
            generalize g.v = gv
            clear hg
            go_wp2_with fail
            refine (drop_at HA2.out (x.2.2.tmod 100 + 1000)).mono ?_
            rintro e w3 ⟨rfl, hA3, F3⟩
            have HA3 := hid hA3
            clear hA3
            generalize CI.got (.int .i64 0) M2.pl (x.2.2.tmod 100 + 1000) = v1
            generalize (find M2.pl (x.2.2.tmod 100 + 1000)).isSome = t1
            go_wp2
            go_roundw
            case rel => exact ⟨k + 1, _, M2.hand, by omega, by simp, HA3.out, (dropM_len _ _ _).trans HLN.out, HST.out.inv, HST.out.small, G2.trans F3 (fun b hb h => T.out b hb (.inr h))⟩
            case measure => simp [intOf]; omega
      · obtain rfl : k = len := by omega
        clear hA hpl HL HLL hI hS
        go_wp2_with fail
        refine (awake_ok wr).mono ?_
        rintro e w2 ⟨rfl, F2⟩
        go_wp2
        go_ret
        exact ⟨rfl, hF.trans F2 (fun _ _ h => h)⟩
end Go.Proofs.Ytfeemnhkdjkgpaa
