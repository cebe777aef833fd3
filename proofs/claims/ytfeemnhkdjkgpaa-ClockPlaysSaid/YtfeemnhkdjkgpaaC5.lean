/- The walk of ClockBounds. Conditions: the arguments read as the row opens them. -/
import Derived.Test.YtfeemnhkdjkgpaaC4
import Derived.Test.YtfeemnhkdjkgpaaPut
namespace Go.Proofs.Ytfeemnhkdjkgpaa
open Go.RowKit Go.Sg Go.Sg.Clk

theorem markM_there {pl : List Pl} {key : Int} {v : Value} {j : Nat} (h : find pl key = some j) (hp : pl[j]? = some ⟨key, v, true, true⟩) : CS.markM pl key = pl := by
  simp only [CS.markM, h]
  rw [CS.modify_eq hp]
  apply List.ext_getElem?
  intro i
  rw [get_set hp]
  split
  · rename_i e; subst e; exact hp.symm
  · rfl

theorem put_did {w : World} {bc bp bm hand : Nat} {pl : List Pl} (h : CS.AtI w bc bp bm pl hand) (key : Int) (x : ByteArray) :
    Calls Try.prog 10 #[.pointer (some ⟨bc, 0, none⟩), .int .i64 key, .string x] w fun e w' => ∃ M, Did pl key (.string x) M ∧ e = .returned (.tuple #[.int .i64 (CS.goneK M.gone), CS.goneV (.string { data := #[] }) M.gone, .bool M.gone.isSome]) ∧
      CS.AtI w' bc bp bm M.pl M.hand ∧ Fr (fun b => b = bc ∨ b = bp ∨ b = bm) w w' :=
  (CS.put_at h key x).mono fun _ _ ⟨h1, h2, h3⟩ => ⟨_, did h.nd h.hand key _, h1, h2, h3⟩

theorem two_string (W : World) (b : Nat) (x y : Int) (h0 : W.cell? ⟨b, 0, none⟩ = some (.int .u8 x)) (h1 : W.cell? ⟨b, 1, none⟩ = some (.int .u8 y)) :
    ∃ s : ByteArray, (convert 27 9 (.slice (some ⟨b, 0, none⟩) 2 2)).run Try.prog W = .ok (.string s) W := by
  have h := run_bytesToString (P := Try.prog) W ⟨b, 0, none⟩ 2 2 [x, y] (by simp [loadCells, loadCellsFrom, go_sem, Addr.add, h0, h1])
  exact ⟨_, (run_convert_bytes_string W 27 9 5 _ 2 2 Try.underlying27 Try.underlying5 Try.underlying9).trans h⟩

set_option maxHeartbeats 4000000 in
set_option maxRecDepth 100000 in
theorem clockBounds_walk (a0 : Int) (w0 : (Lit.int .u8 a0).wf = true) (a : Option Addr) (len cap : Nat) (l : List (Int × Int × Int)) (hll : l.length = len) (w : World) (hl : Row3 w a l) :
    Calls Try.prog 3 #[.int .u8 a0, .slice a len cap] w fun e w' => e = .returned (.bool true) ∧ Fr (fun _ => False) w w' := by
  have hb : 0 ≤ a0 ∧ a0 ≤ 255 := by
    simp only [Lit.wf, Bool.and_eq_true, decide_eq_true_eq] at w0
    exact w0
  obtain ⟨n0, rfl⟩ := Int.eq_ofNat_of_zero_le hb.1
  have hn0 : n0 ≤ 255 := by omega
  clear w0 hb
  by_cases hlen : 200 < len
  · clear hl hll
    go_enter Try.func3, Try.ntmps3
    go_wp2
    go_ret
    exact ⟨rfl, Fr.refl _ _⟩
  · obtain ⟨n, hn⟩ : ∃ n, n0 % 64 + 1 = n := ⟨_, rfl⟩
    have hn1 : 1 ≤ n ∧ n ≤ 64 := by omega
    have hN : (n0 : Int) % 64 + 1 = (n : Int) := by omega
    have HN := hid hN
    have HL := hid hl
    have HLL := hid hll
    clear hN hl hll hn
    go_enter Try.func3, Try.ntmps3
    go_wp2_with fail
    rw [HN.out]
    refine (CS.new_ok n hn1.1 (by omega) w).mono ?_
    rintro e wc ⟨rfl, h0, F0⟩
    obtain ⟨bc, hbc⟩ : ∃ bc, w.heap.size + 2 = bc := ⟨_, rfl⟩
    obtain ⟨bp, hbp⟩ : ∃ bp, w.heap.size = bp := ⟨_, rfl⟩
    obtain ⟨bm, hbm⟩ : ∃ bm, w.heap.size + 1 = bm := ⟨_, rfl⟩
    have hnew : w.heap.size ≤ bc ∧ w.heap.size ≤ bp ∧ w.heap.size ≤ bm := by omega
    have t : ∀ b, b < w.heap.size → (b = bc ∨ b = bp ∨ b = bm) → False := fun b hb h => by omega
    rw [hbc, hbm, hbp] at h0
    rw [hbc]
    clear hbc hbm hbp
    have H0 := hid h0
    have T := hid t
    clear h0 t HN
    go_wp2
    go_loopw [7] (fun i wr => ∃ (k : Nat) (pl : List Pl) (hand : Nat), k ≤ len ∧ i = .int .i64 k ∧ CS.AtI wr bc bp bm pl hand ∧ pl.length = n ∧ Fr (fun _ => False) w wr) (fun i _ => len - (intOf i).toNat)
    case atStart => exact ⟨0, _, _, Nat.zero_le _, rfl, H0.out, by simp, F0⟩
    case round =>
      obtain ⟨k, pl, hand, hk, rfl, hA, hpl, hF⟩ := hrel
      by_cases hkl : k < len
      · obtain ⟨x, hx⟩ : ∃ x, l[k]? = some x := ⟨_, List.getElem?_eq_getElem (by have := HLL.out; omega)⟩
        obtain ⟨b, off, rfl, hb, q0, q1, q2, -, -, -⟩ := (HL.out.below (hF.below (fun _ _ h => h))).at_ k x hx
        have HA := hid hA
        have HP := hid hpl
        clear hA hpl hx
        go_wp2_with fail
        obtain ⟨s, hs⟩ := two_string (wr.alloc (.cells #[.int .u8 (x.2.2 % 256), .int .u8 k] 5)) wr.heap.size (x.2.2 % 256) k (by simp [go_sem]) (by simp [go_sem])
        rw [hs]
        obtain ⟨w1, hw1⟩ : ∃ w1, wr.alloc (.cells #[.int .u8 (x.2.2 % 256), .int .u8 k] 5) = w1 := ⟨_, rfl⟩
        have F1 : Fr (fun _ => False) wr w1 := by rw [← hw1]; exact (Fr.refl _ _).alloc _
        have HA1 := hid (HA.out.fr F1 (fun h => h) (fun h => h) (fun h => h))
        rw [hw1]
        obtain ⟨key, hkey⟩ : ∃ key, x.2.1.tmod 100 = key := ⟨_, rfl⟩
        rw [hkey]
        clear hs hw1 hkey
        have hc := count_le pl
        have hroom := HA1.out.room
        rw [HP.out] at hc
        obtain ⟨c, hcc⟩ : ∃ c, pl.countP (fun p => p.full) = c := ⟨_, rfl⟩
        have Hc := hid hcc
        rw [hcc] at hc
        clear hcc
        go_wp2_with fail
        refine (CS.len_at HA1.out).mono ?_
        rintro e w' ⟨rfl, rfl⟩
        rw [Hc.out]
        go_wp2_with fail
        refine (CS.look_at HA1.out key).mono ?_
        rintro e w' ⟨rfl, rfl⟩
        generalize ((find pl key).bind fun i => (pl[i]?).map (·.v)).getD (.string { data := #[] }) = v0
        obtain ⟨th, hth⟩ : ∃ th, (find pl key).isSome = th := ⟨_, rfl⟩
        rw [hth]
        have Hth := hid hth
        clear hth
        go_wp2_with fail
        refine (put_did HA1.out key s).mono ?_
        rintro e w2 ⟨M, hD, rfl, hA2, F2⟩
        have hc2 := count_le M.pl
        rw [hD.len, HP.out] at hc2
        obtain ⟨j, hj, hj2⟩ := hD.there
        have Hj := hid (And.intro hj hj2)
        have HD := hid hD
        have HA2 := hid hA2
        have hcas := hD.cases
        clear hj hj2 hD hA2
        have hmk := hid (markM_there Hj.out.1 Hj.out.2)
        have hgt : CS.got (.string { data := #[] }) M.pl key = .string s := by simp [CS.got, Hj.out.1, Hj.out.2]
        have Hgt := hid hgt
        clear hgt
        rcases hcas with ⟨i, hf, hg, hcnt⟩ | ⟨hf, hg, hcnt⟩ | ⟨hf, g, hg, hne, hful, hcnt, hgn⟩
        · obtain rfl : th = true := by rw [← Hth.out, hf]; rfl
          have hcnt' : M.pl.countP (fun p => p.full) = c := hcnt.trans Hc.out
          have Hcnt := hid hcnt'
          rw [show CS.goneK M.gone = 0 by rw [hg]; rfl, show CS.goneV (.string { data := #[] }) M.gone = .string { data := #[] } by rw [hg]; rfl, show M.gone.isSome = false by rw [hg]; rfl]
          rw [hcnt'] at hc2
          clear hf hg hcnt hcnt'
          go_wp2_with fail
          refine (CS.get_at HA2.out key).mono ?_
          rintro e w3 ⟨rfl, hA3, F3⟩
          rw [Hgt.out, Hj.out.1]
          rw [hmk.out] at hA3
          have HA3 := hid hA3
          clear hA3
          go_wp2_with fail
          refine (CS.len_at HA3.out).mono ?_
          rintro e w' ⟨rfl, rfl⟩
          rw [Hcnt.out]
          go_wp2_with fail
          refine (CS.len_at HA3.out).mono ?_
          rintro e w' ⟨rfl, rfl⟩
          rw [Hcnt.out]
          go_wp2_with fail
          refine (CS.look_at HA3.out 0).mono ?_
          rintro e w' ⟨rfl, rfl⟩
          generalize ((find M.pl 0).bind fun i => (M.pl[i]?).map (·.v)).getD (.string { data := #[] }) = v1
          generalize (find M.pl 0).isSome = b1
          go_wp2
          go_roundw
          case rel => exact ⟨k + 1, M.pl, M.hand, by omega, by simp, HA3.out, HD.out.len.trans HP.out, (((hF.trans F1 (fun _ _ h => h)).trans F2 T.out).trans F3 (fun b hb h => T.out b hb (.inr (.inl h))))⟩
          case measure => simp [intOf]; omega
        · obtain rfl : th = false := by rw [← Hth.out, hf]; rfl
          have hcnt' : M.pl.countP (fun p => p.full) = c + 1 := by rw [hcnt, Hc.out]
          have Hcnt := hid hcnt'
          rw [show CS.goneK M.gone = 0 by rw [hg]; rfl, show CS.goneV (.string { data := #[] }) M.gone = .string { data := #[] } by rw [hg]; rfl, show M.gone.isSome = false by rw [hg]; rfl]
          rw [hcnt'] at hc2
          clear hf hg hcnt hcnt'
          go_wp2_with fail
          refine (CS.get_at HA2.out key).mono ?_
          rintro e w3 ⟨rfl, hA3, F3⟩
          rw [Hgt.out, Hj.out.1]
          rw [hmk.out] at hA3
          have HA3 := hid hA3
          clear hA3
          go_wp2_with fail
          refine (CS.len_at HA3.out).mono ?_
          rintro e w' ⟨rfl, rfl⟩
          rw [Hcnt.out]
          go_wp2_with fail
          refine (CS.len_at HA3.out).mono ?_
          rintro e w' ⟨rfl, rfl⟩
          rw [Hcnt.out]
          go_wp2_with fail
          refine (CS.look_at HA3.out 0).mono ?_
          rintro e w' ⟨rfl, rfl⟩
          generalize ((find M.pl 0).bind fun i => (M.pl[i]?).map (·.v)).getD (.string { data := #[] }) = v1
          generalize (find M.pl 0).isSome = b1
          go_wp2
          go_roundw
          case rel => exact ⟨k + 1, M.pl, M.hand, by omega, by simp, HA3.out, HD.out.len.trans HP.out, (((hF.trans F1 (fun _ _ h => h)).trans F2 T.out).trans F3 (fun b hb h => T.out b hb (.inr (.inl h))))⟩
          case measure => simp [intOf]; omega
        · obtain rfl : th = false := by rw [← Hth.out, hf]; rfl
          have hcnt' : M.pl.countP (fun p => p.full) = c := hcnt.trans Hc.out
          have Hcnt := hid hcnt'
          have hg2 : CS.goneV (.string { data := #[] }) M.gone = g.v := by rw [hg]; rfl
          rw [show CS.goneK M.gone = g.key by rw [hg]; rfl, hg2, show M.gone.isSome = true by rw [hg]; rfl]
          have hkk : (g.key == key) = false := by simpa using hne
          have hcn : c = n := by rw [← Hc.out, hful, HP.out]
          have Hgn := hid hgn
          generalize g.v = gv
          generalize hgk : g.key = gk at *
          have Hgk := hid hgk
          have hbn : ((c : Int) != (n : Int)) = false := by simp [hcn]
          rw [hcnt'] at hc2
          clear hf hg hcnt hcnt' hg2 hne hful hgn hcn hgk
          go_wp2_with fail
          refine (CS.get_at HA2.out key).mono ?_
          rintro e w3 ⟨rfl, hA3, F3⟩
          rw [Hgt.out, Hj.out.1]
          rw [hmk.out] at hA3
          have HA3 := hid hA3
          clear hA3
          go_wp2_with fail
          refine (CS.len_at HA3.out).mono ?_
          rintro e w' ⟨rfl, rfl⟩
          rw [Hcnt.out]
          go_wp2_with fail
          refine (CS.len_at HA3.out).mono ?_
          rintro e w' ⟨rfl, rfl⟩
          rw [Hcnt.out]
          go_wp2_with fail
          refine (CS.look_at HA3.out gk).mono ?_
          rintro e w' ⟨rfl, rfl⟩
          rw [Hgn.out]
          go_wp2
          go_roundw
          case rel => exact ⟨k + 1, M.pl, M.hand, by omega, by simp, HA3.out, HD.out.len.trans HP.out, (((hF.trans F1 (fun _ _ h => h)).trans F2 T.out).trans F3 (fun b hb h => T.out b hb (.inr (.inl h))))⟩
          case measure => simp [intOf]; omega
      · obtain rfl : k = len := by omega
        clear hA hpl HL HLL
        go_wp2_with fail
        refine (awake_ok wr).mono ?_
        rintro e w2 ⟨rfl, F2⟩
        go_wp2
        go_ret
        exact ⟨rfl, hF.trans F2 (fun _ _ h => h)⟩
end Go.Proofs.Ytfeemnhkdjkgpaa
