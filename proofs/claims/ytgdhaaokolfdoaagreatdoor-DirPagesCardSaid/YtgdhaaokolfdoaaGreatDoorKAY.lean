/- A pack of texts: DI. Conditions: those that each text names. -/
import Derived.Test.YtgdhaaokolfdoaaGreatDoorKAX
import Derived.Test.YtgdhaaokolfdoaaGreatDoorKAJ
set_option linter.unusedVariables false
set_option linter.unusedSimpArgs false
set_option linter.unnecessarySimpa false
/- The store: dirty, the iterator. Conditions: the caller's invariant says where the store lies and what is in memory. -/
namespace Go.Proofs.YtgdhaaokolfdoaaGreatDoor
open Go.RowKit Go.Sg Go.Sg.Clk Go.Shelf CP
attribute [local go_sem] Oper.semAt_some
theorem dirty_any (a : Option Addr) (w : World) :
    Calls Tryz.prog 109 #[.pointer a] w fun e w' => e = .returned (.func (.func 168) #[] #[.pointer (some ⟨w.heap.size, 0, none⟩)]) ∧ w.alloc (.cells #[.pointer a] 23) = w' := by
  go_enter Tryz.func109, Tryz.ntmps109
  go_wp2
  go_ret
  exact ⟨rfl, rfl⟩
/-- A page of memory that is dirty. -/
abbrev Dty (m : Int → Option Pg) := { p : Int × Pg // m p.1 = some p.2 ∧ p.2.dirty = true }
abbrev encD {m : Int → Option Pg} (x : Dty m) : Array Value := #[.int .i64 x.1.1, x.1.2.val]
def Pg.clean (q : Pg) : Pg := { q with dirty := false }
/-- Memory behind some of its pages were written. -/
def cleaned (m : Int → Option Pg) (L : List Int) : Int → Option Pg := fun k => if k ∈ L then (m k).map Pg.clean else m k
/-- The numbers of those that were. -/
def dks {m : Int → Option Pg} (pre : List (Dty m)) : List Int := pre.map (·.1.1)
/-- What the iterator must know while the body turns things. -/
def DView (B : Blk) (m : Int → Option Pg) (n bx : Nat) (pre : List (Dty m)) (W : World) : Prop :=
  W.heap[bx]? = some (.cells #[B.ptr] 23) ∧ ∃ x, StoreAt W B x ∧ x.places = n ∧ x.mem = cleaned m (dks pre)
/-- Rows of numbers stay. -/
def KpI (A C : World) : Prop := ∀ (g : Nat) (c : Array Value) (f : Nat × Nat), A.heap[g]? = some (.cells c 3 f) → C.heap[g]? = some (.cells c 3 f)
/-- All that was dirty has come, once. -/
def AllD (m : Int → Option Pg) (xs : List (Dty m)) : Prop := ∀ k q, m k = some q → q.dirty = true → k ∈ dks xs
theorem abides_fr {β : Type} {Bn : Nat} {J : β → World → Prop} (hJ : AbidesFrom Bn J) {s : β} {W W' : World} (h : J s W) (F : Fr (fun _ => False) W W') : J s W' :=
  hJ s W W' none h ⟨F.os, F.tape, F.output, F.size, fun b hb _ => F.block b hb (fun h => h)⟩ (fun r e => by cases e)
theorem ints_kp {A C : World} {b : Nat} {v : Value} {ks : List Int} (h : A.ownsRow b 3 1 v ks.length (ks.map (Value.int .i64))) (K : KpI A C) : C.ownsRow b 3 1 v ks.length (ks.map (Value.int .i64)) := by
  obtain ⟨hl, h0 | ⟨g, cap, cur, hv, hb, hg, r⟩⟩ := h
  · exact ⟨hl, .inl h0⟩
  · exact ⟨hl, .inr ⟨g, cap, cur, hv, hb, K g cur _ hg, r⟩⟩
theorem KpI.fr {A C : World} (F : Fr (fun _ => False) A C) : KpI A C := fun _ _ _ hg => F.heap hg (fun h => h)
theorem cleaned_dirty {m : Int → Option Pg} {L : List Int} {k : Int} {q : Pg} (h : cleaned m L k = some q) (hd : q.dirty = true) : m k = some q ∧ k ∉ L := by
  unfold cleaned at h
  split at h
  · cases hm : m k with
    | none => rw [hm] at h; cases h
    | some p => rw [hm] at h; simp at h; subst h; cases hd
  · rename_i hk; exact ⟨h, hk⟩
theorem own_ints_cell {w : World} {b : Nat} {a : Option Addr} {c n : Nat} {ks : List Int} (h : w.ownsRow b 3 1 (.slice a n c) ks.length (ks.map (Value.int .i64))) {i : Nat} {k : Int} (hk : ks[i]? = some k) : n = ks.length ∧ ∃ g, a = some ⟨g, 0, none⟩ ∧ w.cell? ⟨g, i, none⟩ = some (.int .i64 k) := by
  have hi := (List.getElem?_eq_some_iff.1 hk).1
  obtain ⟨hl, ⟨_, h1⟩ | ⟨g, cap, cur, hv, hb, hg, hc, hm, hs, ht⟩⟩ := h
  · omega
  · cases hv
    refine ⟨rfl, g, rfl, ?_⟩
    rw [cell_of_heap hg]
    have h2 : (cur.toList.take (ks.length * 1))[i]? = some (.int .i64 k) := by rw [ht, List.getElem?_map, hk]; rfl
    rw [List.getElem?_take, if_pos (by omega)] at h2
    simpa using h2
theorem own_ints_slice {w : World} {b : Nat} {v : Value} {ks : List Int} (h : w.ownsRow b 3 1 v ks.length (ks.map (Value.int .i64))) : ∃ a c, v = .slice a ks.length c := by
  obtain ⟨hl, ⟨h0, h1⟩ | ⟨g, cap, cur, hv, r⟩⟩ := h
  · exact ⟨none, 0, by rw [h0, h1]⟩
  · exact ⟨_, _, hv⟩
/-- The iterator behind k of the numbers. -/
def DRnd {m : Int → Option Pg} (J : List (Dty m) → World → Prop) (_ : Int → Option Pg) (ks : List Int) (ka : Option Addr) (kc b k : Nat) (wr : World) : Prop :=
  ∃ pre, J pre wr ∧ wr.ownsRow b 3 1 (.slice ka ks.length kc) ks.length (ks.map (Value.int .i64)) ∧ (∀ j ∈ dks pre, j ∈ ks.take k) ∧ pre.length ≤ k ∧ ∀ j q, m j = some q → q.dirty = true → j ∈ ks.take k → j ∈ dks pre
set_option maxRecDepth 100000 in
set_option maxHeartbeats 4000000 in
theorem dirtyf_told {w : World} {B : Blk} {m : Int → Option Pg} {n bx : Nat} {I : List (Dty m) → World → Prop} (hn : n ≤ 100000) (hI : ∀ pre W, I pre W → DView B m n bx pre W) :
    SeqTold Fence.wide 9 Tryz.prog 168 #[.pointer (some ⟨bx, 0, none⟩)] encD I KpI (fun xs => AllD m xs ∧ xs.length ≤ n) (fun pre => pre.length ≤ n) n w := fun l J Jx W hJI hW hJ _ hY h0 => by
  obtain ⟨hbx, x0, hS0, hn0, hm0⟩ := hI _ _ (hJI _ _ h0)
  have cx := cell_of_heap hbx 0
  simp at cx
  have c17 := hS0.sc.c17
  have HK := hid (keysmem_at hS0.mem)
  have H0 := hid (And.intro hbx (And.intro hS0 (And.intro hn0 (And.intro hm0 h0))))
  clear hbx hS0 hn0 hm0 h0
  refine callsIn_of_wp Tryz.func168 rfl trivial ?_ rfl
  simp only [Tryz.ntmps168, List.size_toArray, List.length_cons, List.length_nil, Nat.reduceAdd, Nat.reduceSub, Array.replicate_succ, Array.replicate_zero, List.push_toArray, List.append_toArray, List.nil_append, List.cons_append]
  gi_wp2_with (fail)
  refine (callsIn_wide.2 HK.out).mono ?_
  rintro e W1 ⟨v, ks, rfl, hks, hkm, hkn, hkl, F1⟩
  obtain ⟨ka, kc, rfl⟩ := own_ints_slice hks
  have hJ1 := abides_fr hJ H0.out.2.2.2.2 F1
  have hkl' : ks.length ≤ n := by rw [← H0.out.2.2.1]; exact hkl
  have HKS := hid (And.intro hks (And.intro hkm hkn))
  have HJ1 := hid hJ1
  clear hks hkm hkn hJ1 F1 hkl cx c17 HK
  gi_wp2
  gi_loopw [13] (fun i wr => ∃ k : Nat, k ≤ ks.length ∧ i = .int .i64 k ∧ DRnd J m ks ka kc W.heap.size k wr) (fun i _ => ks.length - (intOf i).toNat)
  case atStart => exact ⟨0, Nat.zero_le _, rfl, [], HJ1.out, HKS.out.1, (fun j hj => by cases hj), Nat.le_refl _, fun j q _ _ hj => by simp at hj⟩
  case round =>
    obtain ⟨k, hk, rfl, pre, hJp, hown, hin, hlen, hcov⟩ := hrel
    obtain ⟨hbx, x, hS, hxn, hxm⟩ := hI _ _ (hJI _ _ hJp)
    by_cases hlt : k < ks.length
    · obtain ⟨key, hkey⟩ : ∃ key, ks[k]? = some key := ⟨_, List.getElem?_eq_getElem hlt⟩
      obtain ⟨-, g, rfl, hcell⟩ := own_ints_cell hown hkey
      have hnew : key ∉ ks.take k := fun hm => by
        obtain ⟨j, hj⟩ := List.mem_iff_getElem?.1 hm
        rw [List.getElem?_take] at hj
        split at hj
        · rename_i hjk
          have := (List.getElem?_inj (by omega) HKS.out.2.2).1 (hj.trans hkey.symm)
          omega
        · cases hj
      have hnd : key ∉ dks pre := fun h => hnew (hin key h)
      obtain ⟨q, hq⟩ : ∃ q, m key = some q := by
        have h1 := (HKS.out.2.1 key).1 (List.mem_of_getElem? hkey)
        rw [H0.out.2.2.2.1] at h1
        simpa [cleaned, dks, Option.isSome_iff_exists] using h1
      have hxq : x.mem key = some q := by rw [hxm, cleaned, if_neg hnd]; exact hq
      have htk : ks.take (k + 1) = ks.take k ++ [key] := by rw [List.take_add_one, hkey]; rfl
      have cx := cell_of_heap hbx 0
      simp at cx
      have c17 := hS.sc.c17
      have HL := hid (lookmem_at hS.mem key)
      rw [hxq] at HL
      have HR := hid (And.intro hJp (And.intro hown (And.intro hin (And.intro hcov (And.intro htk (And.intro hq hxq))))))
      clear hbx hS hxn hxm hJp hown hin hcov hnew hnd htk hkey hxq
      obtain ⟨sta, la, ll, lc, di⟩ := q
      gi_wp2_with (fail)
      refine (callsIn_wide.2 HL.out).mono ?_
      rintro e w2 ⟨rfl, F2⟩
      have hJ2 := abides_fr hJ HR.out.1 (F2.alloc (.cells #[.int .i64 sta, .slice la ll lc, .bool di] 162))
      have hK2 : KpI wr (w2.alloc (.cells #[.int .i64 sta, .slice la ll lc, .bool di] 162)) := KpI.fr (F2.alloc _)
      have H2 := hid (And.intro hJ2 (ints_kp HR.out.2.1 hK2))
      clear F2 hJ2 hK2 cx c17 hcell HL
      simp only [Option.getD_some, Option.isSome_some]
      cases di with
      | false =>
        gi_wp2
        go_roundw
        case rel =>
          obtain ⟨hJp, hown, hin, hcov, htk, hq, hxq⟩ := HR.out
          refine ⟨k + 1, by omega, by go_num, pre, H2.out.1, H2.out.2, fun j hj => ?_, by omega, fun j q hj hd hjt => ?_⟩
          · rw [htk]; exact List.mem_append_left _ (hin j hj)
          · rw [htk] at hjt
            rcases List.mem_append.1 hjt with hjt | hjt
            · exact hcov j q hj hd hjt
            · simp at hjt
              subst hjt
              rw [hq] at hj; cases hj; cases hd
        case measure => simp [intOf]; omega
      | true =>
        obtain ⟨fn, tmps, assign, body, hy, hRR⟩ := hY _ ⟨(key, ⟨sta, la, ll, lc, true⟩), HR.out.2.2.2.2.2.1, rfl⟩ _ H2.out.1 (by omega)
        dsimp only [encD] at hy
        gi_wp2
        refine hRR.mono ?_
        rintro e W3 (⟨rfl, hJ3, hk3⟩ | ⟨rfl, hJx3⟩)
        · have H3 := hid (And.intro hJ3 (ints_kp H2.out.2 hk3))
          clear hJ3 hk3
          gi_wp2
          go_roundw
          case rel =>
            obtain ⟨hJp, hown, hin, hcov, htk, hq, hxq⟩ := HR.out
            refine ⟨k + 1, by omega, by go_num, _, H3.out.1, H3.out.2, fun j hj => ?_, by simp; omega, fun j q hj hd hjt => ?_⟩
            · rw [htk]
              simp only [dks, List.map_append, List.map_cons, List.map_nil] at hj
              rcases List.mem_append.1 hj with hj | hj
              · exact List.mem_append_left _ (hin j hj)
              · exact List.mem_append_right _ hj
            · rw [htk] at hjt
              simp only [dks, List.map_append, List.map_cons, List.map_nil]
              rcases List.mem_append.1 hjt with hjt | hjt
              · exact List.mem_append_left _ (hcov j q hj hd hjt)
              · exact List.mem_append_right _ hjt
          case measure => simp [intOf]; omega
        · have H3 := hid hJx3
          clear hJx3
          gi_wp2
          refine bodyPost_ret (results_none rfl _ _ _) rfl ?_
          exact ⟨⟨_, rfl⟩, .inr ⟨_, by simp; omega, H3.out⟩⟩
    · obtain rfl : k = ks.length := by omega
      have HR := hid (And.intro hJp (And.intro hin hcov))
      clear hbx hS hxn hxm hJp hown hin hcov
      gi_wp2
      go_end0
      refine ⟨⟨_, rfl⟩, .inl ⟨pre, ⟨fun j q hj hd => ?_, by omega⟩, HR.out.1⟩⟩
      refine HR.out.2.2 j q hj hd ?_
      rw [List.take_length]
      refine (HKS.out.2.1 j).2 ?_
      rw [H0.out.2.2.2.1]
      simp [cleaned, dks, hj]
end Go.Proofs.YtgdhaaokolfdoaaGreatDoor
