/- The plain model of a sector's bytes and of a device's write. Conditions: none. -/
import Derived.Test.YtgdhaaokolfdoaaGreatDoorSt
namespace Go.Sg
open Go.RowKit
/-- A number's bytes, the lowest first. -/
def leB (n : Nat) : Nat → List Int
  | 0 => []
  | k + 1 => ((n % 256 : Nat) : Int) :: leB (n / 256) k
theorem leB_length (k : Nat) : ∀ n, (leB n k).length = k := by
  induction k with
  | zero => intro n; rfl
  | succ k ih => intro n; simp [leB, ih]
/-- The number of bytes. -/
def leV : List Int → Nat
  | [] => 0
  | x :: l => x.toNat + 256 * leV l
theorem leV_leB (k : Nat) : ∀ n, n < 256 ^ k → leV (leB n k) = n := by
  induction k with
  | zero => intro n h; simp at h; subst h; rfl
  | succ k ih =>
    intro n h
    have h2 : n / 256 < 256 ^ k := by rw [Nat.pow_succ] at h; omega
    simp only [leB, leV, ih _ h2, Int.toNat_natCast]
    omega
def crcStep (n : Nat) : Nat := (n / 2) ^^^ (if n % 2 = 1 then 2197175160 else 0)
def crcTab (i : Nat) : Nat := crcStep (crcStep (crcStep (crcStep (crcStep (crcStep (crcStep (crcStep i)))))))
def crcNext (n : Nat) (x : Int) : Nat := (n / 256) ^^^ crcTab ((n % 256) ^^^ x.toNat)
def crcM (bs : List Int) : Nat := bs.foldl crcNext 4294967295 ^^^ 4294967295
/-- A leaf's sector but for its check. -/
def bodyM (size kind place stamp : Nat) (load : List Int) : List Int :=
  leB kind 1 ++ leB load.length 2 ++ leB place 4 ++ leB stamp 8 ++ load ++ List.replicate (size - 19 - load.length) 0
/-- A leaf's sector. -/
def buildM (size kind place stamp : Nat) (load : List Int) : List Int := bodyM size kind place stamp load ++ leB (crcM (bodyM size kind place stamp load)) 4
theorem bodyM_length {size kind place stamp : Nat} {load : List Int} (h : load.length + 19 ≤ size) : (bodyM size kind place stamp load).length = size - 4 := by
  simp [bodyM, leB_length]; omega
theorem buildM_length {size kind place stamp : Nat} {load : List Int} (h : load.length + 19 ≤ size) : (buildM size kind place stamp load).length = size := by
  rw [buildM, List.length_append, bodyM_length h, leB_length]; omega
/-- A write or a sync is counted. -/
def Dev.act (D : Dev) : Dev := { D with acts := D.acts + 1, armed := D.armed - 1, down := if D.armed = 0 then D.down else decide (D.armed = 1) }
/-- A write. -/
def Dev.write (D : Dev) (at_ : Int) (bs : List Int) : Dev × Int :=
  if D.down then (D, 4) else if at_ < 0 ∨ (D.sectors : Int) ≤ at_ then (D, 2) else if bs.length ≠ D.size then (D, 3)
  else ({ D.act with loose := D.loose ++ [(at_, bs)] }, if D.act.down then 4 else 0)
end Go.Sg
namespace Go.Proofs.YtgdhaaokolfdoaaGreatDoor
open Go.RowKit Go.Sg Go.Sg.Bits Go.Sg.Clk CP
/-- What a page that goes does to the device. -/
def OutR (w : World) (x : Sto) (g : Option (Int × Pg)) (D : Dev) (err : Int) : Prop :=
  match g with
  | none => D = x.dev ∧ err = 0
  | some (k, q) => if q.dirty = true then ∃ bs, ByV w q.la q.ll q.lc bs ∧ (D, err) = x.dev.write (x.first + k) (buildM x.dev.size 2 k.toNat q.stamp.toNat bs) else D = x.dev ∧ err = 0
/-- What keep does. -/
def KeepOut (B : Blk) (x : Sto) (n : Int) (p : Pg) (w : World) (e : Ending) (w' : World) : Prop :=
  ∃ err g D, e = .returned (.int .i64 err) ∧ GoneOk x.mem x.places n g ∧ OutR w' x g D err ∧ StoreAt w' B { x with mem := putF x.mem n p g, dev := D } ∧ FrB B.base w w'
end Go.Proofs.YtgdhaaokolfdoaaGreatDoor
