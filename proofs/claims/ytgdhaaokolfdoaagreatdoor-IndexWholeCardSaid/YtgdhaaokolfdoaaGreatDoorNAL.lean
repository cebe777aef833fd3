/- A pack of texts. Conditions: those that each names. -/
import Derived.Test.YtgdhaaokolfdoaaGreatDoorNAD
set_option maxHeartbeats 16000000
set_option maxRecDepth 100000
set_option linter.all false
namespace Go.Sg
def gX (p:R8):Bool:=decide ((96<=p.size/\p.size<=512)/\(1<=p.C0/\p.C0<=16384)/\(3<=p.regions/\p.regions<=64)/\(1<=p.T2/\p.T2<=32)/\(4<=p.log/\p.log<=256)/\(0<=p.depth/\p.depth<=8)/\(8<=p.memory/\p.memory<=256))
def kO (p:R8)(k:Nat):Prop:=(0<k->96<=p.size/\p.size<=512)/\(1<k->1<=p.C0/\p.C0<=16384)/\(2<k->3<=p.regions/\p.regions<=64)/\(3<k->1<=p.T2/\p.T2<=32)/\(4<k->4<=p.log/\p.log<=256)/\(5<k->0<=p.depth/\p.depth<=8)/\(6<k->8<=p.memory/\p.memory<=256)
end Go.Sg
namespace Go.Proofs.YtgdhaaokolfdoaaGreatDoor
open Go.RowKit Go.Sg Tryz
def En0 (p:R8)(w:w9):(Instr.index 327 (.agg (ng p).toArray) (iI 0)).run prog w = .ok (.agg #[iI p.size,iI 96,iI 512]) w:=by kernel_rfl
def Em0 (p:R8)(w:w9):(Instr.index 327 (.agg (ng p).toArray) (iI 1)).run prog w = .ok (.agg #[iI p.C0,iI 1,iI 16384]) w:=by kernel_rfl
def El0 (p:R8)(w:w9):(Instr.index 327 (.agg (ng p).toArray) (iI 2)).run prog w = .ok (.agg #[iI p.regions,iI 3,iI 64]) w:=by kernel_rfl
def Ek0 (p:R8)(w:w9):(Instr.index 327 (.agg (ng p).toArray) (iI 3)).run prog w = .ok (.agg #[iI p.T2,iI 1,iI 32]) w:=by kernel_rfl
def Ej0 (p:R8)(w:w9):(Instr.index 327 (.agg (ng p).toArray) (iI 4)).run prog w = .ok (.agg #[iI p.log,iI 4,iI 256]) w:=by kernel_rfl
def Ei0 (p:R8)(w:w9):(Instr.index 327 (.agg (ng p).toArray) (iI 5)).run prog w = .ok (.agg #[iI p.depth,iI 0,iI 8]) w:=by kernel_rfl
def Eh0 (p:R8)(w:w9):(Instr.index 327 (.agg (ng p).toArray) (iI 6)).run prog w = .ok (.agg #[iI p.memory,iI 8,iI 256]) w:=by kernel_rfl
def mK0 (p:R8)(w:w9):cP 158 #[p.val] w fun e w'=>e = rT (bO (gX p))/\Fq w w':=by
 have HB:=hid fun W=>ss0 p W;obtain⟨V,hV⟩:=eX ((Value.agg (ng p).toArray))
 have i0:=En0 p;have i1:=Em0 p;have i2:=El0 p;have i3:=Ek0 p;have i4:=Ej0 p;have i5:=Ei0 p;have i6:=Eh0 p;rw[hV] at i0 i1 i2 i3 i4 i5 i6;simp only[hV] at HB;obtain⟨a,b,c,d,f,g,h,s⟩:=p;clear hV;go_enter func158,ntmps158;go_wp2
 go_step3
 go_wp2
 go_step3
 go_wp2_with fail
 refine (HB _).mono ?_;rintro e w1 ⟨rfl,F1⟩;have G1:=hid (((Fr.refl (fun _=>False) w).alloc _).trans F1 nI);clear F1;go_wp2
 go_loopw [3,8] (fun r i wr=>∃ k:Nat,k<=7/\i = iI k/\r = bO true/\kO ⟨a,b,c,d,f,g,h,s⟩ k/\Fq w wr) fun _ i _=>7-(Go.RowKit.intOf i).toNat
 case atStart=>exact⟨0,oM,rfl,rfl,by simp[kO],G1.o⟩
 case round =>
  obtain⟨k,hk,rfl,rfl,hok,hF⟩:=hrel;have qF:=hid hok;have HF:=hid hF;clear hok hF;rcases (show k=0\/k=1\/k=2\/k=3\/k=4\/k=5\/k=6\/k=7 by omega) with rfl|rfl|rfl|rfl|rfl|rfl|rfl|rfl
  .have ho:=qF.o;simp only[kO] at ho;have HO:=hid ho;clear ho;go_wp2
   .rw[Exit.noGoto_ret];go_ret;exact⟨by rw[show gX ⟨a,b,c,d,f,g,h,s⟩=false from decide_eq_false (by simp only;omega)];rfl,HF.alloc _⟩
   .rw[Exit.noGoto_ret];go_ret;exact⟨by rw[show gX ⟨a,b,c,d,f,g,h,s⟩=false from decide_eq_false (by simp only;omega)];rfl,HF.alloc _⟩
   .go_roundw;case rel =>
     have ho:=HO.o;exact⟨1,oM,rfl,rfl,by simp only[kO];omega,HF.alloc _⟩
    case measure=>simp[Go.RowKit.intOf]
  .have ho:=qF.o;simp only[kO] at ho;have HO:=hid ho;clear ho;go_wp2
   .rw[Exit.noGoto_ret];go_ret;exact⟨by rw[show gX ⟨a,b,c,d,f,g,h,s⟩=false from decide_eq_false (by simp only;omega)];rfl,HF.alloc _⟩
   .rw[Exit.noGoto_ret];go_ret;exact⟨by rw[show gX ⟨a,b,c,d,f,g,h,s⟩=false from decide_eq_false (by simp only;omega)];rfl,HF.alloc _⟩
   .go_roundw;case rel =>
     have ho:=HO.o;exact⟨2,oM,rfl,rfl,by simp only[kO];omega,HF.alloc _⟩
    case measure=>simp[Go.RowKit.intOf]
  .have ho:=qF.o;simp only[kO] at ho;have HO:=hid ho;clear ho;go_wp2
   .rw[Exit.noGoto_ret];go_ret;exact⟨by rw[show gX ⟨a,b,c,d,f,g,h,s⟩=false from decide_eq_false (by simp only;omega)];rfl,HF.alloc _⟩
   .rw[Exit.noGoto_ret];go_ret;exact⟨by rw[show gX ⟨a,b,c,d,f,g,h,s⟩=false from decide_eq_false (by simp only;omega)];rfl,HF.alloc _⟩
   .go_roundw;case rel =>
     have ho:=HO.o;exact⟨3,oM,rfl,rfl,by simp only[kO];omega,HF.alloc _⟩
    case measure=>simp[Go.RowKit.intOf]
  .have ho:=qF.o;simp only[kO] at ho;have HO:=hid ho;clear ho;go_wp2
   .rw[Exit.noGoto_ret];go_ret;exact⟨by rw[show gX ⟨a,b,c,d,f,g,h,s⟩=false from decide_eq_false (by simp only;omega)];rfl,HF.alloc _⟩
   .rw[Exit.noGoto_ret];go_ret;exact⟨by rw[show gX ⟨a,b,c,d,f,g,h,s⟩=false from decide_eq_false (by simp only;omega)];rfl,HF.alloc _⟩
   .go_roundw;case rel =>
     have ho:=HO.o;exact⟨4,oM,rfl,rfl,by simp only[kO];omega,HF.alloc _⟩
    case measure=>simp[Go.RowKit.intOf]
  .have ho:=qF.o;simp only[kO] at ho;have HO:=hid ho;clear ho;go_wp2
   .rw[Exit.noGoto_ret];go_ret;exact⟨by rw[show gX ⟨a,b,c,d,f,g,h,s⟩=false from decide_eq_false (by simp only;omega)];rfl,HF.alloc _⟩
   .rw[Exit.noGoto_ret];go_ret;exact⟨by rw[show gX ⟨a,b,c,d,f,g,h,s⟩=false from decide_eq_false (by simp only;omega)];rfl,HF.alloc _⟩
   .go_roundw;case rel =>
     have ho:=HO.o;exact⟨5,oM,rfl,rfl,by simp only[kO];omega,HF.alloc _⟩
    case measure=>simp[Go.RowKit.intOf]
  .have ho:=qF.o;simp only[kO] at ho;have HO:=hid ho;clear ho;go_wp2
   .rw[Exit.noGoto_ret];go_ret;exact⟨by rw[show gX ⟨a,b,c,d,f,g,h,s⟩=false from decide_eq_false (by simp only;omega)];rfl,HF.alloc _⟩
   .rw[Exit.noGoto_ret];go_ret;exact⟨by rw[show gX ⟨a,b,c,d,f,g,h,s⟩=false from decide_eq_false (by simp only;omega)];rfl,HF.alloc _⟩
   .go_roundw;case rel =>
     have ho:=HO.o;exact⟨6,oM,rfl,rfl,by simp only[kO];omega,HF.alloc _⟩
    case measure=>simp[Go.RowKit.intOf]
  .have ho:=qF.o;simp only[kO] at ho;have HO:=hid ho;clear ho;go_wp2
   .rw[Exit.noGoto_ret];go_ret;exact⟨by rw[show gX ⟨a,b,c,d,f,g,h,s⟩=false from decide_eq_false (by simp only;omega)];rfl,HF.alloc _⟩
   .rw[Exit.noGoto_ret];go_ret;exact⟨by rw[show gX ⟨a,b,c,d,f,g,h,s⟩=false from decide_eq_false (by simp only;omega)];rfl,HF.alloc _⟩
   .go_roundw;case rel =>
     have ho:=HO.o;exact⟨7,oM,rfl,rfl,by simp only[kO];omega,HF.alloc _⟩
    case measure=>simp[Go.RowKit.intOf]
  .have ho:=qF.o;simp only[kO] at ho;have HO:=hid ho;clear ho;go_wp2
   rw[Exit.noGoto_ret];go_ret;have ho:=HO.o;exact⟨by rw[show gX ⟨a,b,c,d,f,g,h,s⟩=true from decide_eq_true (by simp only;omega)];rfl,HF.o⟩
