/- A pack of texts. Conditions: those that each names. -/
import Derived.Test.YtgdhaaokolfdoaaGreatDoorNAY
set_option maxHeartbeats 16000000
set_option maxRecDepth 100000
set_option linter.all false
namespace Go.Proofs.YtgdhaaokolfdoaaGreatDoor
open Go.RowKit Go.Sg CP SF Tryz
def wR0 (h:Nat)(w:w9):cP 189 #[iU h,iI 0] w (fun e w'=>e = rT (iI 0)/\w=w'):=by
 go_enter func189,ntmps189;go_wp2_with fail
 exact bodyPost_ret (v:=iI 0) sR rfl ⟨rfl,rfl⟩
def rp0 {w:w9}{g:Nat}{x:Bt}(hg:w.heap[g]?=some (.cells #[iU x.hash,iI x.rg,iI x.at_,iI x.sz] 110)) :
  cP 128 #[E9 0 0 (sL g 1 1),iI 1] w (bt (bO (ab x)) w):=by
 obtain⟨w1,I0⟩:=eX (w.alloc (.cells #[iI 0,iI 0,sL g 1 1] 220))
 have b1:=fB I0
 have F1:=fA I0
 obtain⟨c0,c1,c2,cz,cl⟩:=cells3 b1;obtain⟨e0,e1,e2,e3,ez,el⟩:=D8 (F1.heap hg id);have E1:=hid F1;have I3:=hid b1;have HW:=hid I0;clear hg I0 b1 F1;go_enter func128,ntmps128;go_upto_region 1 with fail
 rw[HW];go_wp2_with fail
 go_loopg [5,6] 1 fun n v5 v6 wr=>n=1/\v5 = iI 1/\v6 = iI 0/\wr=w1
 case atStart=>exact⟨rfl,rfl,rfl,rfl⟩
 case round =>
  obtain⟨rfl,rfl,rfl,rfl⟩:=hrel;go_wp2_with fail
  go_loopg [7] 2 fun n v7 W=>(n=2/\v7 = iI 0/\W=wr)\/(n=1/\v7 = iI 1/\ab x=true/\Fq wr W)
  case atStart=>exact .inl ⟨rfl,rfl,rfl⟩
  case round =>
   rcases hrel with⟨rfl,rfl,rfl⟩|⟨rfl,rfl,hre,hF2⟩
   rotate_left
   .have HB:=hi2 hre hF2;obtain⟨c0,c1,c2,cz,cl⟩:=cells3 (hF2.heap I3.o id);clear hF2;go_wp2_with fail
    exact bodyPost_ret (v:=bO true) sR rfl ⟨by rw[HB.1],E1.trans HB.2 nI⟩
   go_upto_region 14 with fail
   obtain⟨W2,eV⟩:=eX (wr.alloc (.cells #[iU x.hash,iI x.rg,iI x.at_,iI x.sz] 110))
   rw[eV];have bW:=fB eV
   have FW:=fA eV
   obtain⟨a0,a1,a2,a3,az,al⟩:=D8 bW;obtain⟨c0,c1,c2,cz,cl⟩:=cells3 (FW.heap I3.o id);have fU:=hid FW;have yG:=hid (E1.trans FW nI);clear eV bW FW e0 e1 e2 e3 ez el;cases d0:decide (x.rg<0) with
   | true =>
    have HR:=hid (show ab x=false by simp only[decide_eq_true_eq] at d0;simp[ab];omega);go_wp2_with fail
    go_quiet (fail)
    go_wp2_with fail
    exact bodyPost_ret (v:=bO false) sR rfl ⟨by rw[HR],yG.trans (fR.drewN _) nI⟩
   | false =>
    cases d1:decide (1099511627776<x.rg) with
    | true =>
     have HR:=hid (show ab x=false by simp only[decide_eq_true_eq] at d1;simp[ab];omega);go_wp2_with fail
     go_quiet (fail)
     go_wp2_with fail
     exact bodyPost_ret (v:=bO false) sR rfl ⟨by rw[HR],yG.trans (fR.drewN _) nI⟩
    | false =>
     cases d2:decide (x.at_<0) with
     | true =>
      have HR:=hid (show ab x=false by simp only[decide_eq_true_eq] at d2;simp[ab];omega);go_wp2_with fail
      go_quiet (fail)
      go_wp2_with fail
      exact bodyPost_ret (v:=bO false) sR rfl ⟨by rw[HR],yG.trans (fR.drewN _) nI⟩
     | false =>
      cases d3:decide (65535<x.at_) with
      | true =>
       have HR:=hid (show ab x=false by simp only[decide_eq_true_eq] at d3;simp[ab];omega);go_wp2_with fail
       go_quiet (fail)
       go_wp2_with fail
       exact bodyPost_ret (v:=bO false) sR rfl ⟨by rw[HR],yG.trans (fR.drewN _) nI⟩
      | false =>
       cases d4:decide (x.sz<0) with
       | true =>
        have HR:=hid (show ab x=false by simp only[decide_eq_true_eq] at d4;simp[ab];omega);go_wp2_with fail
        go_quiet (fail)
        go_wp2_with fail
        exact bodyPost_ret (v:=bO false) sR rfl ⟨by rw[HR],yG.trans (fR.drewN _) nI⟩
       | false =>
        cases d5:decide (65535<x.sz) with
        | true =>
         have HR:=hid (show ab x=false by simp only[decide_eq_true_eq] at d5;simp[ab];omega);go_wp2_with fail
         go_quiet (fail)
         go_wp2_with fail
         exact bodyPost_ret (v:=bO false) sR rfl ⟨by rw[HR],yG.trans (fR.drewN _) nI⟩
        | false =>
         have HR:=hid (show ab x=true by simp only[decide_eq_false_iff_not] at d0 d1 d2 d3 d4 d5;simp[ab];omega);go_wp2_with fail
         go_quiet ((go_at_call 189;exact EJ (wR0 _ _)))
         go_wp2_with fail
         go_roundg 1
         case measure=>omega
         case rel=>exact .inr ⟨rfl,by simp,HR.o,fU.trans (fR.drewN _) nI⟩
def un0 (x:Bt)(w:w9):cP 63 #[E8 x] w (bt (bO (ab x)) w):=
 ro0 x (ab x) w fun W g hg _ _=>rp0 hg
