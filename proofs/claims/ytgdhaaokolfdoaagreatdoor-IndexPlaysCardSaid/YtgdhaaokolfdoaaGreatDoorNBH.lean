/- A pack of texts. Conditions: those that each names. -/
import Derived.Test.YtgdhaaokolfdoaaGreatDoorNAZ
set_option maxHeartbeats 16000000
set_option maxRecDepth 100000
set_option linter.all false
namespace Go.Proofs.YtgdhaaokolfdoaaGreatDoor
open Go.RowKit Go.Sg CP SF
theorem uU0 (h:Nat)(w:World):Calls Tryz.prog 189 #[.int .u64 h,.int .i64 0] w (fun e w'=>e = .returned (.int .i64 0)/\w=w'):=by
 go_enter Tryz.func189,Tryz.ntmps189;go_wp2_with fail
 exact bodyPost_ret (v:=.int .i64 0) sR rfl ⟨rfl,rfl⟩
theorem pO0 {w:World}{g:Nat}{x:Bt}(hg:w.heap[g]?=some (.cells #[.int .u64 x.hash,.int .i64 x.rg,.int .i64 x.at_,.int .i64 x.sz] 110)) :
  Calls Tryz.prog 128 #[bkV 0 0 (.slice (some ⟨g,0,none⟩) 1 1),.int .i64 1] w (ec0 (.bool (aM0 x)) w):=by
 obtain⟨w1,hw1⟩:=eX (w.alloc (.cells #[.int .i64 0,.int .i64 0,.slice (some ⟨g,0,none⟩) 1 1] 220))
 have b1:w1.heap[w.heap.size]?=some (.cells #[.int .i64 0,.int .i64 0,.slice (some ⟨g,0,none⟩) 1 1] 220):=by rw[<- hw1];exact han _ _
 have F1:Fq w w1:=by rw[<- hw1];exact (Fr.refl _ _).alloc _
 obtain⟨c0,c1,c2,cz,cl⟩:=cells3 b1;obtain⟨e0,e1,e2,e3,ez,el⟩:=ah0 (F1.heap hg id);have HF1:=hid F1;have HB1:=hid b1;have HW:=hid hw1;clear hg hw1 b1 F1;go_enter Tryz.func128,Tryz.ntmps128;go_upto_region 1 with fail
 rw[HW.out];go_wp2_with fail
 go_loopg [5,6] 1 (fun n v5 v6 wr=>n=1/\v5 = .int .i64 1/\v6 = .int .i64 0/\wr=w1)
 case atStart=>exact⟨rfl,rfl,rfl,rfl⟩
 case round =>
  obtain⟨rfl,rfl,rfl,rfl⟩:=hrel;go_wp2_with fail
  go_loopg [7] 2 (fun n v7 W=>(n=2/\v7 = .int .i64 0/\W=wr)\/(n=1/\v7 = .int .i64 1/\aM0 x=true/\Fq wr W))
  case atStart=>exact .inl ⟨rfl,rfl,rfl⟩
  case round =>
   rcases hrel with⟨rfl,rfl,rfl⟩|⟨rfl,rfl,hre,hF2⟩
   rotate_left
   ·have HB:=hi2 hre hF2;obtain⟨c0,c1,c2,cz,cl⟩:=cells3 (hF2.heap HB1.out id);clear hF2;go_wp2_with fail
    exact bodyPost_ret (v:=.bool true) sR rfl ⟨by rw[HB.out.1],HF1.out.trans HB.out.2 nI⟩
   go_upto_region 14 with fail
   obtain⟨W2,hW2⟩:=eX (wr.alloc (.cells #[.int .u64 x.hash,.int .i64 x.rg,.int .i64 x.at_,.int .i64 x.sz] 110))
   rw[hW2];have bW:W2.heap[wr.heap.size]?=some (.cells #[.int .u64 x.hash,.int .i64 x.rg,.int .i64 x.at_,.int .i64 x.sz] 110):=by rw[<- hW2];exact han _ _
   have FW:Fq wr W2:=by rw[<- hW2];exact (Fr.refl _ _).alloc _
   obtain⟨a0,a1,a2,a3,az,al⟩:=ah0 bW;obtain⟨c0,c1,c2,cz,cl⟩:=cells3 (FW.heap HB1.out id);have HFW:=hid FW;have HFF:=hid (HF1.out.trans FW nI);clear hW2 bW FW e0 e1 e2 e3 ez el;cases d0:decide (x.rg<0) with
   | true =>
    have HR:=hid (show aM0 x=false by simp only[decide_eq_true_eq] at d0;simp[aM0];omega);go_wp2_with fail
    go_quiet (fail)
    go_wp2_with fail
    exact bodyPost_ret (v:=.bool false) sR rfl ⟨by rw[HR.out],HFF.out.trans ((Fr.refl _ _).drewN _) nI⟩
   | false =>
    cases d1:decide (1099511627776<x.rg) with
    | true =>
     have HR:=hid (show aM0 x=false by simp only[decide_eq_true_eq] at d1;simp[aM0];omega);go_wp2_with fail
     go_quiet (fail)
     go_wp2_with fail
     exact bodyPost_ret (v:=.bool false) sR rfl ⟨by rw[HR.out],HFF.out.trans ((Fr.refl _ _).drewN _) nI⟩
    | false =>
     cases d2:decide (x.at_<0) with
     | true =>
      have HR:=hid (show aM0 x=false by simp only[decide_eq_true_eq] at d2;simp[aM0];omega);go_wp2_with fail
      go_quiet (fail)
      go_wp2_with fail
      exact bodyPost_ret (v:=.bool false) sR rfl ⟨by rw[HR.out],HFF.out.trans ((Fr.refl _ _).drewN _) nI⟩
     | false =>
      cases d3:decide (65535<x.at_) with
      | true =>
       have HR:=hid (show aM0 x=false by simp only[decide_eq_true_eq] at d3;simp[aM0];omega);go_wp2_with fail
       go_quiet (fail)
       go_wp2_with fail
       exact bodyPost_ret (v:=.bool false) sR rfl ⟨by rw[HR.out],HFF.out.trans ((Fr.refl _ _).drewN _) nI⟩
      | false =>
       cases d4:decide (x.sz<0) with
       | true =>
        have HR:=hid (show aM0 x=false by simp only[decide_eq_true_eq] at d4;simp[aM0];omega);go_wp2_with fail
        go_quiet (fail)
        go_wp2_with fail
        exact bodyPost_ret (v:=.bool false) sR rfl ⟨by rw[HR.out],HFF.out.trans ((Fr.refl _ _).drewN _) nI⟩
       | false =>
        cases d5:decide (65535<x.sz) with
        | true =>
         have HR:=hid (show aM0 x=false by simp only[decide_eq_true_eq] at d5;simp[aM0];omega);go_wp2_with fail
         go_quiet (fail)
         go_wp2_with fail
         exact bodyPost_ret (v:=.bool false) sR rfl ⟨by rw[HR.out],HFF.out.trans ((Fr.refl _ _).drewN _) nI⟩
        | false =>
         have HR:=hid (show aM0 x=true by simp only[decide_eq_false_iff_not] at d0 d1 d2 d3 d4 d5;simp[aM0];omega);go_wp2_with fail
         go_quiet ((go_at_call 189;exact co0 (uU0 _ _)))
         go_wp2_with fail
         go_roundg 1
         case measure=>omega
         case rel=>exact .inr ⟨rfl,by simp,HR.out,HFW.out.trans ((Fr.refl _ _).drewN _) nI⟩
theorem sj0 (x:Bt)(w:World):Calls Tryz.prog 63 #[btV x] w (ec0 (.bool (aM0 x)) w):=
 pN0 x (aM0 x) w fun W g hg _ _=>pO0 hg
