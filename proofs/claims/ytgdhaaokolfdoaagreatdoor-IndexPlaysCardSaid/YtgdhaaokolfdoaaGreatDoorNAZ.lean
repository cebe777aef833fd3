/- A pack of texts. Conditions: those that each names. -/
import Derived.Test.YtgdhaaokolfdoaaGreatDoorNAY
set_option maxHeartbeats 16000000
set_option maxRecDepth 100000
set_option linter.all false
namespace Go.Proofs.YtgdhaaokolfdoaaGreatDoor
section
open Go.RowKit Go.Sg CP SF
def aM0 (x:Bt):Bool:=(decide (0<=x.rg) && decide (x.rg<=1099511627776)) && ((decide (0<=x.at_) && decide (x.at_<=65535)) && (decide (0<=x.sz) && decide (x.sz<=65535)))
theorem qF0 (x:Bt)(w:World):Calls Tryz.prog 245 #[btV x] w (ec0 (.bool (aM0 x)) w):=by
 obtain⟨w1,hw1⟩:=eX (w.alloc (.cells #[.int .u64 x.hash,.int .i64 x.rg,.int .i64 x.at_,.int .i64 x.sz] 118))
 have b1:w1.heap[w.heap.size]?=some (.cells #[.int .u64 x.hash,.int .i64 x.rg,.int .i64 x.at_,.int .i64 x.sz] 118):=by rw[<- hw1];exact han _ _
 have HF:=hid (show Fq w w1 by rw[<- hw1];exact (Fr.refl _ _).alloc _);obtain⟨t0,t1,t2,t3,tz,tl⟩:=ah0 b1;have HW:=hid hw1;clear hw1 b1;obtain⟨b0,hb0⟩:∃ b,(decide (0<=x.rg) && decide (x.rg<=1099511627776))=b:=⟨_,rfl⟩
 obtain⟨c0,hc0⟩:∃ b,(decide (0<=x.at_) && decide (x.at_<=65535))=b:=⟨_,rfl⟩
 obtain⟨d0,hd0⟩:∃ b,(decide (0<=x.sz) && decide (x.sz<=65535))=b:=⟨_,rfl⟩
 have HR:=hid (show aM0 x=(b0 && (c0 && d0)) by unfold aM0;rw[hb0,hc0,hd0]);have H1:=hid (show Calls Tryz.prog 241 #[.int .i64 x.rg,.int .i64 1099511627776] w1 (kV0 b0 w1) by rw[<- hb0];exact dq0 _ _ _);have H2:=hid (show Calls Tryz.prog 241 #[.int .i64 x.at_,.int .i64 65535] w1 (kV0 c0 w1) by rw[<- hc0];exact dq0 _ _ _);have H3:=hid (show Calls Tryz.prog 241 #[.int .i64 x.sz,.int .i64 65535] w1 (kV0 d0 w1) by rw[<- hd0];exact dq0 _ _ _);clear hb0 hc0 hd0;go_enter Tryz.func245,Tryz.ntmps245;go_upto_region 1 with fail
 rw[HW.out];go_wp2_with fail
 refine H1.out.mono ?_;rintro e _ ⟨rfl,rfl⟩;cases b0 with
 | false =>
  go_wp2_with fail
  go_ret;exact⟨by rw[HR.out];rfl,HF.out⟩
 | true =>
  go_wp2_with fail
  refine H2.out.mono ?_;rintro e _ ⟨rfl,rfl⟩;cases c0 with
  | false =>
   go_wp2_with fail
   go_ret;exact⟨by rw[HR.out];rfl,HF.out⟩
  | true =>
   go_wp2_with fail
   refine H3.out.mono ?_;rintro e _ ⟨rfl,rfl⟩;go_wp2_with fail
   go_ret;exact⟨by rw[HR.out];cases d0 <;> rfl,HF.out⟩
variable {md:Region.Mode}{ops:Array Oper}{Q:Exit->Act->World->Prop}{S:World->Prop}{N base bd bx d g h i k r:Nat}{p:Sg.Pl}{a:Bool}{w w':World}{v:Value}{sp:Int}
theorem or0 {P:Program}{a:Act}(o:Oper)(ho:ops[i]?=some o)(hw:Region.wanted o (yielded ops a.tmps)=false)(h:bZ0 P md ops Q S p (a.put o.dst undef) w):bZ0 P md ops Q S (.rd i p) a w:=
 ⟨undef,o,ho,.inr ⟨hw,rfl⟩,h⟩
theorem fU0 {P:Program}{a:Act}(o:Oper)(ho:ops[i]?=some o)(hw:Region.wanted o (yielded ops a.tmps)=false)(hS:S w)(h:bZ0 P md ops Q S p (a.put o.dst undef) w):bZ0 P md ops Q S (.op i p) a w:=by
 show wpOp P ops Q i _ a w;unfold wpOp;simp only[ho,hw];exact⟨hS,h⟩
def dA0 (d p:Nat)(x:Bt):Bool:=!aM0 x || !decide (aY0 x.hash d=p)
theorem tz0 {b3 p:Nat}(hb:w.heap[b3]?=some (.cells #[.int .i64 d,.int .i64 p,v] 129))(hd:d<=20)(x:Bt)(hx:x.hash<18446744073709551616) :
  Calls Tryz.prog 244 #[btV x,.pointer (some ⟨b3,0,none⟩)] w (ec0 (.bool (dA0 d p x)) w):=by
 obtain⟨w1,hw1⟩:=eX (w.alloc (.cells #[.int .u64 x.hash,.int .i64 x.rg,.int .i64 x.at_,.int .i64 x.sz] 118))
 have b1:w1.heap[w.heap.size]?=some (.cells #[.int .u64 x.hash,.int .i64 x.rg,.int .i64 x.at_,.int .i64 x.sz] 118):=by rw[<- hw1];exact han _ _
 have F1:Fq w w1:=by rw[<- hw1];exact (Fr.refl _ _).alloc _
 have HF:=hid F1;have HC:=hid (fun V (F:Fq w1 V)=>show (V.cell? ⟨w.heap.size,0,none⟩=some (.int .u64 x.hash)/\V.cell? ⟨w.heap.size,1,none⟩=some (.int .i64 x.rg)/\V.cell? ⟨w.heap.size,2,none⟩=some (.int .i64 x.at_)/\V.cell? ⟨w.heap.size,3,none⟩=some (.int .i64 x.sz))/\(V.cell? ⟨b3,0,none⟩=some (.int .i64 d)/\V.cell? ⟨b3,1,none⟩=some (.int .i64 p)) by
  obtain⟨t0,t1,t2,t3,tz,tl⟩:=ah0 (F.heap b1 id);obtain⟨c0,c1,c2,cz,cl⟩:=cells3 (F.heap (F1.heap hb id) id);exact⟨⟨t0,t1,t2,t3⟩,c0,c1⟩)
 obtain⟨⟨t0,t1,t2,t3⟩,c0,c1⟩:=HC.out _ (Fr.refl _ _);have HP:=hid (fun V=>ih0 x.hash d hx hd V);obtain⟨q,hq⟩:=eX (aY0 x.hash d)
 obtain⟨rb,hrb⟩:=eX (aM0 x)
 obtain⟨qb,hqb⟩:=eX (decide (q=p))
 have HR:=hid (show dA0 d p x=(!rb || !qb) by unfold dA0;rw[hrb,hq,hqb]);have HRi:=hid (fun V=>show Calls Tryz.prog 245 #[btV x] V (ec0 (.bool rb) V) by rw[<- hrb];exact qF0 x V);rw[hq] at HP;have HW:=hid hw1;have FG:Fq w1 w1.drew:=(Fr.refl _ _).drew;clear hw1 b1 F1 hb hq hrb;go_enter Tryz.func244,Tryz.ntmps244;go_upto_region 1 with fail
 rw[HW.out];cases rb with
 | false =>
  refine wp_region_noPanic ?_;refine aq0 (fun V=>Fq w1 V) (.rd 0 (.op 1 (.rd 2 (.rd 3 (.rd 4 (.rd 5 (.rd 6 (.rd 7 (.rd 9 (.rd 10 (.op 8 (.rd 11 (.rd 12 (.rd 13 .done)))))))))))))) kF kF kF (fun _ _ _ _ _ h=>h) FG ?_;try simp only[Act.put,sI,sZ,sS]
  refine ay0 _ ?_ gF rF ?_ ?_;rotate_left
  ·intro V hV;obtain⟨⟨t0,t1,t2,t3⟩,c0,c1⟩:=HC.out V hV;go_simp;try with_reducible rfl
  try simp only[Act.put,sI,sZ,sS]
  refine az0 _ gF rF (fun K hK=>?_);go_simp;refine (HRi.out _).mono ?_;rintro _ V1 ⟨rfl,G1⟩;have FG:=FG.trans G1 nI;try go_simp
  refine hK _ _ FG ?_;clear hK K;iterate 2
   try simp only[Act.put,sI,sZ,sS]
   refine ay0 _ ?_ gF rF ?_ ?_;rotate_left
   ·intro V hV;obtain⟨⟨t0,t1,t2,t3⟩,c0,c1⟩:=HC.out V hV;go_simp;try with_reducible rfl
  iterate 6
   try simp only[Act.put,sI,sZ,sS]
   refine or0 _ gF rF ?_
  try simp only[Act.put,sI,sZ,sS]
  refine fU0 _ gF rF FG ?_;try simp only[Act.put,sI,sZ,sS]
  refine or0 _ gF rF ?_;iterate 2
   try simp only[Act.put,sI,sZ,sS]
   refine ay0 _ ?_ gF rF ?_ ?_;rotate_left
   ·intro V hV;obtain⟨⟨t0,t1,t2,t3⟩,c0,c1⟩:=HC.out V hV;go_simp;try with_reducible rfl
  try simp only[Act.put,sI,sZ,sS]
  refine ar0 ?_;refine NoPanic.normal ?_;go_wp2_with fail
  go_ret;exact⟨by rw[HR.out];rfl,HF.out.trans FG nI⟩
 | true =>
  refine wp_region_noPanic ?_;refine aq0 (fun V=>Fq w1 V) (.rd 0 (.op 1 (.rd 2 (.rd 3 (.rd 4 (.rd 5 (.rd 6 (.rd 7 (.rd 9 (.rd 10 (.op 8 (.rd 11 (.rd 12 (.rd 13 .done)))))))))))))) kF kF kF (fun _ _ _ _ _ h=>h) FG ?_;try simp only[Act.put,sI,sZ,sS]
  refine ay0 _ ?_ gF rF ?_ ?_;rotate_left
  ·intro V hV;obtain⟨⟨t0,t1,t2,t3⟩,c0,c1⟩:=HC.out V hV;go_simp;try with_reducible rfl
  try simp only[Act.put,sI,sZ,sS]
  refine az0 _ gF rF (fun K hK=>?_);go_simp;refine (HRi.out _).mono ?_;rintro _ V1 ⟨rfl,G1⟩;have FG:=FG.trans G1 nI;try go_simp
  refine hK _ _ FG ?_;clear hK K;iterate 8
   try simp only[Act.put,sI,sZ,sS]
   refine ay0 _ ?_ gF rF ?_ ?_;rotate_left
   ·intro V hV;obtain⟨⟨t0,t1,t2,t3⟩,c0,c1⟩:=HC.out V hV;go_simp;try with_reducible rfl
  try simp only[Act.put,sI,sZ,sS]
  refine az0 _ gF rF (fun K hK=>?_);go_simp;refine (HP.out _).mono ?_;rintro _ _ ⟨rfl,rfl⟩;try go_simp
  refine hK _ _ FG ?_;clear hK K;iterate 3
   try simp only[Act.put,sI,sZ,sS]
   refine ay0 _ ?_ gF rF ?_ ?_;rotate_left
   ·intro V hV;obtain⟨⟨t0,t1,t2,t3⟩,c0,c1⟩:=HC.out V hV;go_simp;try with_reducible rfl
  try simp only[Act.put,sI,sZ,sS]
  refine ar0 ?_;refine NoPanic.normal ?_;go_wp2_with fail
  go_ret;exact⟨by rw[HR.out,<- hqb];simp[bne];rw[Bool.eq_iff_iff,beq_iff_eq,decide_eq_true_iff];omega,HF.out.trans FG nI⟩
def Bv0 (f:Bt->Bool)(es:List Bt)(w:World)(e:Ending)(w':World):Prop:=∃ z:Int,e = .returned (.int .i64 z)/\decide (0<=z)=es.any f/\Fq w w'
variable {es:List Bt}
theorem rl0 (hE:bm0 w 0 v es)(hl:es.length<=255)(cap:Addr)(f:Bt->Bool)(hf:∀ (x:Bt),x ∈ es->∀ (W:World),Fq w W->Calls Tryz.prog 244 #[btV x,.pointer (some cap)] W (ec0 (.bool (f x)) W)) :
  Calls Tryz.prog 274 #[v,.func (.func 244) #[] #[.pointer (some cap)]] w (Bv0 f es w):=by
 obtain⟨va,vc,rfl,-,-,-,-⟩:=oSl hE;obtain⟨n,hn⟩:=eX es.length
 have hn9:n<=255:=oM
 have HE:=hid hE;have HN:=hid hn;have HC:=hid hf;rw[hn];clear hE hn hl hf;go_enter Tryz.func274,Tryz.ntmps274;go_wp2_with fail
 go_loopw [8] (fun iv wr=>∃ k:Nat,k<=n/\iv = .int .i64 k/\(∀ x ∈ es.take k,f x=false)/\Fq w wr) (fun iv _=>n-(intOf iv).toNat)
 case atStart=>exact⟨0,la9 _,rfl,fun x hx=>by simp at hx,Fr.refl _ _⟩
 case round =>
  obtain⟨k,hk,rfl,hno,hF⟩:=hrel;have HNo:=hid hno;clear hno;by_cases hlt:k<n
  ·have hd:decide (k<n)=true:=by simp[hlt]
   have hki:(k:Int)<(n:Int):=oM
   obtain⟨x,hx⟩:∃ x,es[k]?=some x:=⟨_,gE (by rw[HN.out];exact hlt)⟩
   obtain⟨g,rfl,hg,u0,u1,u2,u3⟩:=bG0 (oN HE.out hF) hx;have HCx:=hid (HC.out x (gM hx) wr hF);have HX:=hid hx;have HF:=hid hF;clear hx hF;go_wp2_with fail
   refine HCx.out.mono ?_;rintro e W2 ⟨rfl,F2⟩;have HF2:=hid (HF.out.trans F2 nI);clear F2;cases hfx:f x with
   | true =>
    have HFX:=hid hfx;clear hfx;go_wp2_with fail
    go_ret;refine⟨(k:Int),rfl,?_,HF2.out⟩;rw[show es.any f=true from md9.2 ⟨x,gM HX.out,HFX.out⟩];simp
   | false =>
    have HFX:=hid hfx;clear hfx;go_wp2_with fail
    go_roundw;case rel =>
     refine⟨k+1,hlt,by go_num,fun y hy=>?_,HF2.out⟩;rw[lw9,HX.out] at hy;rcases lb9.1 hy with hy|hy
     ·exact HNo.out y hy
     ·simp at hy;subst hy;exact HFX.out
    case measure=>simp[intOf];omega
  ·obtain rfl:k=n:=by omega
   have hd:decide (k<k)=false:=by simp
   have HF:=hid hF;have hall:es.any f=false:=by
    rw[Bool.eq_false_iff];intro h;obtain⟨x,hx,h1⟩:=md9.1 h;have:=HNo.out x (by rw[tL (by rw[HN.out];exact nR _)];exact hx);rw[h1] at this;cases this
   have HA:=hid hall;clear hF hall;go_wp2_with fail
   go_ret;exact⟨-1,rfl,by rw[HA.out];rfl,HF.out⟩
theorem kG0 (hE:bm0 w 0 v es)(hl:es.length<=255)(cap:Addr)(f:Bt->Bool)(hf:∀ (x:Bt),x ∈ es->∀ (W:World),Fq w W->Calls Tryz.prog 244 #[btV x,.pointer (some cap)] W (ec0 (.bool (f x)) W)) :
  Calls Tryz.prog 243 #[v,.func (.func 244) #[] #[.pointer (some cap)]] w (ec0 (.bool (es.any f)) w):=by
 have HI:=hid (rl0 hE hl cap f hf);clear hE hl hf;go_enter Tryz.func243,Tryz.ntmps243;go_wp2_with fail
 refine HI.out.mono ?_;rintro e w2 ⟨z,rfl,hz,F2⟩;obtain⟨b,hb⟩:=eX (es.any f)
 rw[hb] at hz;have HF2:=hid F2;have HBb:=hid hb;clear F2 hb;go_wp2_with fail
 go_ret;exact⟨by rw[HBb.out];rfl,HF2.out⟩
def jK0 (x:Bt):List Int:=Sg.leB x.hash 8++Sg.leB x.rg.toNat 8++Sg.leB x.at_.toNat 2++Sg.leB x.sz.toNat 2
def aA0 (d p:Nat)(es:List Bt):List Int:=Sg.leB d 1++Sg.leB es.length 1++Sg.leB p 8++es.flatMap jK0
theorem tK0 (x:Bt):(jK0 x).length=20:=by simp[jK0,ap0]
theorem jJ0 (es:List Bt):(es.flatMap jK0).length=20*es.length:=by
 induction es with
 | nil=>rfl
 | cons x es ih=>rw[lj9,lA,tK0,ih,lC];omega
theorem rG0 (d p:Nat)(es:List Bt):(aA0 d p es).length=10+20*es.length:=by
 simp only[aA0,lA,ap0,jJ0]
def Ax0 (d p:Nat)(es:List Bt)(w:World)(e:Ending)(w':World):Prop:=
 ∃ a c,e = .returned (.tuple #[.slice a (10+20*es.length) c,.int .i64 0])/\ByV w' a (10+20*es.length) c (aA0 d p es)/\Fq w w'
def gA0 (x:Bt):Prop:=x.hash<18446744073709551616/\(0<=x.rg/\x.rg<=1099511627776)/\(0<=x.at_/\x.at_<=65535)/\(0<=x.sz/\x.sz<=65535)
theorem sC0 {limit:Nat}{bs:List Int}(h:eZ0 w base r bs limit)(hbase:base<=w.heap.size)(n k:Nat)(hk:k=1\/k=2\/k=4\/k=8)(hn:n<18446744073709551616)(hroom:bs.length+k<=limit) :
  Calls Tryz.prog 179 #[.pointer (some ⟨r,0,none⟩),.int .u64 n,.int .i64 k] w fun e w'=>e = .returned (.tuple #[])/\eZ0 w' base r (bs++Sg.leB n k) limit/\Fr (fun b=>base<=b) w w':=
 (dp0 h hbase n k hk hn hroom).mono fun e w' ⟨a,b,c⟩=>⟨a,b,c.mono fun _ _ h=>h.1⟩
theorem jT0 {c:Array Value}(F:Fr (WtS w base r) w w')(hb:w.heap[g]?=some (.cells c 118))(hne:g≠r):w'.heap[g]?=some (.cells c 118):=
 F.heap hb (fun h=>by
  rcases h.2 with h|⟨c',h⟩
  ·exact hne h
  ·rw[hb] at h;cases h)
theorem kp0 (hE:bm0 w 0 v es)(hl:es.length<=24)(hg:∀ x ∈ es,gA0 x)(d p sl:Nat)(hd:d<=20)(hp:p<1048576)(hsl:es.length<=sl)(hs9:sl<=255)(hR:∀ W,Fq w W->Calls Tryz.prog 190 #[bkV d p v,.int .i64 sl] W (ec0 (.bool true) W)) :
  Calls Tryz.prog 188 #[bkV d p v,.int .i64 sl] w (Ax0 d p es w):=by
 obtain⟨va,vc,rfl,-,-,-,-⟩:=oSl hE;obtain⟨n,hn⟩:=eX es.length
 obtain⟨w1,hw1⟩:=eX (w.alloc (.cells #[.int .i64 d,.int .i64 p,.slice va n vc] 129))
 have b1:w1.heap[w.heap.size]?=some (.cells #[.int .i64 d,.int .i64 p,.slice va n vc] 129):=by rw[<- hw1];exact han _ _
 have F1:Fq w w1:=by rw[<- hw1];exact (Fr.refl _ _).alloc _
 have HB:=hid (fun W (F:Fq w1 W)=>cells3 (F.heap b1 id));have HE:=hid (fun W (F:Fq w1 W)=>oN (oN hE F1) F);have HF1:=hid F1;have HN:=hid hn;have hn24:n<=24:=oM
 have hnsl:n<=sl:=oM
 have HG:=hid hg;have HRt:=hid (hR w1 F1);have HW:=hid hw1;obtain⟨x0,x1,x2,xz,xl⟩:=HB.out _ (Fr.refl _ _);rw[hn] at HRt ⊢;clear hE hl hg hsl hR hn hw1 b1 F1;go_enter Tryz.func188,Tryz.ntmps188;go_upto_region 1 with fail
 rw[HW.out];go_wp2_with fail
 refine HRt.out.mono ?_;rintro e w2 ⟨rfl,F2⟩;have HF2:=hid F2;clear F2 x0 x1 x2 xz xl;have hmul:wrap64 (20*(sl:Int))=((20*sl:Nat):Int):=by simp only[wrap64];omega
 have HNW:=hid (dX0 (10+20*sl) oM w2);have HNW':=hid (show Calls Tryz.prog 178 #[.int .i64 (10+20*(sl:Int))] w2 _ by have:=HNW.out;simpa using this);go_wp2_with fail
 refine HNW'.out.mono ?_;rintro e w3 ⟨rfl,hW3,F3⟩;obtain⟨x0,x1,x2,xz,xl⟩:=HB.out _ (HF2.out.trans F3 nI);have HN1:=hid (sC0 hW3 F3.size d 1 sP oM sO);have HF3:=hid (HF2.out.trans F3 nI);have hs3:w2.heap.size<w3.heap.size:=by obtain⟨⟨u,hr,_⟩,_⟩:=hW3;exact loh hr
 have hs12:=HF2.out.size;clear hW3 F3 HNW HNW';go_wp2_with fail
 refine HN1.out.mono ?_;rintro e w4 ⟨rfl,hW4,F4⟩;have F14:=HF3.out.trans F4 (fun b hb h=>oM);obtain⟨x0,x1,x2,xz,xl⟩:=HB.out _ F14;have HN2:=hid (sC0 hW4 (by have:=F4.size;omega) n 1 sP oM (by simp[ap0];omega));have HF4:=hid F14;clear hW4 F4 F14 HN1;go_wp2_with fail
 refine HN2.out.mono ?_;rintro e w5 ⟨rfl,hW5,F5⟩;have F15:=HF4.out.trans F5 (fun b hb h=>oM);obtain⟨x0,x1,x2,xz,xl⟩:=HB.out _ F15;have HN3:=hid (sC0 hW5 (by have:=F15.size;have:=loh hW5.ex.choose_spec.1;omega) p 8 sP oM (by first|(simp[ap0];done)|(simp[ap0];omega)));have HF5:=hid F15;clear hW5 F5 F15 HN2;go_wp2_with fail
 refine HN3.out.mono ?_;rintro e w6 ⟨rfl,hW6,F6⟩;have F16:=HF5.out.trans F6 (fun b hb h=>oM);obtain⟨x0,x1,x2,xz,xl⟩:=HB.out _ F16;have H6:=hi2 hW6 F16;clear hW6 F6 F16 HN3;go_wp2_with fail
 go_loopw [36] (fun iv wr=>∃ k:Nat,k<=n/\iv = .int .i64 k/\eZ0 wr w2.heap.size w2.heap.size (Sg.leB d 1++Sg.leB n 1++Sg.leB p 8++(es.take k).flatMap jK0) (10+20*sl)/\Fq w1 wr) (fun iv _=>n-(intOf iv).toNat)
 case atStart=>exact⟨0,la9 _,rfl,by simpa using H6.out.1,H6.out.2⟩
 case round =>
  obtain⟨k,hk,rfl,hWr,hF⟩:=hrel;by_cases hlt:k<n
  ·have hdl:decide (k<n)=true:=by simp[hlt]
   have hki:(k:Int)<(n:Int):=oM
   obtain⟨x,hx⟩:∃ x,es[k]?=some x:=⟨_,gE (by rw[HN.out];exact hlt)⟩
   obtain⟨g,rfl,hg,u0,u1,u2,u3⟩:=bG0 (HE.out _ hF) hx;obtain⟨g0,g1,g2,g3⟩:=HG.out x (gM hx);obtain⟨xh,xr,xa,xs⟩:=x;simp only at u0 u1 u2 u3 g0 g1 g2 g3;obtain⟨xr,rfl⟩:=iZ g1.1;obtain⟨xa,rfl⟩:=iZ g2.1;obtain⟨xs,rfl⟩:=iZ g3.1;have hu1:IntKind.u64.wrap (xr:Int)=(xr:Int):=by simp[IntKind.wrap,IntKind.signed,IntKind.bits];omega
   have hu2:IntKind.u64.wrap (xa:Int)=(xa:Int):=by simp[IntKind.wrap,IntKind.signed,IntKind.bits];omega
   have hu3:IntKind.u64.wrap (xs:Int)=(xs:Int):=by simp[IntKind.wrap,IntKind.signed,IntKind.bits];omega
   have hrg:xr<=1099511627776/\xa<=65535/\xs<=65535:=oM
   obtain⟨W,hW⟩:=eX (wr.alloc (.cells #[.int .u64 xh,.int .i64 xr,.int .i64 xa,.int .i64 xs] 118))
   have bW:W.heap[wr.heap.size]?=some (.cells #[.int .u64 xh,.int .i64 xr,.int .i64 xa,.int .i64 xs] 118):=by rw[<- hW];exact han _ _
   have FW:Fq wr W:=by rw[<- hW];exact (Fr.refl _ _).alloc _
   have hrs:w2.heap.size<wr.heap.size:=by obtain⟨⟨u,hr,_⟩,_⟩:=hWr;exact loh hr
   have hne:wr.heap.size≠w2.heap.size:=oM
   obtain⟨pre,hpre⟩:=eX (Sg.leB d 1++Sg.leB n 1++Sg.leB p 8++(es.take k).flatMap jK0)
   have hpl:pre.length=10+20*k:=by
    rw[<- hpre];simp only[lA,ap0,jJ0,lT,HN.out];omega
   rw[hpre] at hWr;have hWW:=hWr.fr FW (fun _ _ _ h=>h);have HX:=hid hx;have HPre:=hi2 hpre hpl;have HFW:=hid (hF.trans FW nI);have HW2:=hid hW;have HBW:=hid bW;have HC1:=hid (dp0 hWW (by have:=FW.size;omega) xh 8 sP g0 oM);clear hx hpre hpl hWr hWW hF FW hW bW g1 g2 g3;go_upto_region 10 with fail
   rw[HW2.out];clear u0 u1 u2 u3;obtain⟨t0,t1,t2,t3,tz,tl⟩:=ah0 HBW.out;go_wp2_with fail
   refine HC1.out.mono ?_;rintro e W3 ⟨rfl,hW3,F3⟩;have bW3:=jT0 F3 HBW.out hne;obtain⟨t0,t1,t2,t3,tz,tl⟩:=ah0 bW3;have HC2:=hid (dp0 hW3 (by have:=F3.size;omega) xr 8 sP oM (by rw[lA,HPre.out.2,ap0];omega));have HF3b:=hid (HFW.out.trans F3 (fun b hb h=>by have:=h.1;omega));have HB3:=hid bW3;clear hW3 F3 bW3 HC1;go_wp2_with fail
   refine HC2.out.mono ?_;rintro e W4 ⟨rfl,hW4,F4⟩;have bW4:=jT0 F4 HB3.out hne;obtain⟨t0,t1,t2,t3,tz,tl⟩:=ah0 bW4;have HC3:=hid (dp0 hW4 (by have:=HF3b.out.size;have:=F4.size;omega) xa 2 sP oM (by rw[lA,lA,HPre.out.2,ap0,ap0];omega));have HF4b:=hid (HF3b.out.trans F4 (fun b hb h=>by have:=h.1;omega));have HB4:=hid bW4;clear hW4 F4 bW4 HC2;go_wp2_with fail
   refine HC3.out.mono ?_;rintro e W5 ⟨rfl,hW5,F5⟩;have bW5:=jT0 F5 HB4.out hne;obtain⟨t0,t1,t2,t3,tz,tl⟩:=ah0 bW5;have HC4:=hid (dp0 hW5 (by have:=HF4b.out.size;have:=F5.size;omega) xs 2 sP oM (by rw[lA,lA,lA,HPre.out.2,ap0,ap0,ap0];omega));have HF5b:=hid (HF4b.out.trans F5 (fun b hb h=>by have:=h.1;omega));clear hW5 F5 bW5 HC3;go_wp2_with fail
   refine HC4.out.mono ?_;rintro e W6 ⟨rfl,hW6,F6⟩;have H6b:=hi2 hW6 (HF5b.out.trans F6 (fun b hb h=>by have:=h.1;omega));clear hW6 F6 HC4;go_wp2_with fail
   go_roundw;case rel =>
    refine⟨k+1,hlt,by go_num,?_,H6b.out.2⟩;have e1:Sg.leB d 1++Sg.leB n 1++Sg.leB p 8++(es.take (k+1)).flatMap jK0=pre++Sg.leB xh 8++Sg.leB xr 8++Sg.leB xa 2++Sg.leB xs 2:=by
     rw[lw9,HX.out,<- HPre.out.1];simp[jK0]
    rw[e1];exact H6b.out.1
   case measure=>simp[intOf];omega
  ·obtain rfl:k=n:=by omega
   have hdl:decide (k<k)=false:=by simp
   rw[tL (by rw[HN.out];exact nR _)] at hWr;have hlen:(Sg.leB d 1++Sg.leB k 1++Sg.leB p 8++es.flatMap jK0).length=10+20*k:=by
    simp only[lA,ap0,jJ0,HN.out]
   have HBy:=hid (ft0 hWr);rw[hlen] at HBy;have HF:=hid hF;clear hWr hF hlen;go_wp2_with fail
   refine HBy.out.mono ?_;rintro e w7 ⟨a7,c7,rfl,⟨hb7,-⟩,F7⟩;have H7:=hi2 hb7 F7;clear hb7 F7;go_wp2_with fail
   go_ret2;refine⟨a7,c7,by rw[HN.out];rfl,?_,(HF1.out.trans HF.out nI).trans H7.out.2 nI⟩;unfold aA0;rw[HN.out];exact H7.out.1
def dn0 (d p:Nat)(es:List Bt):Prop:=es.length<=3/\aa0 es/\∀ x ∈ es,gA0 x/\aY0 x.hash d=p
def okT:Tr->Nat->Nat->Prop
 | .leaf _ es,d,p=>dn0 d p es
 | .node l r,d,p=>okT l (d+1) (2*p)/\okT r (d+1) (2*p+1)
def lds:Tr->Nat->Nat->List Bp
 | .leaf r es,d,p=>[(r,aA0 d p es)]
 | .node l r,d,p=>lds l (d+1) (2*p)++lds r (d+1) (2*p+1)
theorem lm0:∀ (t:Tr) (g k d p:Nat),∃ A C,∀ f,lds (t.put g k f) d p=A++(lds (f (t.at_ g k d p).2.2.1 (t.at_ g k d p).2.2.2) (t.at_ g k d p).1 (t.at_ g k d p).2.1++C)
 | .leaf r es,g,k,d,p=>⟨[],[],fun f=>by simp[Tr.put,Tr.at_]⟩
 | .node l r,g,k,d,p=>by
  by_cases hlt:k<2^(g-1)
  ·obtain⟨A,C,h⟩:=lm0 l (g-1) k (d+1) (2*p);refine⟨A,C++lds r (d+1) (2*p+1),fun f=>?_⟩;simp only[Tr.put,Tr.at_,if_pos hlt,lds];rw[h f];simp
  ·obtain⟨A,C,h⟩:=lm0 r (g-1) (k-2^(g-1)) (d+1) (2*p+1);refine⟨lds l (d+1) (2*p)++A,C,fun f=>?_⟩;simp only[Tr.put,Tr.at_,if_neg hlt,lds];rw[h f];simp
theorem dt0:∀ (t:Tr) (g k:Nat),t.put g k Tr.leaf=t
 | .leaf r es,g,k=>rfl
 | .node l r,g,k=>by
  simp only[Tr.put];split
  ·rw[dt0 l]
  ·rw[dt0 r]
theorem pT0:∀ (t:Tr) (g k d p:Nat),okT t d p->dn0 (t.at_ g k d p).1 (t.at_ g k d p).2.1 (t.at_ g k d p).2.2.2
 | .leaf r es,g,k,d,p,h=>h
 | .node l r,g,k,d,p,h=>by
  simp only[Tr.at_];split
  ·exact pT0 l _ _ _ _ h.1
  ·exact pT0 r _ _ _ _ h.2
theorem lZ0 (f:Rf->List Bt->Tr):∀ (t:Tr) (g k d p:Nat),okT t d p->okT (f (t.at_ g k d p).2.2.1 (t.at_ g k d p).2.2.2) (t.at_ g k d p).1 (t.at_ g k d p).2.1->okT (t.put g k f) d p
 | .leaf r es,g,k,d,p,_,h=>h
 | .node l r,g,k,d,p,h0,h=>by
  simp only[Tr.at_] at h;simp only[Tr.put];split at h
  ·rename_i hlt;rw[if_pos hlt];exact⟨lZ0 f l _ _ _ _ h0.1 h,h0.2⟩
  ·rename_i hlt;rw[if_neg hlt];exact⟨h0.1,lZ0 f r _ _ _ _ h0.2 h⟩
theorem qh0:∀ (t:Tr) (g k d p:Nat),t.high<=g->t.at_ (g+1) (2*k) d p=t.at_ g k d p
 | .leaf r es,g,k,d,p,_=>rfl
 | .node l r,g,k,d,p,h=>by
  simp only[Tr.high] at h;have h2:=Tr.ce0 (g:=g) oM;simp only[Tr.at_,lY9];obtain⟨m,rfl⟩:∃ m,g=m+1:=⟨g-1,oM⟩
  simp only[lY9] at h2 ⊢;by_cases hlt:k<2^m
  ·rw[if_pos hlt,if_pos oM];exact qh0 l m k _ _ oM
  ·rw[if_neg hlt,if_neg oM,show 2*k-2^(m+1)=2*(k-2^m) by omega];exact qh0 r m _ _ _ oM
theorem eS0 (f:Rf->List Bt->Tr)(hf:∀ r es,(f r es).high=0):∀ (t:Tr) (g k:Nat),(t.put g k f).high=t.high
 | .leaf r es,g,k=>by simp[Tr.put,Tr.high,hf]
 | .node l r,g,k=>by
  simp only[Tr.put];split
  ·simp only[Tr.high];rw[eS0 f hf l]
  ·simp only[Tr.high];rw[eS0 f hf r]
theorem eQ0 (f:Rf->List Bt->Tr)(hf:∀ r es,(f r es).high=1):∀ (t:Tr) (g k d p:Nat),(t.put g k f).high=max t.high ((t.at_ g k d p).1-d+1)
 | .leaf r es,g,k,d,p=>by simp[Tr.put,Tr.high,Tr.at_,hf]
 | .node l r,g,k,d,p=>by
  simp only[Tr.put,Tr.at_];split
  ·have h1:=eQ0 f hf l (g-1) k (d+1) (2*p);have h2:=Tr.te0 l (g-1) k (d+1) (2*p);simp only[Tr.high];rw[h1];omega
  ·have h1:=eQ0 f hf r (g-1) (k-2^(g-1)) (d+1) (2*p+1);have h2:=Tr.te0 r (g-1) (k-2^(g-1)) (d+1) (2*p+1);simp only[Tr.high];rw[h1];omega
theorem hQ0:∀ (t:Tr) (d p:Nat),(lds t d p).length=t.refs.length
 | .leaf _ _,_,_=>rfl
 | .node l r,d,p=>by simp only[lds,Tr.refs,lA,hQ0 l,hQ0 r]
theorem ei0:∀ t:Tr,t.refs.length<=2^t.high
 | .leaf _ _=>by simp[Tr.refs,Tr.high]
 | .node l r=>by
  have h1:=ei0 l;have h2:=ei0 r;have h3:2^l.high<=2^max l.high r.high:=lc9 dC (Nat.le_max_left _ _);have h4:2^r.high<=2^max l.high r.high:=lc9 dC (Nat.le_max_right _ _);simp only[Tr.refs,Tr.high,lA,lK9];omega
theorem eG0 (h:Nat):aY0 h 0=0:=by simp[aY0]
theorem ij0 (hg:g<=20)(hd:d<=g)(hh:h<18446744073709551616):aY0 h g/2^(g-d)=aY0 h d:=by
 by_cases h0:d=0
 ·subst h0;rw[eG0];by_cases g0:g=0
  ·subst g0;simp[eG0]
  ·unfold aY0;rw[if_neg oM,lX9,<- mZ9,show 64-g+(g-0)=64 by omega];exact mu9 hh
 ·unfold aY0;rw[if_neg oM,if_neg oM,lX9,<- mZ9,show 64-g+(g-d)=64-d by omega]
theorem ii0 (hg:g<=20)(hh:h<18446744073709551616):aY0 h g<2^g:=by
 by_cases g0:g=0
 ·subst g0;rw[eG0];decide
 ·unfold aY0;rw[if_neg oM];refine Nat.div_lt_of_lt_mul ?_;rw[<- mZ9,show 64-g+g=64 by omega];exact hh
def slN (lo n:Nat):List Nat:=(List.range n).map (lo + ·)
theorem is0 {lo n:Nat}:i ∈ slN lo n↔lo<=i/\i<lo+n:=by
 simp only[slN,ld9,List.mem_range];constructor
 ·rintro⟨j,hj,rfl⟩;omega
 ·rintro⟨h1,h2⟩;exact⟨i-lo,oM,oM⟩
theorem rX0 {α:Type}(l m:List α)(lo n:Nat)(h:lo+n<=l.length)(hm:m.length=n)(i:Nat):(l.take lo++m++l.drop (lo+n))[i]?=if i<lo then l[i]? else if i<lo+n then m[i-lo]? else l[i]?:=by
 have hl:(l.take lo).length=lo:=by rw[lT];omega
 rw[lm9];by_cases h1:i<lo
 ·rw[if_pos h1,lh9 oM,gT,if_pos h1]
 ·rw[if_neg h1,lk9 oM,hl];by_cases h2:i<lo+n
  ·rw[if_pos h2,lh9 oM]
  ·rw[if_neg h2,lk9 oM,hm,lB9];congr 1;omega
theorem uD0 (l:List Rf)(lo n:Nat)(h:lo+n<=l.length)(r:Rf):bQ0 l (slN lo n) r=l.take lo++List.replicate n r++l.drop (lo+n):=by
 refine dI0 fun i=>?_
 rw[bf0,rX0 _ _ _ _ h sP];simp only[is0];by_cases h1:i<lo
 ·rw[if_neg oM,if_pos h1]
 ·rw[if_neg h1];by_cases h2:i<lo+n
  ·rw[if_pos oM,if_pos h2,lF9,if_pos oM,gE oM];rfl
  ·rw[if_neg oM,if_neg h2]
variable {t:Tr}
theorem je0 (hh:t.high<=g)(hk:k<2^g)(r:Rf)(f:Rf->List Bt->Tr)(hf:∀ r' es',∃ es,f r' es' = .leaf r es):bQ0 (t.slots g) (slN (t.lo g k) (2^t.wd g k)) r=(t.put g k f).slots g:=by
 obtain⟨h1,h2,h3⟩:=Tr.lo_le t g k hh hk;rw[uD0 _ _ _ (by rw[Tr.ba0 t g hh];exact h3),Tr.lQ0 f t g k hh hk];obtain⟨es,he⟩:=hf (t.at_ g k 0 0).2.2.1 (t.at_ g k 0 0).2.2.2;rw[he];rfl
theorem pF0 (hh:t.high<=g)(hk:k<2^g)(hw:0<t.wd g k)(r0 r1:Rf)(f:Rf->List Bt->Tr)(hf:∀ r' es',∃ e0 e1,f r' es' = .node (.leaf r0 e0) (.leaf r1 e1)) :
  bQ0 (bQ0 (t.slots g) (slN (t.lo g k+2^(t.wd g k-1)) (2^(t.wd g k-1))) r1) (slN (t.lo g k) (2^(t.wd g k-1))) r0=(t.put g k f).slots g:=by
 obtain⟨h1,h2,h3⟩:=Tr.lo_le t g k hh hk;obtain⟨m,hm⟩:∃ m,t.wd g k=m+1:=⟨t.wd g k-1,oM⟩
 have hl:=Tr.ba0 t g hh;rw[Tr.lQ0 f t g k hh hk];obtain⟨e0,e1,he⟩:=hf (t.at_ g k 0 0).2.2.1 (t.at_ g k 0 0).2.2.2;rw[he];rw[hm] at h3 ⊢;simp only[Tr.slots,lY9];have hp:2^(m+1)=2^m+2^m:=by rw[lK9];omega
 generalize 2^m=q at *
 generalize t.lo g k=lo at *
 generalize t.slots g=l at *
 rw[hp] at h3 ⊢;refine dI0 fun i=>?_
 rw[bf0,bf0,rX0 _ _ _ _ oM sP];simp only[is0];by_cases h1:i<lo
 ·rw[if_neg oM,if_neg oM,if_pos h1]
 ·rw[if_neg h1];by_cases h2:i<lo+(q+q)
  ·rw[if_pos h2];have hil:l[i]?=some (l[i]'oM):=gE _;by_cases h4:i<lo+q
   ·rw[if_pos oM,if_neg oM,lh9 sO,lF9,if_pos oM,hil];rfl
   ·rw[if_neg oM,if_pos oM,lk9 sO,lF9,if_pos sO,hil];rfl
  ·rw[if_neg oM,if_neg oM,if_neg h2]
theorem set_perm {α:Type}{L A C:List α}{q q':α}{j:Nat}(hp:L.Perm (A++(q :: C)))(hj:L[j]?=some q):(L.set j q').Perm (A++(q' :: C)):=by
 have hjl:=(gI.1 hj).1;have e1:L=L.take j++q :: L.drop (j+1):=by
  conv=>lhs;rw[<- my9 j L]
  rw[mc9 hjl,(gI.1 hj).2]
 have e2:L.set j q'=L.take j++q' :: L.drop (j+1):=by rw[List.set_eq_take_append_cons_drop,if_pos hjl]
 have h1:(q :: (L.take j++L.drop (j+1))).Perm (q :: (A++C)):=(nw9.symm.trans (by rw[<- e1];exact hp)).trans nw9;have h2:=(List.perm_cons q).1 h1;rw[e2];exact nw9.trans (((List.perm_cons q').2 h2).trans nw9.symm)
structure fk0 (w:World)(B:Blk)(bx bd:Nat)(y:Cs)(P:aC0)(a:Bool)(N:Nat)(x:aL0)(t:Tr)(sp:Int):Prop where
 ex:∃ au0 L,aD0 w B bx bd y P a N x au0 (t.slots x.depth) L sp/\L.Perm (lds t 0 0)
 high:t.high=x.depth
 ok:okT t 0 0
variable {P:aC0}{B:Blk}{y:Cs}{x:aL0}
theorem fk0.depth (h:fk0 w B bx bd y P a N x t sp):x.depth<=3:=by
 obtain⟨au0,L,h1,-⟩:=h.ex;exact h1.small.2.2
theorem fk0.fr0 (h:fk0 w B bx bd y P a N x t sp)(F:Fq w w'):fk0 w' B bx bd y P a N x t sp:=by
 obtain⟨au0,L,h1,h2⟩:=h.ex;exact⟨⟨au0,L,h1.fr0 F,h2⟩,h.high,h.ok⟩
theorem fk0.mono {N':Nat}(h:fk0 w B bx bd y P a N x t sp)(hN:N<=N')(h9:N'<=90000):fk0 w B bx bd y P a N' x t sp:=by
 obtain⟨au0,L,h1,h2⟩:=h.ex;exact⟨⟨au0,L,h1.mono hN h9,h2⟩,h.high,h.ok⟩
end
section
open Go.RowKit Go.Sg Go.Sg.Bits Go.Shelf CP SF
attribute [local go_sem] Oper.semAt_some
theorem pZ0 (p d g:Int)(w:World) :
  Calls Tryz.prog 266 #[.int .i64 p,.int .i64 d,.int .i64 g] w fun e w'=>e = .returned (.func (.func 284) #[] #[.pointer (some ⟨w.heap.size+1,0,none⟩),.pointer (some ⟨w.heap.size+1+1,0,none⟩),.pointer (some ⟨w.heap.size,0,none⟩)])/\((w.alloc (.cells #[.int .i64 p] 3)).alloc (.cells #[.int .i64 d] 3)).alloc (.cells #[.int .i64 g] 3)=w':=by
 go_enter Tryz.func266,Tryz.ntmps266;go_wp2
 go_ret;exact⟨rfl,rfl⟩
def slZ (p q m:Nat):List Int:=(List.range m).map fun i=>((p*q+i:Nat):Int)
theorem vy0 (p q m:Nat):slZ p q (m+1)=slZ p q m++[((p*q+m:Nat):Int)]:=by simp[slZ,mO9]
theorem kc0 (p q m:Nat):(slZ p q m).length=m:=by simp[slZ]
variable {b d e g n p size:Nat}{w:World}{v:Value}{xs:List Value}
theorem xW0 (p q:Nat){a:Nat}(h:a<=b):slZ p q a <+: slZ p q b:=by
 obtain⟨c,rfl⟩:∃ c,b=a+c:=⟨b-a,oM⟩
 unfold slZ;rw[List.range_add,lt9];exact List.prefix_append _ _
theorem lL0 (h:n<=1048576):wrap64 (n:Int)=(n:Int):=by simp only[wrap64];omega
def KpM (b:Nat)(A C:World):Prop:=C.heap[b]?=A.heap[b]?/\C.heap[b+1]?=A.heap[b+1]?/\C.heap[b+2]?=A.heap[b+2]?
theorem KpM.trans {A C D:World}(h:KpM b A C)(k:KpM b C D):KpM b A D:=⟨k.1.trans h.1,k.2.1.trans h.2.1,k.2.2.trans h.2.2⟩
theorem kt0 (h0:w.heap[b]?=some (.cells #[.int .i64 p] 3))(h1:w.heap[b+1]?=some (.cells #[.int .i64 d] 3))(h2:w.heap[b+2]?=some (.cells #[.int .i64 g] 3))(hd:d<=g)(hg:g<=20)(hp:p<2^d) :
  SeqStopsK Fence.wide 9 Tryz.prog 284 #[.pointer (some ⟨b+1,0,none⟩),.pointer (some ⟨b+1+1,0,none⟩),.pointer (some ⟨b,0,none⟩)] AF0 (KpM b) (fun xs=>xs=slZ p (2^(g-d)) (2^(g-d))) (fun pre=>pre <+: slZ p (2^(g-d)) (2^(g-d))) (2^(g-d)) w:=fun l J Jx W hW hJ _ hY hJ0=>by
 have FW:Fq w W:=Fr.of_below hW;have HB:=hid (fun C (K:KpM b W C)=>show C.cell? ⟨b,0,none⟩=some (.int .i64 p)/\C.cell? ⟨b+1,0,none⟩=some (.int .i64 d)/\C.cell? ⟨b+1+1,0,none⟩=some (.int .i64 g) from
  ⟨by simpa using coh (K.1.trans (FW.heap h0 id)) 0,by simpa using coh (K.2.1.trans (FW.heap h1 id)) 0,by simpa using coh (K.2.2.trans (FW.heap h2 id)) 0⟩)
 obtain⟨c0,c1,c2⟩:=HB.out W ⟨rfl,rfl,rfl⟩;obtain⟨k,hk⟩:=eX (g-d)
 have hk20:k<=20:=oM
 have hd1:decide ((d:Int)<0)=false:=by simp
 have hd2:decide (g<d)=false:=by simp;omega
 have hd2':decide ((g:Int)<(d:Int))=false:=by simp;omega
 have hd3:decide ((20:Int)<(g:Int))=false:=by simp;omega
 have hd3':decide (20<g)=false:=by simp;omega
 have hd4:decide ((p:Int)<0)=false:=by simp
 have hsub:wrap64 ((g:Int)-(d:Int))=(k:Int):=by simp only[wrap64];omega
 obtain⟨q,hq⟩:=eX (2^k)
 have hq9:q<=1048576:=by rw[<- hq];exact nT (lc9 dC hk20) dC
 have hpq:p*q+q<=1048576:=by
  have e1:p*2^k+2^k<=2^d*2^k:=by rw[<- lZ9];exact Nat.mul_le_mul_right _ hp
  rw[<- mZ9,hq] at e1;exact nT e1 (nT (lc9 dC oM) (by decide:(2:Nat)^20<=1048576))
 have hp9:p<1048576:=by
  have:=Nat.le_mul_of_pos_right p (show 0<q by rw[<- hq];exact lW9 dC);have hq0:0<q:=by rw[<- hq];exact lW9 dC
  omega
 have hshl:wrap64 ((2:Int)^(g-d))=(q:Int):=by
  have e:(2:Int)^(g-d)=((2^(g-d):Nat):Int):=by simp
  rw[e,hk,hq];simp only[wrap64];omega
 obtain⟨pq,hpqe⟩:=eX (p*q)
 rw[hpqe] at hpq;have hmul:wrap64 ((p:Int)*(q:Int))=(pq:Int):=by
  rw[<- Int.natCast_mul,hpqe];exact lL0 (nT (Nat.le_add_right _ _) hpq)
 have hshr:(p:Int)/2^d=0:=by
  have:p/2^d=0:=mu9 hp;have e:((p:Int)/2^d)=((p/2^d:Nat):Int):=by simp
  rw[e,this];rfl
 have HK:=hi2 hk (aI hq hpqe);have HJ0:=hid hJ0;rw[hk,hq];rw[hk,hq] at hY;clear hW FW h0 h1 h2 hk hJ0 hq hpqe;refine callsIn_of_wp Tryz.func284 rfl trivial ?_ rfl;simp only[Tryz.ntmps284,zA,lC,lz9,Nat.reduceAdd,Nat.reduceSub,lq9,lr9,ly9,ls9,le9,lo9];gi_wp2
 rw[hshl];clear hshl;gi_loopw [33] (fun iv wr=>∃ i:Nat,i<=q/\iv = .int .i64 i/\J (slZ p q i) wr/\KpM b W wr) (fun iv _=>q-(intOf iv).toNat)
 case atStart=>exact⟨0,la9 _,rfl,HJ0.out,rfl,rfl,rfl⟩
 case round =>
  obtain⟨i,hi,rfl,hJi,hkp⟩:=hrel;obtain⟨c0,c1,c2⟩:=HB.out wr hkp;by_cases hlt:i<q
  ·have hdl:decide (i<q)=true:=by simp[hlt]
   obtain⟨fn,tmps,assign,body,hy,hR⟩:=hY _ ((pq:Int)+(i:Int)) wr hJi (by rw[kc0];exact hlt);dsimp only[AF0] at hy;have HZ:=hid (show slZ p q (i+1)=slZ p q i++[(pq:Int)+(i:Int)] by rw[vy0,HK.out.2.2];simp);have HKp:=hid hkp;clear hkp hJi;gi_wp2
   refine hR.mono ?_;rintro e W3 (⟨rfl,hJ3,hk3⟩|⟨rfl,hJx3⟩)
   ·have HJ3:=hid hJ3;have HK3:=hid (HKp.out.trans hk3);clear hJ3 hk3;gi_wp2
    go_roundw;case rel=>exact⟨i+1,hlt,by go_num,by rw[HZ.out];exact HJ3.out,HK3.out⟩
    case measure=>simp[intOf];omega
   ·have HJX:=hid hJx3;clear hJx3;gi_wp2
    refine bodyPost_ret (results_none rfl _ _ _) rfl ?_;exact⟨⟨_,rfl⟩,.inr ⟨_,by rw[<- HZ.out];exact xW0 p q hlt,HJX.out⟩⟩
  ·obtain rfl:i=q:=by omega
   have hdl:decide (i<i)=false:=by simp
   gi_wp2
   go_end0
   exact⟨⟨_,rfl⟩,.inl ⟨_,rfl,hJi⟩⟩
def yp0 (B n0:Nat)(pre:List Int)(W:World):Prop:=
 ∃ v,Boxed W B 52 v/\W.ownsRow n0 3 1 v pre.length (pre.map (fun x=>Value.int .i64 x))/\True
theorem rJ0 (h:w.ownsRow b e size v n xs)(hv:v.ownBlock=some g):b<=g/\g<w.heap.size:=by
 obtain⟨_,⟨h0,_⟩|⟨g',cap',cur',h1,hb,hg',_⟩⟩:=h
 ·rw[h0] at hv;cases hv
 ·rw[h1] at hv;have e':g'=g:=Option.some.inj hv;subst e';exact⟨hb,loh hg'⟩
theorem rI0 {n0 B:Nat}{u:Value}(h:w.ownsRow n0 3 1 v n xs)(hb:Boxed w B 52 u)(z:Value):(w.setCell ⟨B,0,none⟩ z).ownsRow n0 3 1 v n xs:=
 h.kept (grownBy_setCell' w B z) (.inr (hb.not_row dC h).symm)
theorem io0 {b':Nat}(h:w.ownsRow b e size v n xs)(hb:b'<=b):w.ownsRow b' e size v n xs:=by
 obtain⟨hl,h0|⟨g,cap,cur,hv,hg,r⟩⟩:=h
 ·exact⟨hl,.inl h0⟩
 ·exact⟨hl,.inr ⟨g,cap,cur,hv,nT hb hg,r⟩⟩
def Br0 (l:List Int)(w:World)(e:Ending)(w':World):Prop:=∃ va vc,e = .returned (.slice va l.length vc)/\w'.ownsRow w.heap.size 3 1 (.slice va l.length vc) l.length (l.map (Value.int .i64))/\Fq w w'
theorem lg0 (hd:d<=g)(hg:g<=20)(hp:p<2^d)(w:World) :
  Calls Tryz.prog 213 #[.int .i64 p,.int .i64 d,.int .i64 g] w (Br0 (slZ p (2^(g-d)) (2^(g-d))) w):=by
 obtain⟨i0,hi0,hz0,hz1,hz2⟩:=info_parts Tryz.info3;refine (callsIn_wide (n:=10)).1 ?_;have F:=hid (pZ0 p d g (w.alloc (.cells #[.slice none 0 0] 52)));have hmany:2^(g-d)<=1048576:=nT (lc9 dC (by omega:g-d<=20)) dC;refine callsIn_of_wp_marks Tryz.func213 rfl trivial ?_ rfl;simp only[Tryz.ntmps213,zA,lC,lz9,Nat.reduceAdd,Nat.reduceSub,lq9,lr9,ly9,ls9,le9,lo9];gi_wp2_with (gi_at_call 266;refine (callsIn_wide.2 F.out).mono ?_;rintro e w' ⟨rfl,rfl⟩)
 obtain⟨W0,hW0⟩:=eX ((((w.alloc (.cells #[.slice none 0 0] 52)).alloc (.cells #[.int .i64 p] 3)).alloc (.cells #[.int .i64 d] 3)).alloc (.cells #[.int .i64 g] 3))
 have hF0:Fq w W0:=by rw[<- hW0];exact ((((Fr.refl _ w).alloc _).alloc _).alloc _).alloc _
 have hsz:W0.heap.size=w.heap.size+1+1+1+1:=by rw[<- hW0];simp
 obtain⟨q0,q1,q2,hF1⟩:=aO0 hW0;have hnx:W0.heap[w.heap.size]?=some (.cells #[.slice none 0 0] 52):=hF1.heap (han _ _) id;have e1:(w.alloc (.cells #[.slice none 0 0] 52)).heap.size=w.heap.size+1:=by simp
 rw[e1] at q0 q1 q2;simp only[hW0];have hq1:w.heap.size+1+2=w.heap.size+1+1+1:=oM
 refine wpIn_rangeFunc_ownG (F:=Fence.wide) rfl oM (gf:=284) (lb:=#[.pointer (some ⟨w.heap.size+1+1,0,none⟩),.pointer (some ⟨w.heap.size+1+1+1,0,none⟩),.pointer (some ⟨w.heap.size+1,0,none⟩)]) rfl trivial (enters_of Tryz.func284 kF rfl)
  (kt0 (b:=w.heap.size+1) q0 q1 (by rw[hq1];exact q2) hd hg hp) (fun h k=>h.trans k) (fun W l o o' hl _ _ _=>⟨hpj _ _ _ _ oM,hpj _ _ _ _ oM,hpj _ _ _ _ oM⟩) (Below.refl _ _) (fun _=>rfl)
  (fun pre W=>yp0 w.heap.size W0.heap.size pre W/\Fr (fun b=>b=w.heap.size) W0 W)
  (fun _ _ _=>False)
  (aZ0 ((holdsRow_own W0.heap.size w.heap.size 52 3 1 (fun pre:List Int=>pre.length) (fun pre=>pre.map (fun x=>Value.int .i64 x)) (fun _ _=>True)).from _) (dU0 (nR _)))
  (fun _ _ _ _ _ h=>h.elim)
  ⟨⟨_,hnx,World.ownsRow_nil _ _ _ _,trivial⟩,Fr.refl _ _⟩
  (fun x=>{ tmps:=#[.int .i64 p,.int .i64 d,.int .i64 g,undef,undef,undef,.slice none 0 0,.pointer (some ⟨w.heap.size,0,none⟩),.int .i64 x,.int .i64 p,.int .i64 d,.int .i64 g,.func (.func 284) #[] #[.pointer (some ⟨w.heap.size+1+1,0,none⟩),.pointer (some ⟨w.heap.size+1+1+1,0,none⟩),.pointer (some ⟨w.heap.size+1,0,none⟩)],.int .i64 x,undef,undef,undef,undef,undef],defers:=[] }) ?assign ?body ?done ?stop
 case assign =>
  intro l x W K hK;gi_wp2
  exact hK
 case body =>
  rintro l pre x W ⟨⟨v,hv,hown,-⟩,hF⟩ hlen;have e0:=hv.cell;have e1:=hv.frozen;have l1:=hv.lt;have hWW:=hF.size;have hsW:w.heap.size<=W.heap.size:=nT hF0.size hWW;have HSZ:=hid hsz;have HFF:=hid hF;have HV:=hid hv;have HO:=hid hown;have hlen9:pre.length<=1048576:=nT (np9 hlen) hmany;clear hv hown hnx q0 q1 q2 hF1 hlen hmany hp hsz hF hF0 hq1;gi_wp2_with (gi_at_builtin;refine wpListIn_append_own _ rfl (.tmp 14) (.tmp 16) 52 rfl W0.heap.size 3 i0 _ 1 8 Tryz.underlying52 hi0 hz0 hz1 hz2 rfl dC _ _ _ rfl (HO.out.alloc _) ⟨W.heap.size,0,none⟩ 1 1 [.int .i64 x] rfl rfl (cell_one_new _ _ _) (by simp[Value.oneCell']) ?c3 ?c4 ?c5 ?_)
  case c3=>simp[maxLen];omega
  case c4=>omega
  case c5=>exact nT hWW sP
  intro v1 w2 hown2 hgrow hnil;obtain⟨g',cap,rfl⟩:=ownsRow_succ hown2;obtain⟨d1,d2,-,d4,d5⟩:=HV.out.appended dC (io0 HO.out (by have:=HSZ.out;omega:w.heap.size<=W0.heap.size)) hsW (nR _) (io0 hown2 (by have:=HSZ.out;omega)) hgrow;have d3:=rI0 hown2 d1 (.slice (some ⟨g',0,none⟩) (pre.length+1) cap);have hk:∀ j,w.heap.size<j->j<W0.heap.size->(w2.setCell ⟨w.heap.size,0,none⟩ (.slice (some ⟨g',0,none⟩) (pre.length+1) cap)).heap[j]?=W.heap[j]?:=fun j h1 h2=>by
   rw[ao0 _ _ _ _ (by show w.heap.size≠j;omega),hgrow.block j sO (fun e=>by
    have:=(rJ0 HO.out e.symm).1;omega),am0 _ _ _ oM]
  have HKm:=hid hk;have HF5:=hid (show Fr (fun b=>w.heap.size<=b/\(b=w.heap.size\/W0.heap.size<=b)) W (w2.setCell ⟨w.heap.size,0,none⟩ (.slice (some ⟨g',0,none⟩) (pre.length+1) cap)) from⟨d5.os,d5.tape,d5.output,d5.size,fun b hb hn=>by
   rcases lV9 b w.heap.size with h|h
   ·exact d5.block b h
   ·exact hk b (by
     rcases lV9 w.heap.size b with h2|h2
     ·exact h2
     ·exact absurd ⟨h,.inl oM⟩ hn) (by
     rcases lV9 b W0.heap.size with h2|h2
     ·exact h2
     ·exact absurd ⟨h,.inr h2⟩ hn)⟩)
  have f0:=d1.cell;have f1:=d1.frozen;have D2:=hid d2;have D3:=hid d3;clear hown2 hgrow hnil d1 d2 d3 hk;gi_wp2
  refine⟨d4.from _,⟨HKm.out _ oM (by have:=HSZ.out;omega),HKm.out _ oM (by have:=HSZ.out;omega),HKm.out _ oM (by have:=HSZ.out;omega)⟩,⟨_,D2.out,by simpa using D3.out,trivial⟩,?_⟩;exact HFF.out.trans (S':=fun b=>w.heap.size<=b/\(b=w.heap.size\/W0.heap.size<=b)) HF5.out (fun b hb h=>by rcases h.2 with h|h <;> omega)
 case done =>
  rintro D ys W hD rfl ⟨⟨v,hv,hown,-⟩,hF⟩ hK;obtain⟨va,vc,rfl,-,-,-,-⟩:=oSl hown;have e0:=hv.cell;have HO:=hid hown;clear hown hv hnx q0 q1 q2 hF1;gi_wp2
  have hI:=io0 (ownsRow_putObj HO.out (.deferred none) hK rfl) (by omega:w.heap.size<=W0.heap.size);refine bH0 (t:=6) rfl hK ⟨va,vc,rfl,hI,(hF0.trans hF (fun b hb h=>oM)).putObj (fun hh=>oM) _⟩
 case stop=>exact fun _ _ _ _ _ _ h=>h.elim
end
section
open Go.RowKit Go.Sg Go.Sg.Bits Go.Sg.Clk CP SF
variable {B:Blk}{w:World}{N bd bx d p:Nat}{a:Bool}{sp:Int}
theorem cW0 {X:Nat->Prop}{w':World}(F:FrX B X w w'){b:Nat}{c:Array Value}{t:TypeId}{f:Nat × Nat}(hb:w.heap[b]?=some (.cells c t f))(ht:t ∉ em0)(hX:¬ X b):w'.heap[b]?=some (.cells c t f):=
 Fr.heap F hb fun hs=>by
  rcases hs with hs|hs
  ·exact ht (hs.2.1 c t f hb)
  ·exact hX hs
variable {r:Rf}
theorem lS0 {l:List Rf}{S:List Nat}(h:∀ i ∈ S,l[i]?=some r):bQ0 l S r=l:=by
 refine dI0 fun i=>?_
 rw[bf0];split
 ·rename_i hi;rw[h i hi];rfl
 ·rfl
theorem zi0 {g:Nat}(hd:d<=g)(hp:p<2^d):p*2^(g-d)+2^(g-d)<=2^g:=by
 have h1:2^g=2^d*2^(g-d):=by rw[<- mZ9];congr 1;omega
 rw[h1,<- lZ9];exact Nat.mul_le_mul_right _ hp
theorem xX0 (p q m:Nat):(slZ p q m).map Int.toNat=slN (p*q) m:=by
 simp only[slZ,slN,mP9];refine mX9 fun i _=>?_
 simp only[Function.comp_apply,lG9]
variable {y:Cs}{x:aL0}{slots au0:List Rf}{L:List Bp}
theorem aD0.gR0 {P:aC0}(h:aD0 w B bx bd y P a N x au0 slots L sp):bd<w.heap.size/\bx<w.heap.size/\bx≠bd:=by
 refine⟨loh h.dir,loh h.idx,fun e=>?_⟩;have h1:=h.dir;have h2:=h.idx;unfold aj0 at h1;unfold cn0 at h2;rw[e,h1] at h2;cases h2
theorem fo0 {P:aQ0}(h:aD0 w B bx bd y P a N x au0 slots L sp)(vo:Option Addr)(vn vc0:Nat)(hd:d<=x.depth)(hp:p<2^d)(hr:aF0 r)(hN:N+19<=90000) :
  Calls Tryz.prog 197 #[cG0 bx,bkV d p (.slice vo vn vc0),fT0 r.1 r.2] w (zY0 B bx bd y P a (N+19) x.depth (bQ0 slots (slN (p*2^(x.depth-d)) (2^(x.depth-d))) r) L sp w):=by
 obtain⟨w1,hw1⟩:=eX ((w.alloc (.cells #[.int .i64 d,.int .i64 p,.slice vo vn vc0] 129)).alloc (.cells #[.int .i64 r.1,.int .i64 r.2] 35))
 obtain⟨b4,b5,F1⟩:=ai0 hw1;obtain⟨hbd,hbx,hne⟩:=h.gR0;have hs:=h.small;have hB:=hid (fun (V:World) (F:FrX B (fun b=>b=bd) w1 V)=>aI (cells3 (cW0 F b4 dC oM)) (aI (cells2 (cW0 F b5 dC oM)) (cells5 (cW0 F (F1.heap h.idx id) dC hne))));have HB:=hB;obtain⟨g,hg⟩:=eX x.depth
 have HDp:=hid (fun V (F:Fq w1 V)=>eX0 (F.heap (F1.heap h.dir id) id:aj0 V bd B.s x));rw[hg] at hd hs HDp ⊢;have HSl:=hid (fun V=>lg0 (p:=p) (d:=d) (g:=g) hd oM hp V);have hsl:=zi0 hd hp;have hsx:x.slots=2^g:=by unfold aL0.slots;rw[hg]
 obtain⟨q,hq⟩:=eX (2^(g-d))
 rw[hq] at HSl hsl ⊢;have hq8:q<=8:=by have:=hs.2.1;omega
 have HSet:=hid (fun V (F:Fq w1 V) (a4:Option Addr) (c4:Nat) (ho:V.ownsRow w1.heap.size 3 1 (.slice a4 (slZ p q q).length c4) (slZ p q q).length ((slZ p q q).map (Value.int .i64)))=>by
  have:=(h.fr0 (F1.trans F nI)).set (sa:=a4) (n:=(slZ p q q).length) (c:=c4) (l:=slZ p q q) (r:=r) (jf0 ho rfl) (fun W' G=>jf0 (fX0 ho dC G) rfl) (by rw[kc0];exact hq8) (by
   rw[mt9];intro z hz;obtain⟨i,hi,rfl⟩:=ld9.1 hz;have:=List.mem_range.1 hi;simp[iM0];omega) hr hN
  rw[xX0,hg] at this;exact this)
 have HLn:=hid (kc0 p q q);have HF1:=hid F1;have FG:Fq w1 w1.drew:=(Fr.refl _ _).drew;have HW:=hid hw1;have hdi:(d:Int)=d:=rfl;clear hw1 b4 b5 F1 h hB hr hsl hsx hg hq;go_enter Tryz.func197,Tryz.ntmps197;go_upto_region 1 with fail
 rw[HW.out];refine wp_region_noPanic ?_;refine aq0 (fun V=>FrX B (fun b=>b=bd) w1 V) (.rd 0 (.rd 1 (.rd 2 (.rd 3 (.rd 4 (.rd 5 (.rd 6 (.rd 7 (.rd 8 (.rd 9 (.rd 10 (.rd 11 (.rd 14 (.op 12 (.op 13 (.op 15 (.rd 16 .done))))))))))))))))) kF kF kF (fun _ _ _ _ _ h=>h) (FrX.none FG) ?_;iterate 13
  try simp only[Act.put,sI,sZ,sS]
  refine ay0 _ ?_ gF rF ?_ ?_;rotate_left
  ·intro V hV;obtain⟨⟨x0,x1,x2,xz,xl⟩,⟨t0,t1,tz,tl⟩,⟨i0,i1,i2,i3,i4,iz,il⟩⟩:=HB.out V hV;go_simp;try with_reducible rfl
 try simp only[Act.put,sI,sZ,sS]
 refine az0 _ gF rF (fun K hK=>?_);go_simp;refine (HDp.out _ FG).mono ?_;rintro _ _ ⟨rfl,rfl⟩;try go_simp
 refine hK _ _ (FrX.none FG) ?_;clear hK K;try simp only[Act.put,sI,sZ,sS]
 refine az0 _ gF rF (fun K hK=>?_);go_simp;refine (HSl.out _).mono ?_;rintro _ V2 ⟨va,vc,rfl,hown,F2⟩;have FG2:=FG.trans F2 nI;have HSe:=hid (HSet.out V2 FG2 va vc hown);have HF2:=hid FG2;rw[HLn.out];try go_simp
 refine hK _ _ (FrX.none FG2) ?_;clear hK K hown F2 FG2;try simp only[Act.put,sI,sZ,sS]
 refine az0 _ gF rF (fun K hK=>?_);go_simp;rw[HLn.out] at HSe;refine HSe.out.mono ?_;rintro _ V3 ⟨err,rfl,F3,hr⟩;have FG3:FrX B (fun b=>b=bd) w1 V3:=FrX.trans (FrX.none HF2.out) F3;have H3:=hi2 FG3 hr;try go_simp
 refine hK _ _ FG3 ?_;clear hK K F3 hr FG3;try simp only[Act.put,sI,sZ,sS]
 refine ay0 _ ?_ gF rF ?_ ?_;rotate_left
 ·intro V hV;go_simp;try with_reducible rfl
 try simp only[Act.put,sI,sZ,sS]
 refine ar0 ?_;refine NoPanic.normal ?_;go_wp2_with fail
 go_ret;refine⟨err,rfl,FrX.trans (FrX.none HF1.out) H3.out.1,H3.out.2⟩
