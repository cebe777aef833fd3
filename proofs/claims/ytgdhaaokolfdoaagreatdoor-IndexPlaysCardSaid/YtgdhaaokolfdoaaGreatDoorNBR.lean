/- A pack of texts. Conditions: those that each names. -/
import Derived.Test.YtgdhaaokolfdoaaGreatDoorNBP
import Derived.Test.YtgdhaaokolfdoaaGreatDoorNBQ
set_option maxHeartbeats 16000000
set_option maxRecDepth 100000
set_option linter.all false
namespace Go.Proofs.YtgdhaaokolfdoaaGreatDoor
open Go.RowKit Go.Sg Go.Sg.Bits Go.Sg.Clk CP SF
variable {N k l:Nat}{a:Bool}{c:Array Value}
theorem cZ0.frL {w w':World}{B:Blk}{y:Cs}{P:aC0}(h:cZ0 l w B y P a N){t:TypeId}(F:Fr (fun b=>b=k) w w')(hk:w.heap[k]?=some (.cells c t))(ht:t ∉ 5 :: em0)(h0:0<k):cZ0 l w' B y P a N:=by
 obtain⟨⟨x,c,hS,hy,hi,h1,h2⟩,hT,hb⟩:=h;exact⟨⟨x,c,hS.frL F hk ht,hy,{ hi with holds:=hi.holds.frL F hk (fun e=>ht (by simp[e])) },h1,h2⟩,hT.fr F (fun e=>oM),hb⟩
theorem KpL.setB {w0 V V':World}{base bs bv bx G:Nat}{P:aQ0}{t:Tr}{sp rp rs:Int}(h:KpL l w0 base bs bv bx P a N G t sp rp rs V){ty:TypeId}(F:Fr (fun b=>b=k) V V')(hk:V.heap[k]?=some (.cells c ty))(ht:ty ∉ 5 :: 227 :: 209 :: em0)(hb:base<=k)(h0:0<k):KpL l w0 base bs bv bx P a N G t sp rp rs V':=by
 obtain⟨B,bd,y,x,t',⟨⟨au0,L,hM,hP⟩,h1,h2⟩,h3,h4,h5,h6,h7,h8,h9⟩:=h;exact⟨B,bd,y,x,t',⟨⟨au0,L,hM.an0 F hk ht h0,hP⟩,h1,h2⟩,h3,h4,h5.trans F (fun b hb' e=>oM),h6,h7,h8.frL F hk (fun e=>ht (by simp only[lA9] at e ⊢;rcases e with e|e <;> simp[e])) h0,h9⟩
def PlI (w:World)(bv br bw bo i:Nat)(bs bx:Nat)(dv gv:Int)(V:World):Prop:=
 ∃ (P:aQ0) (N G:Nat) (t:Tr) (sp:Int) (v v2:Value) (d1 d2 d3 s2 rp rs:Int),KqP w w.heap.size bs bv bx P false N G t sp V/\(N<=10+600*i/\G<=i+1/\0<=sp/\sp<=3*i) /\
  (V.heap[br]?=some (.cells #[.int .i64 t.high,.int .i64 3,.int .i64 3,v,.int .i64 sp] 137)/\OwnB V 0 v (rows t 0 0))/\V.heap[bw]?=some (.cells #[.int .i64 d1,.int .i64 d2,.int .i64 d3,v2,.int .i64 s2] 137)/\V.heap[bo]?=some (.cells #[.int .i64 rp,.int .i64 rs] 35) /\
  (dv = -1\/∃ (tw:Tr) (gw:Nat),(dv=tw.high/\gv=gw/\gw<=i)/\(d1=tw.high/\d2=3/\d3=3/\OwnB V 0 v2 (rows tw 0 0))/\yz0 P rp rs tw)
theorem jE0 {a:Option Addr}{n c:Nat}{l:List tu0}(hn:l.length=n)(w:World)(hT:Tab w)(hA:qr0 w a l) :
  Calls Tryz.prog 17 #[.slice a n c] w fun e w'=>e = .returned (.bool true)/\Fq w w':=by
 have HM:=hid (li0 w hT);have h0:0<w.heap.size:=hT.lt;have HT:=hid hT;have HA:=hid hA;have HN:=hid hn;clear hT hA hn;go_enter Tryz.func17,Tryz.ntmps17;by_cases h100:(100:Int)<(n:Int)
 ·go_wp2_with fail
  exact bodyPost_ret (v:=.bool true) sR rfl ⟨rfl,Fr.refl _ _⟩
 have hn100:n<=100:=oM
 have HN1:=hid hn100;go_wp2_with fail
 refine HM.out.mono ?_;rintro e w1 ⟨B,bx,bd,y,x0,r,rfl,F1,⟨hb1,hb2,hb3⟩,hI,hx0,hgn,-,hf12⟩;obtain⟨bs,hbs⟩:=eX B.s
 obtain⟨bv,hbv⟩:=eX B.d
 have HK0:=hid (show KqP w w.heap.size bs bv bx noP false 3 1 (.leaf (0,0) []) 0 w1 from⟨B,bd,y,x0,.leaf r [],hI,rfl,⟨hb1,hbs,hbv⟩,F1,⟨rfl,hb2,hb3⟩,hgn,hf12⟩);have HF1:=hid F1;rw[show B.ptr = .pointer (some ⟨bs,0,none⟩) by rw[<- hbs],hbv];clear F1 hb1 hb2 hb3 hI hx0 HM hbs hbv hgn hf12;go_wp2_with fail
 refine (xi0 _ 3 3).mono ?_;rintro e w2 ⟨v0,rfl,hO,F2⟩;obtain⟨va,vc,rfl⟩:=hO.slice;simp only[mn9] at hO ⊢;obtain⟨br,hbr⟩:=eX w2.heap.size
 obtain⟨w3,hw3⟩:=eX (((w2.alloc (.cells #[.int .i64 0,.int .i64 3,.int .i64 3,.slice va 1 vc,.int .i64 0] 137)).alloc (.cells #[.int .i64 0,.int .i64 0,.int .i64 0,.slice none 0 0,.int .i64 0] 137)).alloc (.cells #[.int .i64 0,.int .i64 0] 35))
 obtain⟨q0,q1,q2,F3⟩:=aO0 hw3;rw[hbr] at q0 q1 q2;have HI0:=hid (show PlI w bv br (br+1) (br+1+1) 0 bs bx (-1) 0 w3 from⟨noP,3,1,_,0,_,_,0,0,0,0,0,0,(HK0.out.fr0 F2).fr0 F3,⟨oM,oM,oM,oM⟩,⟨q0,hO.fr F3⟩,q1,q2,.inl rfl⟩);have hbrw:w.heap.size<=br:=by rw[<- hbr];exact (HF1.out.trans F2 nI).size
 have HW3:=hid hw3;have HBr:=hid hbr;clear hw3 hbr hO F2 F3 q0 q1 q2;go_upto_region 9 with fail
 rw[HW3.out];try simp only[HBr.out]
 go_wp2_with fail
 go_loopw [4,5,8,9,11] (fun sv xv dv gv iv wr=>∃ (i bs bx:Nat) (d g:Int),i<=n/\iv = .int .i64 i/\sv = .pointer (some ⟨bs,0,none⟩)/\xv=cG0 bx/\dv = .int .i64 d/\gv = .int .i64 g/\PlI w bv br (br+1) (br+1+1) i bs bx d g wr) (fun _ _ _ _ iv _=>n-(intOf iv).toNat)
 case atStart=>exact⟨0,bs,bx,-1,0,la9 _,rfl,rfl,rfl,rfl,rfl,HI0.out⟩
 case round =>
  clear HI0 HK0;obtain⟨i,bs,bx,dv,gv,hin,rfl,rfl,rfl,rfl,rfl,hPl⟩:=hrel;obtain⟨P,N,G,t,sp,v,v2,d1,d2,d3,s2,rp,rs,hK,hnum,⟨hbr,hOw⟩,hbw,hbo,hcm⟩:=hPl;by_cases hlt:i<n
  ·have hli:(i:Int)<(n:Int):=by omega
   obtain⟨x,hx⟩:∃ x,l[i]?=some x:=⟨_,gE (by rw[HN.out];exact hlt)⟩
   obtain⟨b,off,hab,hbw',-,-,hok⟩:=HA.out.at_ i x hx;subst hab;have HCell:=hid (fun (V:World) (F:Fq w V)=>show V.cell? ⟨b,off+i*6,none⟩=some (.int .i64 x.kind)/\V.cell? ⟨b,off+i*6+1,none⟩=some (.int .i64 x.oldest)/\V.cell? ⟨b,off+i*6+2,none⟩=some (.int .u64 x.e.hash)/\V.cell? ⟨b,off+i*6+3,none⟩=some (.int .i64 x.e.rg)/\V.cell? ⟨b,off+i*6+4,none⟩=some (.int .i64 x.e.at_)/\V.cell? ⟨b,off+i*6+5,none⟩=some (.int .i64 x.e.sz) by
    obtain⟨b',off',e,-,⟨h0,h1⟩,⟨h2,h3,h4,h5⟩,-⟩:=(HA.out.fr F).at_ i x hx;cases e;exact⟨h0,h1,h2,h3,h4,h5⟩)
   have HX:=hid hok;obtain⟨g,hg⟩:=eX t.high
   have hwr:=hK.fr;have hszr:w.heap.size<=wr.heap.size:=hwr.size;have HDi:=hid (fun V (F:Fq wr V)=>tO0 (hK.fr0 F) (hOw.fr F) (nT hszr F.size) (nLL h0 (nT hszr F.size)) x hok (by have:=HN1.out;omega) ⟨hnum.2.2.1,by have:=HN1.out;omega⟩);obtain⟨a0,c0,rfl⟩:=hOw.slice;obtain⟨n0,hn0⟩:=eX ((rows t 0 0).length)
   rw[hn0,hg] at HDi;rw[hn0,hg] at hbr;have HC:=hid (fun (V:World) (F:FrI w.heap.size wr V)=>aI (cells5 (FrI.heap F hbr dC)) (HCell.out V (F.fr0 (nR _) hwr)));have HS:=hi2 hnum (aI hbr (aI hbw (aI hbo (aI hcm hwr))));clear hx hok hbw' hK hnum hOw hbr hbw hbo hcm hwr hn0 hg;obtain⟨VD,hVD⟩:=eX wr.drew
   have FD:Fq wr VD:=by rw[<- hVD];exact (Fr.refl _ _).drew
   go_upto_region 12 with fail
   refine wp_region_noPanic ?_;refine aq0 (fun V=>FrI w.heap.size wr V) (.rd 0 (.rd 1 (.rd 2 (.rd 3 (.rd 4 (.rd 5 (.two 6 11 (.rd 7 (.rd 8 (.rd 9 (.rd 10 (.op 11 (.op 12 (.rd 13 (.rd 14 .done)))))))) (.op 6 (.rd 7 (.rd 8 (.rd 9 (.rd 10 (.op 12 (.rd 13 (.rd 14 .done))))))))))))))) kF kF kF (fun _ _ _ _ _ h=>h) (by rw[hVD];exact FrI.none FD) ?_;rw[hVD];clear hVD;iterate 6
    try simp only[Act.put,sI,sZ,sS]
    refine ay0 _ ?_ gF rF ?_ ?_;rotate_left
    ·intro V hV;obtain⟨⟨x0,x1,x2,x3,x4,xz,xl⟩,e0,e1,e2,e3,e4,e5⟩:=HC.out V hV;go_simp;try with_reducible rfl
   refine bn0 ?_ ?_;focus
    try simp only[Act.put,sI,sZ,sS]
    refine az0 _ gF rF (fun K hK=>?_);go_simp
    (with_reducible refine (HDi.out _ FD).mono ?_)
    rintro _ V2 ⟨v',g',sp',err,rfl,FI,⟨rfl,hsp',t',hK',hO',ht'⟩|⟨_,hff,_⟩⟩;rotate_left
    ·cases hff
    have FI2:=FrI.trans (FrI.none FD) FI;obtain⟨a1,c1,rfl⟩:=hO'.slice;obtain⟨n1,hn1⟩:=eX ((rows t' 0 0).length)
    rw[hn1] at hO' ⊢;refine hK _ _ FI2 ?_;clear hK K;iterate 4
     try simp only[Act.put,sI,sZ,sS]
     refine ay0 _ ?_ gF rF ?_ ?_;rotate_left
     ·intro V hV;go_simp;try with_reducible rfl
    try simp only[Act.put,sI,sZ,sS]
    refine az0 _ gF rF (fun K hK=>?_);go_simp;obtain⟨V3,hV3⟩:=eX (V2.alloc (.cells #[.int .i64 0,.int .i64 0,.int .i64 0,.slice none 0 0,.int .i64 0] 137))
    obtain⟨bn,hbn⟩:=eX V2.heap.size
    have k3:V3.heap[bn]?=some (.cells #[.int .i64 0,.int .i64 0,.int .i64 0,.slice none 0 0,.int .i64 0] 137):=(by rw[<- hV3,<- hbn];exact han _ _);have F3:Fq V2 V3:=(by rw[<- hV3];exact (Fr.refl _ _).alloc _);have hbw:wr.heap.size<=bn:=(by rw[<- hbn];exact FI2.size);have hK3:=hK'.fr0 F3;have hO3:=hO'.fr F3;have FI3:=FrI.trans FI2 (FrI.none F3);rw[hV3];try simp only[hbn]
    refine hK _ _ FI3 ?_;clear hK K hV3 hbn F3 FI FI2 hK' hO';try simp only[Act.put,sI,sZ,sS]
    refine az0 _ gF rF (fun K hK=>?_);obtain⟨y0,y1,y2,y3,y4,yz,yl⟩:=cells5 k3;go_simp;obtain⟨V4,hV4⟩:=eX (((((V3.setCell ⟨bn,0,none⟩ (.int .i64 g')).setCell ⟨bn,1,none⟩ (.int .i64 3)).setCell ⟨bn,2,none⟩ (.int .i64 3)).setCell ⟨bn,3,none⟩ (.slice a1 n1 c1)).setCell ⟨bn,4,none⟩ (.int .i64 sp'))
    rw[hV4];have k4:V4.heap[bn]?=some (.cells #[.int .i64 g',.int .i64 3,.int .i64 3,.slice a1 n1 c1,.int .i64 sp'] 137):=(by rw[<- hV4];exact cg0 k3 _ _ _ _ _);have F4:Fr (fun b=>b=bn) V3 V4:=(by rw[<- hV4];with_reducible (repeat (first|exact Fr.refl _ _|refine Fr.setCell ?_ (fun _=>by simp) _)));have H4:=hi2 (Fr.trans FI3 F4 (fun b hb e=>oM):FrI w.heap.size wr V4) (aI (hK3.setB F4 k3 dC oM oM) (aI (hO3.setB F4 k3 dC) (aI k4 (aI ht' (aI hsp' (aI hbw hn1))))));refine hK _ _ H4.out.1 ?_;clear hK K hV4 y0 y1 y2 y3 y4 yz yl k3 k4 F4 FI3 hK3 hO3 ht' hsp' hn1 hbw;iterate 2
     try simp only[Act.put,sI,sZ,sS]
     refine ay0 _ ?_ gF rF ?_ ?_;rotate_left
     ·intro V hV;go_simp;try with_reducible rfl
    refine ar0 ?_;refine NoPanic.normal ?_;try simp only[Act.put,sI,sZ,sS]
   rotate_left;focus
    try simp only[Act.put,sI,sZ,sS]
    refine az0 _ gF rF (fun K hK=>?_);go_simp;obtain⟨V1,hV1⟩:=eX (VD.alloc (.cells #[.int .i64 0,.int .i64 0,.int .i64 0,.slice none 0 0,.int .i64 0] 137))
    obtain⟨bn,hbn⟩:=eX VD.heap.size
    have k1:V1.heap[bn]?=some (.cells #[.int .i64 0,.int .i64 0,.int .i64 0,.slice none 0 0,.int .i64 0] 137):=(by rw[<- hV1,<- hbn];exact han _ _);have F1:Fq wr V1:=(by rw[<- hV1];exact FD.alloc _);have hbw:wr.heap.size<=bn:=(by rw[<- hbn];exact FD.size);rw[hV1];try simp only[hbn]
    refine hK _ _ (FrI.none F1) ?_;clear hK K hV1 hbn;try simp only[Act.put,sI,sZ,sS]
    refine az0 _ gF rF (fun K hK=>?_);go_simp
    (with_reducible refine (HDi.out _ F1).mono ?_)
    rintro _ V3 ⟨v',g',sp',err,rfl,FI,⟨rfl,hsp',t',hK3,hO3,ht'⟩|⟨_,hff,_⟩⟩;rotate_left
    ·cases hff
    have FI3:=FrI.trans (FrI.none F1) FI;have k3:=FrI.heap FI k1 dC;obtain⟨a1,c1,rfl⟩:=hO3.slice;obtain⟨n1,hn1⟩:=eX ((rows t' 0 0).length)
    rw[hn1] at hO3 ⊢;refine hK _ _ FI3 ?_;clear hK K FI k1;iterate 4
     try simp only[Act.put,sI,sZ,sS]
     refine ay0 _ ?_ gF rF ?_ ?_;rotate_left
     ·intro V hV;go_simp;try with_reducible rfl
    try simp only[Act.put,sI,sZ,sS]
    refine az0 _ gF rF (fun K hK=>?_);obtain⟨y0,y1,y2,y3,y4,yz,yl⟩:=cells5 k3;go_simp;obtain⟨V4,hV4⟩:=eX (((((V3.setCell ⟨bn,0,none⟩ (.int .i64 g')).setCell ⟨bn,1,none⟩ (.int .i64 3)).setCell ⟨bn,2,none⟩ (.int .i64 3)).setCell ⟨bn,3,none⟩ (.slice a1 n1 c1)).setCell ⟨bn,4,none⟩ (.int .i64 sp'))
    rw[hV4];have k4:V4.heap[bn]?=some (.cells #[.int .i64 g',.int .i64 3,.int .i64 3,.slice a1 n1 c1,.int .i64 sp'] 137):=(by rw[<- hV4];exact cg0 k3 _ _ _ _ _);have F4:Fr (fun b=>b=bn) V3 V4:=(by rw[<- hV4];with_reducible (repeat (first|exact Fr.refl _ _|refine Fr.setCell ?_ (fun _=>by simp) _)));have H4:=hi2 (Fr.trans FI3 F4 (fun b hb e=>oM):FrI w.heap.size wr V4) (aI (hK3.setB F4 k3 dC oM oM) (aI (hO3.setB F4 k3 dC) (aI k4 (aI ht' (aI hsp' (aI hbw hn1))))));refine hK _ _ H4.out.1 ?_;clear hK K hV4 y0 y1 y2 y3 y4 yz yl k3 k4 F4 FI3 hK3 hO3 ht' hsp' hn1 hbw;iterate 2
     try simp only[Act.put,sI,sZ,sS]
     refine ay0 _ ?_ gF rF ?_ ?_;rotate_left
     ·intro V hV;go_simp;try with_reducible rfl
    refine ar0 ?_;refine NoPanic.normal ?_;try simp only[Act.put,sI,sZ,sS]
   all_goals
    have hbrq:=(HC.out _ H4.out.1).1;obtain⟨x0,x1,x2,x3,x4,xz,xl⟩:=hbrq;obtain⟨z0,z1,z2,z3,z4,zz,zl⟩:=cells5 H4.out.2.2.2.1;obtain⟨V5,hV5⟩:=eX (((((V4.setCell ⟨br,0,none⟩ (.int .i64 g')).setCell ⟨br,1,none⟩ (.int .i64 3)).setCell ⟨br,2,none⟩ (.int .i64 3)).setCell ⟨br,3,none⟩ (.slice a1 n1 c1)).setCell ⟨br,4,none⟩ (.int .i64 sp'))
    have F5:Fr (fun b=>b=br) V4 V5:=(by rw[<- hV5];with_reducible (repeat (first|exact Fr.refl _ _|refine Fr.setCell ?_ (fun _=>by simp) _)));have hbr4:V4.heap[br]?=some (.cells #[.int .i64 g,.int .i64 3,.int .i64 3,.slice a0 n0 c0,.int .i64 sp] 137):=FrI.heap H4.out.1 HS.out.2.1 dC;have hbr5:V5.heap[br]?=some (.cells #[.int .i64 t'.high,.int .i64 3,.int .i64 3,.slice a1 n1 c1,.int .i64 sp'] 137):=(by rw[H4.out.2.2.2.2.1,<- hV5];exact cg0 hbr4 _ _ _ _ _);have hbw5:=F5.heap (FrI.heap H4.out.1 HS.out.2.2.1 dC) oM;have hbo5:=F5.heap (FrI.heap H4.out.1 HS.out.2.2.2.1 dC) oM;have hK5:=H4.out.2.1.setB F5 hbr4 dC hbrw oM;have hO5:=H4.out.2.2.1.setB F5 hbr4 dC;have hcm5:dv = -1\/∃ (tw:Tr) (gw:Nat),(dv=tw.high/\gv=gw/\gw<=i)/\(d1=tw.high/\d2=3/\d3=3/\OwnB V5 0 v2 (rows tw 0 0))/\yz0 P rp rs tw:=by
     rcases HS.out.2.2.2.2.1 with h|⟨tw,gw,h1,⟨h2,h3,h4,h5⟩,h6⟩
     ·exact .inl h
     ·exact .inr ⟨tw,gw,h1,⟨h2,h3,h4,(h5.frI H4.out.1).setB F5 hbr4 dC⟩,h6⟩
    have HV5:=hid hV5;have H5:=hi2 hK5 (aI hbr5 (aI hO5 (aI hbw5 (aI hbo5 (aI hcm5 hK5.fr)))));have HNu:=hi2 HS.out.1 (aI H4.out.2.2.2.2.2.1 H4.out.2.2.2.2.1);clear hV5 F5 hbr4 hbr5 hbw5 hbo5 hK5 hO5 hcm5;go_upto_region 16 with fail
    rw[HV5.out];clear x0 x1 x2 x3 x4 xz xl z0 z1 z2 z3 z4 zz zl;obtain⟨e0,-,-,-,-,-⟩:=HCell.out _ H5.out.2.2.2.2.2.2;obtain⟨w0k,hw0k⟩:=eX ((wrap64 (x.kind.tmod 8+8)).tmod 8)
    by_cases h6:w0k=6
    ·have hd6:(w0k == 6)=true:=(by simp[h6]);clear h6;have HFl:=hid (uv0 H5.out.1 (by have:=HN1.out;have:=HNu.out.1;omega));go_wp2_with fail
     refine HFl.out.mono ?_;rintro _ V6 ⟨err,rfl,FI6,⟨rfl,rp',rs',hL6⟩|⟨_,hff,_⟩⟩;rotate_left
     ·cases hff
     have HSy:=hid (wB0 hL6 (by have:=HN1.out;have:=HNu.out.1;omega));have HF6:=hid FI6;clear hL6 HFl e0 FI6;go_wp2_with fail
     refine HSy.out.mono ?_;rintro _ V7 ⟨err,rfl,FI7,⟨rfl,hL7⟩|⟨_,hff,_⟩⟩;rotate_left
     ·cases hff
     have FI57:=FrI.trans HF6.out FI7;have HL7:=hid hL7;have HCm:=hid (fun V (F:KpL 2 w w.heap.size bs bv bx P false (N+480+8+1) G t' sp' rp' rs' V)=>rh0 F (by have:=HN1.out;have:=HNu.out.1;omega));have HBr7:=FrI.heap FI57 H5.out.2.1 dC;have HBw7:=FrI.heap FI57 H5.out.2.2.2.1 dC;have HBo7:=FrI.heap FI57 H5.out.2.2.2.2.1 dC;have HO7:=hid (H5.out.2.2.1.frI FI57);have HC7:=hid (fun (V:World) (F:Fr (fun b=>b=br+1\/b=br+1+1) V7 V)=>cells5 (F.heap HBr7 oM));have HH7:=hi2 HBr7 (aI HBw7 HBo7);clear hL7 HSy FI7 FI57 HBr7 HBw7 HBo7;obtain⟨VD,hVD⟩:=eX V7.drew
     have FD:Fq V7 VD:=(by rw[<- hVD];exact (Fr.refl _ _).drew);go_upto_region 20 with fail
     refine wp_region_noPanic ?_;refine aq0 (fun V=>Fr (fun b=>b=br+1\/b=br+1+1) V7 V) (.rd 0 (.rd 1 (.rd 3 (.rd 5 (.op 2 (.op 4 (.op 6 (.op 7 (.rd 8 (.rd 9 (.op 10 .done))))))))))) kF kF kF (fun _ _ _ _ _ h=>h) (by rw[hVD];exact FD.mono nE) ?_;rw[hVD];clear hVD;iterate 4
      try simp only[Act.put,sI,sZ,sS]
      refine ay0 _ ?_ gF rF ?_ ?_;rotate_left
      ·intro V hV;obtain⟨x0,x1,x2,x3,x4,xz,xl⟩:=HC7.out V hV;go_simp;try with_reducible rfl
     try simp only[Act.put,sI,sZ,sS]
     refine az0 _ gF rF (fun K hK=>?_);go_simp
     (with_reducible refine (nG0 (HL7.out.kp.fr0 FD)).mono ?_)
     rintro _ _ ⟨rfl,rfl⟩;refine hK _ _ (FD.mono nE) ?_;clear hK K;try simp only[Act.put,sI,sZ,sS]
     refine az0 _ gF rF (fun K hK=>?_);go_simp
     (with_reducible refine (yG0 (HL7.out.kp.fr0 FD)).mono ?_)
     rintro _ _ ⟨rfl,rfl⟩;refine hK _ _ (FD.mono nE) ?_;clear hK K;try simp only[Act.put,sI,sZ,sS]
     refine az0 _ gF rF (fun K hK=>?_);go_simp
     (with_reducible refine (wE0 (HL7.out.fr0 FD)).mono ?_)
     rintro _ V8 ⟨rfl,F8⟩;have F8:=FD.trans F8 nI;refine hK _ _ (F8.mono nE) ?_;clear hK K FD;try simp only[Act.put,sI,sZ,sS]
     refine az0 _ gF rF (fun K hK=>?_);have k8:=F8.heap HH7.out.2.1 id;obtain⟨y0,y1,y2,y3,y4,yz,yl⟩:=cells5 k8;go_simp;obtain⟨V9,hV9⟩:=eX (((((V8.setCell ⟨br+1,0,none⟩ (.int .i64 t'.high)).setCell ⟨br+1,1,none⟩ (.int .i64 3)).setCell ⟨br+1,2,none⟩ (.int .i64 3)).setCell ⟨br+1,3,none⟩ (.slice a1 n1 c1)).setCell ⟨br+1,4,none⟩ (.int .i64 sp'))
     rw[hV9];have k9:V9.heap[br+1]?=some (.cells #[.int .i64 t'.high,.int .i64 3,.int .i64 3,.slice a1 n1 c1,.int .i64 sp'] 137):=(by rw[<- hV9];exact cg0 k8 _ _ _ _ _);have F9:Fr (fun b=>b=br+1) V8 V9:=(by rw[<- hV9];with_reducible (repeat (first|exact Fr.refl _ _|refine Fr.setCell ?_ (fun _=>by simp) _)));have o9:=F9.heap (F8.heap HH7.out.2.2 id) oM;have b9:=F9.heap (F8.heap HH7.out.1 id) oM;have hL9:=(HL7.out.fr0 F8).setB F9 k8 dC oM oM;have hO9:=(HO7.out.fr F8).setB F9 k8 dC;have G9:Fr (fun b=>b=br+1\/b=br+1+1) V7 V9:=(F8.mono nE).trans F9 (fun b _ h=>.inl h);refine hK _ _ G9 ?_;clear hK K hV9 y0 y1 y2 y3 y4 yz yl k8 F9 F8;iterate 2
      try simp only[Act.put,sI,sZ,sS]
      refine ay0 _ ?_ gF rF ?_ ?_;rotate_left
      ·intro V hV;go_simp;try with_reducible rfl
     try simp only[Act.put,sI,sZ,sS]
     refine az0 _ gF rF (fun K hK=>?_);obtain⟨y0,y1,yz,yl⟩:=cells2 o9;go_simp;obtain⟨VA,hVA⟩:=eX ((V9.setCell ⟨br+1+1,0,none⟩ (.int .i64 rp')).setCell ⟨br+1+1,1,none⟩ (.int .i64 rs'))
     rw[hVA];have oA:VA.heap[br+1+1]?=some (.cells #[.int .i64 rp',.int .i64 rs'] 35):=(by rw[<- hVA,hsc _ _ _ _ (hsc _ _ _ _ o9)];rfl);have FA:Fr (fun b=>b=br+1+1) V9 VA:=(by rw[<- hVA];with_reducible (repeat (first|exact Fr.refl _ _|refine Fr.setCell ?_ (fun _=>by simp) _)));have HA2:=hi2 (hL9.setB FA o9 dC oM oM) (aI (FA.heap b9 oM) (aI (FA.heap k9 oM) (aI oA (hO9.setB FA o9 dC))));refine hK _ _ (G9.trans FA (fun b _ h=>.inr h)) ?_;clear hK K hVA y0 y1 yz yl o9 b9 k9 hL9 hO9 G9 oA FA;refine ar0 ?_;refine NoPanic.normal ?_;try simp only[Act.put,sI,sZ,sS]
     have HCx:=hid (HCm.out _ HA2.out.1);clear HCm;go_wp2_with fail
     (with_reducible refine HCx.out.mono ?_)
     rintro _ VB ⟨rfl,FIB,P',hKB,hCB⟩;have HB:=hi2 hKB (aI (FrI.heap FIB HA2.out.2.1 dC) (aI (FrI.heap FIB HA2.out.2.2.1 dC) (aI (FrI.heap FIB HA2.out.2.2.2.1 dC) (aI (HA2.out.2.2.2.2.frI FIB) hCB))));have HKB:=hid HB.out.1;clear hKB hCB FIB HCx;have HSp:=hid (fun V (F:Fq VB V)=>hU0 (HKB.out.fr0 F));have HHe:=hid (fun V (F:Fq VB V)=>mQ0 (HKB.out.fr0 F));obtain⟨VD,hVD⟩:=eX VB.drew
     have FD:Fq VB VD:=(by rw[<- hVD];exact (Fr.refl _ _).drew);have HCr:=hid (fun V (F:Fq VB V)=>cells5 (F.heap HB.out.2.1 id));go_upto_region 30 with fail
     refine wp_region_noPanic ?_;refine aq0 (fun V=>Fq VB V) (.rd 0 (.rd 2 (.rd 3 (.op 1 (.rd 4 (.rd 5 (.rd 6 (.op 7 (.rd 8 (.rd 9 .done)))))))))) kF kF kF (fun _ _ _ _ _ h=>h) (by rw[hVD];exact FD) ?_;rw[hVD];clear hVD;iterate 3
      try simp only[Act.put,sI,sZ,sS]
      refine ay0 _ ?_ gF rF ?_ ?_;rotate_left
      ·intro V hV;obtain⟨x0,x1,x2,x3,x4,xz,xl⟩:=HCr.out V hV;go_simp;try with_reducible rfl
     try simp only[Act.put,sI,sZ,sS]
     refine az0 _ gF rF (fun K hK=>?_);go_simp
     (with_reducible refine (HSp.out _ FD).mono ?_)
     rintro _ _ ⟨rfl,rfl⟩;refine hK _ _ FD ?_;clear hK K;have hss:((sp':Int) != (sp':Int))=false:=sP;iterate 3
      try simp only[Act.put,sI,sZ,sS]
      refine ay0 _ ?_ gF rF ?_ ?_;rotate_left
      ·intro V hV;go_simp;try with_reducible rfl
     try simp only[Act.put,sI,sZ,sS]
     refine az0 _ gF rF (fun K hK=>?_);go_simp
     (with_reducible refine (HHe.out _ FD).mono ?_)
     rintro _ _ ⟨ch,rfl,hch,rfl⟩;refine hK _ _ FD ?_;clear hK K;have hch8:decide ((8:Int)<(ch:Int))=false:=decide_eq_false oM;iterate 2
      try simp only[Act.put,sI,sZ,sS]
      refine ay0 _ ?_ gF rF ?_ ?_;rotate_left
      ·intro V hV;go_simp;try with_reducible rfl
     refine ar0 ?_;refine NoPanic.normal ?_;try simp only[Act.put,sI,sZ,sS]
     have HFD:=hid FD;clear FD hss hch8 hch;go_wp2_with fail
     go_roundw;case rel=>exact⟨i+1,bs,bx,_,_,hlt,by go_num,rfl,rfl,rfl,rfl,P',N+480+8+1,G+1,t',sp',_,_,_,_,_,_,_,_,HB.out.1.fr0 HFD.out,by have:=HNu.out;omega,⟨HFD.out.heap HB.out.2.1 id,HB.out.2.2.2.2.1.fr HFD.out⟩,HFD.out.heap HB.out.2.2.1 id,HFD.out.heap HB.out.2.2.2.1 id,.inr ⟨t',G,⟨rfl,rfl,by have:=HNu.out;omega⟩,⟨rfl,rfl,rfl,HB.out.2.2.2.2.1.fr HFD.out⟩,HB.out.2.2.2.2.2⟩⟩
     case measure=>simp[intOf];omega
    by_cases h7:w0k=7
    ·have hd6:(w0k == 6)=false:=(by simp[h6]);have hd7:(w0k == 7)=true:=(by simp[h7]);clear h6 h7;rcases H5.out.2.2.2.2.2.1 with rfl|⟨tw,gw,⟨rfl,rfl,hgw⟩,⟨rfl,rfl,rfl,hOw⟩,hCm⟩
     ·go_wp2_with fail
      go_roundw;case rel=>exact⟨i+1,bs,bx,-1,gv,hlt,by go_num,rfl,rfl,rfl,rfl,P,N+480,G,t',sp',_,v2,d1,d2,d3,s2,rp,rs,H5.out.1,by have:=HNu.out;omega,⟨H5.out.2.1,H5.out.2.2.1⟩,H5.out.2.2.2.1,H5.out.2.2.2.2.1,.inl rfl⟩
      case measure=>simp[intOf];omega
     ·have htw0:decide ((tw.high:Int)<0)=false:=decide_eq_false oM;have HSo:=hid (fun V (F:Fq V5 V)=>us0 (gen:=gw) (H5.out.1.fr0 F) hCm oM);obtain⟨a2,c2,rfl⟩:=hOw.slice;obtain⟨n2,hn2⟩:=eX ((rows tw 0 0).length)
      have hbw7:=H5.out.2.2.2.1;rw[hn2] at hOw hbw7;have HW7:=hi2 hOw (aI hbw7 hgw);clear hn2 hbw7 hOw hCm;go_wp2_with fail
      (with_reducible refine (jd0 _).mono ?_)
      rintro _ V6 ⟨rfl,F6⟩;have HSq:=hid (HSo.out _ F6);have HF6:=hid F6;clear F6 e0;go_wp2_with fail
      (with_reducible refine HSq.out.mono ?_)
      rintro _ V7 ⟨bs',rfl,F7,hSO⟩;have F57:=HF6.out.trans F7 nI;have HIo:=hid (uu0 hSO (by have:=HN1.out;have:=HNu.out.1;omega));have HF7:=hid F57;obtain⟨y0,y1,yz,yl⟩:=cells2 (F57.heap H5.out.2.2.2.2.1 id);clear hSO F7 F57 HSq;go_wp2_with fail
      (with_reducible refine HIo.out.mono ?_)
      rintro _ V8 ⟨bx',P',rfl,FI8,hK8,hC8⟩;have FI58:=FrI.trans (FrI.none HF7.out) FI8;have k8:=FrI.heap FI58 H5.out.2.1 dC;have w8:=FrI.heap FI58 HW7.out.2.1 dC;have o8:=FrI.heap FI58 H5.out.2.2.2.2.1 dC;have hO8:=HW7.out.1.frI FI58;have HC8:=hid (fun (V:World) (F:Fr (fun b=>b=br) V8 V)=>cells5 (F.heap w8 oM));clear FI8 FI58 HIo y0 y1 yz yl;obtain⟨VD,hVD⟩:=eX V8.drew
      have FD:Fq V8 VD:=(by rw[<- hVD];exact (Fr.refl _ _).drew);have H8:=hi2 (hK8.fr0 FD) (aI (FD.heap k8 id) (aI (FD.heap w8 id) (aI (FD.heap o8 id) (aI (hO8.fr FD) hC8))));clear hK8 k8 w8 o8 hO8 hC8;go_upto_region 28 with fail
      refine wp_region_noPanic ?_;refine aq0 (fun V=>Fr (fun b=>b=br) V8 V) (.rd 0 (.rd 1 (.rd 2 (.rd 3 (.rd 4 (.op 5 .done)))))) kF kF kF (fun _ _ _ _ _ h=>h) (by rw[hVD];exact FD.mono nE) ?_;rw[hVD];clear hVD;iterate 5
       try simp only[Act.put,sI,sZ,sS]
       refine ay0 _ ?_ gF rF ?_ ?_;rotate_left
       ·intro V hV;obtain⟨x0,x1,x2,x3,x4,xz,xl⟩:=HC8.out V hV;go_simp;try with_reducible rfl
      try simp only[Act.put,sI,sZ,sS]
      refine az0 _ gF rF (fun K hK=>?_);obtain⟨y0,y1,y2,y3,y4,yz,yl⟩:=cells5 H8.out.2.1;go_simp;obtain⟨V9,hV9⟩:=eX (((((VD.setCell ⟨br,0,none⟩ (.int .i64 tw.high)).setCell ⟨br,1,none⟩ (.int .i64 3)).setCell ⟨br,2,none⟩ (.int .i64 3)).setCell ⟨br,3,none⟩ (.slice a2 n2 c2)).setCell ⟨br,4,none⟩ (.int .i64 s2))
      rw[hV9];have k9:V9.heap[br]?=some (.cells #[.int .i64 tw.high,.int .i64 3,.int .i64 3,.slice a2 n2 c2,.int .i64 s2] 137):=(by rw[<- hV9];exact cg0 H8.out.2.1 _ _ _ _ _);have F9:Fr (fun b=>b=br) VD V9:=(by rw[<- hV9];with_reducible (repeat (first|exact Fr.refl _ _|refine Fr.setCell ?_ (fun _=>by simp) _)));refine hK _ _ ((FD.mono nE).trans F9 nI) ?_;clear hK K hV9 FD y0 y1 y2 y3 y4 yz yl;refine ar0 ?_;refine NoPanic.normal ?_;try simp only[Act.put,sI,sZ,sS]
      obtain⟨VA,hVA⟩:=eX (V9.setCell ⟨br,4,none⟩ (.int .i64 0))
      have kA:VA.heap[br]?=some (.cells #[.int .i64 tw.high,.int .i64 3,.int .i64 3,.slice a2 n2 c2,.int .i64 0] 137):=(by rw[<- hVA,hsc _ _ _ _ k9];rfl);have FA:Fr (fun b=>b=br) VD VA:=F9.trans (by rw[<- hVA];exact (Fr.refl (fun b=>b=br) V9).setCell (a:=⟨br,4,none⟩) (fun _=>rfl) _) nI;obtain⟨y0,y1,y2,y3,y4,yz,yl⟩:=cells5 k9;have HVA:=hid hVA;have HA9:=hi2 (H8.out.1.setB FA H8.out.2.1 dC hbrw oM) (aI kA (aI (FA.heap H8.out.2.2.1 oM) (aI (FA.heap H8.out.2.2.2.1 oM) (aI (H8.out.2.2.2.2.1.setB FA H8.out.2.1 dC) H8.out.2.2.2.2.2))));have HKA:=hid HA9.out.1;clear hVA kA FA F9 k9;go_upto_region 30 with fail
      rw[HVA.out];clear y0 y1 y2 y3 y4 yz yl;have HSp:=hid (fun V (F:Fq VA V)=>hU0 (HKA.out.fr0 F));have HHe:=hid (fun V (F:Fq VA V)=>mQ0 (HKA.out.fr0 F));obtain⟨VD,hVD⟩:=eX VA.drew
      have FD:Fq VA VD:=(by rw[<- hVD];exact (Fr.refl _ _).drew);have HCr:=hid (fun V (F:Fq VA V)=>cells5 (F.heap HA9.out.2.1 id));refine wp_region_noPanic ?_;refine aq0 (fun V=>Fq VA V) (.rd 0 (.rd 2 (.rd 3 (.op 1 (.rd 4 (.rd 5 (.rd 6 (.op 7 (.rd 8 (.rd 9 .done)))))))))) kF kF kF (fun _ _ _ _ _ h=>h) (by rw[hVD];exact FD) ?_;rw[hVD];clear hVD;iterate 3
       try simp only[Act.put,sI,sZ,sS]
       refine ay0 _ ?_ gF rF ?_ ?_;rotate_left
       ·intro V hV;obtain⟨x0,x1,x2,x3,x4,xz,xl⟩:=HCr.out V hV;go_simp;try with_reducible rfl
      try simp only[Act.put,sI,sZ,sS]
      refine az0 _ gF rF (fun K hK=>?_);go_simp
      (with_reducible refine (HSp.out _ FD).mono ?_)
      rintro _ _ ⟨rfl,rfl⟩;refine hK _ _ FD ?_;clear hK K;have hss:((0:Int) != (0:Int))=false:=sP;iterate 3
       try simp only[Act.put,sI,sZ,sS]
       refine ay0 _ ?_ gF rF ?_ ?_;rotate_left
       ·intro V hV;go_simp;try with_reducible rfl
      try simp only[Act.put,sI,sZ,sS]
      refine az0 _ gF rF (fun K hK=>?_);go_simp
      (with_reducible refine (HHe.out _ FD).mono ?_)
      rintro _ _ ⟨ch,rfl,hch,rfl⟩;refine hK _ _ FD ?_;clear hK K;have hch8:decide ((8:Int)<(ch:Int))=false:=decide_eq_false oM;iterate 2
       try simp only[Act.put,sI,sZ,sS]
       refine ay0 _ ?_ gF rF ?_ ?_;rotate_left
       ·intro V hV;go_simp;try with_reducible rfl
      refine ar0 ?_;refine NoPanic.normal ?_;try simp only[Act.put,sI,sZ,sS]
      have HFD:=hid FD;clear FD hss hch8 hch;go_wp2_with fail
      go_roundw;case rel=>exact⟨i+1,bs',bx',_,_,hlt,by go_num,rfl,rfl,rfl,rfl,P',N+480+13,gw+1,tw,0,_,_,_,_,_,_,_,_,HA9.out.1.fr0 HFD.out,by have:=HNu.out;have:=HW7.out.2.2;omega,⟨HFD.out.heap HA9.out.2.1 id,HA9.out.2.2.2.2.1.fr HFD.out⟩,HFD.out.heap HA9.out.2.2.1 id,HFD.out.heap HA9.out.2.2.2.1 id,.inr ⟨tw,gw,⟨rfl,rfl,by have:=HW7.out.2.2;omega⟩,⟨rfl,rfl,rfl,HA9.out.2.2.2.2.1.fr HFD.out⟩,HA9.out.2.2.2.2.2⟩⟩
      case measure=>simp[intOf];omega
    ·have hd6:(w0k == 6)=false:=(by simp[h6]);have hd7:(w0k == 7)=false:=(by simp[h7]);clear h6 h7;have HK5:=hid H5.out.1;have HSp:=hid (fun V (F:Fq V5 V)=>hU0 (HK5.out.fr0 F));have HHe:=hid (fun V (F:Fq V5 V)=>mQ0 (HK5.out.fr0 F));obtain⟨VD,hVD⟩:=eX V5.drew
     have FD:Fq V5 VD:=(by rw[<- hVD];exact (Fr.refl _ _).drew);have HCr:=hid (fun V (F:Fq V5 V)=>cells5 (F.heap H5.out.2.1 id));go_upto_region 30 with fail
     refine wp_region_noPanic ?_;refine aq0 (fun V=>Fq V5 V) (.rd 0 (.rd 2 (.rd 3 (.op 1 (.rd 4 (.rd 5 (.rd 6 (.op 7 (.rd 8 (.rd 9 .done)))))))))) kF kF kF (fun _ _ _ _ _ h=>h) (by rw[hVD];exact FD) ?_;rw[hVD];clear hVD;iterate 3
      try simp only[Act.put,sI,sZ,sS]
      refine ay0 _ ?_ gF rF ?_ ?_;rotate_left
      ·intro V hV;obtain⟨x0,x1,x2,x3,x4,xz,xl⟩:=HCr.out V hV;go_simp;try with_reducible rfl
     try simp only[Act.put,sI,sZ,sS]
     refine az0 _ gF rF (fun K hK=>?_);go_simp
     (with_reducible refine (HSp.out _ FD).mono ?_)
     rintro _ _ ⟨rfl,rfl⟩;refine hK _ _ FD ?_;clear hK K;have hss:((sp':Int) != (sp':Int))=false:=sP;iterate 3
      try simp only[Act.put,sI,sZ,sS]
      refine ay0 _ ?_ gF rF ?_ ?_;rotate_left
      ·intro V hV;go_simp;try with_reducible rfl
     try simp only[Act.put,sI,sZ,sS]
     refine az0 _ gF rF (fun K hK=>?_);go_simp
     (with_reducible refine (HHe.out _ FD).mono ?_)
     rintro _ _ ⟨ch,rfl,hch,rfl⟩;refine hK _ _ FD ?_;clear hK K;have hch8:decide ((8:Int)<(ch:Int))=false:=decide_eq_false oM;iterate 2
      try simp only[Act.put,sI,sZ,sS]
      refine ay0 _ ?_ gF rF ?_ ?_;rotate_left
      ·intro V hV;go_simp;try with_reducible rfl
     refine ar0 ?_;refine NoPanic.normal ?_;try simp only[Act.put,sI,sZ,sS]
     have HFD:=hid FD;clear FD hss hch8 hch;go_wp2_with fail
     go_roundw;case rel =>
      refine⟨i+1,bs,bx,dv,gv,hlt,by go_num,rfl,rfl,rfl,rfl,P,N+480,G,t',sp',_,v2,d1,d2,d3,s2,rp,rs,H5.out.1.fr0 HFD.out,by have:=HNu.out;omega,⟨HFD.out.heap H5.out.2.1 id,H5.out.2.2.1.fr HFD.out⟩,HFD.out.heap H5.out.2.2.2.1 id,HFD.out.heap H5.out.2.2.2.2.1 id,?_⟩;rcases H5.out.2.2.2.2.2.1 with h|⟨tw,gw,h1,⟨h2,h3,h4,h5⟩,h6⟩
      ·exact .inl h
      ·exact .inr ⟨tw,gw,⟨h1.1,h1.2.1,oM⟩,⟨h2,h3,h4,h5.fr HFD.out⟩,h6⟩
     case measure=>simp[intOf];omega
  ·obtain rfl:i=n:=by omega
   have hli:¬ (i:Int)<(i:Int):=oM
   have HLk:=hid (mM0 hK hOw hK.fr.size (by have:=HN1.out;omega));obtain⟨a0,c0,rfl⟩:=hOw.slice;obtain⟨n0,hn0⟩:=eX ((rows t 0 0).length)
   obtain⟨g,hg⟩:=eX t.high
   rw[hn0,hg] at HLk;rw[hn0,hg] at hbr;obtain⟨x0,x1,x2,x3,x4,xz,xl⟩:=cells5 hbr;clear hK hOw hbr hbw hbo hcm hn0 hg;go_wp2_with fail
   refine HLk.out.mono ?_;rintro e V5 ⟨rfl,hK5,-⟩;have HAw:=hid (oP0 V5 (HT.out.fr hK5.fr id));have HF5:=hid hK5.fr;clear hK5 HLk x0 x1 x2 x3 x4 xz xl;go_wp2_with fail
   refine HAw.out.mono ?_;rintro e V6 ⟨rfl,F6⟩;have HF6:=hid (HF5.out.trans F6 nI);clear F6;go_wp2_with fail
   exact bodyPost_ret (v:=.bool true) sR rfl ⟨rfl,HF6.out⟩
