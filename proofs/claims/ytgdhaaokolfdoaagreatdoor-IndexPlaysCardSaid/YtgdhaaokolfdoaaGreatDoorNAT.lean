/- A pack of texts. Conditions: those that each names. -/
import Derived.Test.YtgdhaaokolfdoaaGreatDoorNAS
set_option maxHeartbeats 16000000
set_option maxRecDepth 100000
set_option linter.all false
namespace Go.Proofs.YtgdhaaokolfdoaaGreatDoor
section
open Go.RowKit Go.Sg Go.Sg.Bits Go.Sg.Clk CP SF
variable {W w w':World}{B:Blk}{N base bd e k n s size:Nat}{c:Array Value}{a:Bool}{v:Value}{xs:List Value}
theorem jU0 (F:FrB B w W)(x y:Value):FrB B w ((W.setCell ⟨w.heap.size,0,none⟩ x).setCell ⟨w.heap.size,1,none⟩ y):=
 Fr.setCell (Fr.setCell F (fun h=>absurd h (mv9 _)) _) (fun h=>absurd h (mv9 _)) _
theorem qX0 (x y:Value):Fr (fun b=>b=k) W ((W.setCell ⟨k,0,none⟩ x).setCell ⟨k,1,none⟩ y):=
 Fr.setCell (S:=fun b=>b=k) (Fr.setCell (S:=fun b=>b=k) (Fr.refl _ _) (fun _=>rfl) _) (fun _=>rfl) _
variable {y:Cs}{P:aC0}
theorem iD0 (h:aP0 W B y P N)(hk:W.heap[k]?=some (.cells c 35))(x z:Value):aP0 ((W.setCell ⟨k,0,none⟩ x).setCell ⟨k,1,none⟩ z) B y P N:=
 h.frL (qX0 x z) hk dC
theorem tX0 (h:aw0 W B y P a N)(hk:W.heap[k]?=some (.cells c 35))(h0:0<k)(x z:Value):aw0 ((W.setCell ⟨k,0,none⟩ x).setCell ⟨k,1,none⟩ z) B y P a N:=
 h.frL (qX0 x z) hk dC h0
def Bw0 (B:Blk)(y:Cs)(P:aC0)(a:Bool)(N:Nat)(slots:List Rf)(k:Nat)(w:World)(e:Ending)(w':World):Prop:=
 ∃ p s err,e = .returned (.tuple #[fT0 p s,.int .i64 err])/\FrB B w w'/\((err=0/\slots[k]?=some (p,s)/\aw0 w' B y P a (N+2))\/(err=4/\a=true/\aP0 w' B y P (N+2)))
variable {x:aL0}{slots au0:List Rf}
theorem yJ0 (h:aw0 w B y P a N)(hD:aj0 w bd B.s x)(hC:fC0 y x au0 slots)(k:Nat)(hk:k<x.slots)(hN:N+2<=90000) :
  Calls Tryz.prog 54 #[cR0 bd,.int .i64 k] w (Bw0 B y P a N slots k w):=by
 have HSl:=hid (fun W (F:Fq w W)=>ga0 (F.heap hD id:aj0 W bd B.s x) (by have:=hC.z.most;omega));have HTop:=hid (fun W (F:Fq w W)=>oa0 (h.fr0 F) (F.heap hD id:aj0 W bd B.s x) hC oM);have d1:decide ((k:Int)<0)=false:=decide_eq_false oM;have d2:decide ((x.slots:Int)<=(k:Int))=false:=decide_eq_false oM;have HD:=hid hD;have HC:=hid hC;have HS:=hid h;obtain⟨w1,hw1⟩:=eX (w.alloc (.cells #[.int .i64 0,.int .i64 0] 35))
 have b1:w1.heap[w.heap.size]?=some (.cells #[.int .i64 0,.int .i64 0] 35):=by rw[<- hw1];exact han _ _
 have HF1:=hid (show Fq w w1 by rw[<- hw1];exact (Fr.refl _ _).alloc _);have HB1:=hid b1;have HW1:=hid hw1;have hil:k/x.per<x.leaves:=by
  have h1:=hC.z.fx0;exact (Nat.div_lt_iff_lt_mul hC.z.per.1).2 oM
 have hp41:=hC.z.qu0;have hp0:=hC.z.per.1;clear h hD hC hw1 b1;go_enter Tryz.func54,Tryz.ntmps54;go_wp2_with (rw[HW1.out];go_at_call 125;refine (HSl.out _ HF1.out).mono ?_)
 rintro e W2 ⟨rfl,m,rfl⟩;go_wp2_with (go_at_call 120;refine (HTop.out _ (HF1.out.drewN _)).mono ?_)
 rintro e W3 ⟨v,err,rfl,F3,⟨rfl,hown,hS⟩|⟨rfl,ha,hDn⟩⟩
 ·obtain⟨ta,tc,rfl,hT⟩:=by0 hown;have F03:FrB B w W3:=FrB.trans (FrB.none (HF1.out.drewN m)) F3;have HPg:=hid (mA0 hS (HD.out.frB F03) HC.out.z HC.out.leaf HC.out.slen HC.out.tlen (tc:=tc) rfl hT (by rw[HC.out.tlen];exact hil) oM);have HB3:=hid (F3.heap (show (w1.drewN m).heap[w.heap.size]?=_ from HB1.out) dC);have HF3:=hid F03;obtain⟨c0,c1,c2,c3,c4,c5,cz,cl⟩:=aU0 (HD.out.frB F03);have e2:wrap64 ((k:Int)/(x.per:Int))=((k/x.per:Nat):Int):=by
   have h1:(k:Int)/(x.per:Int)=((k/x.per:Nat):Int):=by simp
   have h2:=nb9 k x.per;have h3:=(dr0 (x:=x) (by have:=HC.out.z.most;omega)).1;rw[h1];generalize k/x.per=q at *;simp only[wrap64];omega
  have e3:(k:Int) % (x.per:Int)=((k % x.per:Nat):Int):=by simp
  have HE:=hi2 e2 e3;clear hown hS F3 F03 hT e2 e3;go_wp2_with (rw[HE.out.1];go_at_call 121;refine (HPg.out).mono ?_)
  rintro e W4 ⟨v4,err,rfl,F4,⟨rfl,hown,hS⟩|⟨rfl,ha,hDn⟩⟩
  ·obtain⟨pa,pc,rfl,hT⟩:=by0 hown;obtain⟨n4,hn4⟩:=eX ((chunk slots x.per (k/x.per)).length)
   have hdm:=Nat.div_add_mod k x.per;have hml:=mD9 k hp0;have hslen:slots.length=x.slots:=HC.out.slen;have hlt:k % x.per<n4:=by
    rw[<- hn4,bk0,hslen];rw[lJ9] at hdm;omega
   obtain⟨r,hr⟩:∃ r,slots[k]?=some r:=⟨_,gE oM⟩
   have hr4:(chunk slots x.per (k/x.per))[k % x.per]?=some r:=by
    rw[cP0 hml,lJ9,hdm];exact hr
   obtain⟨b,off,rfl,hb,g0,g1⟩:=hT.row.at_ _ r hr4;have e3:=HE.out.2;have hlt':((k % x.per:Nat):Int)<(n4:Int):=oM
   have b4:=F4.heap HB3.out dC;obtain⟨e0,e1,ez,el⟩:=cells2 b4;obtain⟨c0,c1,c2,c3,c4,c5,cz,cl⟩:=aU0 (HD.out.frB (FrB.trans HF3.out F4));have HX:=hi2 hS (aI b4 (aI (FrB.trans HF3.out F4) hr));have h0:0<w.heap.size:=by obtain⟨-,-,-,hcl⟩:=cells2 HB1.out;have:=HS.out.base;have:=HS.out.bs0;omega
   rw[hn4];generalize k % x.per=q at *
   clear hown hS F4 b4 hT hn4 hdm hml hslen hr hr4;go_wp2_with fail
   refine bodyPost_ret (v:=.tuple #[fT0 r.1 r.2,.int .i64 0]) sR rfl ?_;exact⟨_,_,0,rfl,jU0 HX.out.2.2.1 _ _,.inl ⟨rfl,HX.out.2.2.2,tX0 HX.out.1 HX.out.2.1 h0 _ _⟩⟩
  ·have HX:=hi2 ha (aI hDn (FrB.trans HF3.out F4));have b4:=F4.heap HB3.out dC;obtain⟨e0,e1,ez,el⟩:=cells2 b4;have HB4:=hid b4;clear hDn ha F4 b4 c0 c1 c2 c3 c4 c5 cz cl;go_wp2_with fail
   refine bodyPost_ret (v:=.tuple #[fT0 0 0,.int .i64 4]) sR rfl ?_;refine⟨_,_,4,rfl,jU0 HX.out.2.2 _ _,.inr ⟨rfl,HX.out.1,iD0 HX.out.2.1 HB4.out _ _⟩⟩
 ·have HX:=hi2 ha (aI hDn (FrB.trans (FrB.none (HF1.out.drewN m)) F3));have hsz:=F3.size;have hsz1:w.heap.size<w1.heap.size:=loh HB1.out;have b3:=F3.heap (show (w1.drewN m).heap[w.heap.size]?=_ from HB1.out) dC;obtain⟨e0,e1,ez,el⟩:=cells2 b3;have HB3:=hid b3;clear hDn ha F3 b3;go_wp2_with fail
  refine bodyPost_ret (v:=.tuple #[fT0 0 0,.int .i64 4]) sR rfl ?_;refine⟨_,_,4,rfl,jU0 HX.out.2.2 _ _,.inr ⟨rfl,HX.out.1,iD0 (HX.out.2.1.mono oM) HB3.out _ _⟩⟩
theorem aw0.ru0 (h:aw0 w B y P a N)(hown:w.ownsRow base e size v n xs)(he:e ∉ 5 :: em0)(h0:0<base)(hg:w.grownBy w' v.ownBlock):aw0 w' B y P a N:=by
 cases hv:v.ownBlock with
 | none =>
  rw[hv] at hg;exact h.fr0 ⟨hg.os,hg.tape,hg.output,hg.size,fun b hb _=>hg.block b hb sP⟩
 | some g =>
  obtain⟨hb,c,hc⟩:=oBT hown hv.symm;rw[hv] at hg;exact h.frL (k:=g) ⟨hg.os,hg.tape,hg.output,hg.size,fun b hb hn=>hg.block b hb (fun e=>hn (by cases e;rfl))⟩ hc he oM
theorem lq0 {w0:World}(F:FrB B w0 w)(hown:w.ownsRow base e size v n xs)(hb:w0.heap.size<=base)(hg:w.grownBy w' v.ownBlock):FrB B w0 w':=
 Fr.trans F (S':=fun b=>some b=v.ownBlock) ⟨hg.os,hg.tape,hg.output,hg.size,fun b hb hn=>hg.block b hb hn⟩ (fun b hb' e=>by have:=(oBT hown e).1;omega)
def Aq0 (B:Blk)(y:Cs)(P:aC0)(a:Bool)(N:Nat)(l:List Rf)(w:World)(e:Ending)(w':World):Prop:=
 ∃ v err,e = .returned (.tuple #[v,.int .i64 err])/\FrB B w w'/\((err=0/\dC0 w' w.heap.size v l/\aw0 w' B y P a N)\/(err=4/\a=true/\aP0 w' B y P N))
theorem jh0 (l:List Rf):∀ u ∈ l.flatMap dB0,u.oneCell'=true:=by
 intro u hu;obtain⟨x,_,h⟩:=mf9.1 hu;simp[dB0] at h;rcases h with rfl|rfl <;> rfl
theorem pC0 (l:List Rf)(per k:Nat):l.take ((k+1)*per)=l.take (k*per)++chunk l per k:=by
 rw[chunk,lZ9,List.take_add]
theorem kq0 (w:World)(p s:Int):(w.alloc (.cells #[.int .i64 p,.int .i64 s] 35)).ownsRow w.heap.size 35 2 (.slice (some ⟨w.heap.size,0,none⟩) 1 1) 1 [.int .i64 p,.int .i64 s]:=
 ⟨rfl,.inr ⟨w.heap.size,1,#[.int .i64 p,.int .i64 s],rfl,nR _,han _ _,nR _,dC,rfl,rfl⟩⟩
theorem vZ0 (h:aw0 w B y P a N)(hD:aj0 w bd B.s x)(hC:fC0 y x au0 slots)(hN:N+1+x.leaves<=90000) :
  Calls Tryz.prog 48 #[cR0 bd] w (Aq0 B y P a (N+1+x.leaves) slots w):=by
 obtain⟨i0,hi0,hz0,hz1,hz2⟩:=info_parts Tryz.js0;have HTop:=hid (oa0 h hD hC oM);have HD:=hid hD;have HC:=hid hC;have h0:0<w.heap.size:=by have:=h.base;have:=h.bs0;omega
 have hp41:=hC.z.qu0;clear h hD hC;go_enter Tryz.func48,Tryz.ntmps48;go_wp2_with (go_at_call 120;refine (HTop.out).mono ?_)
 rintro e W3 ⟨v,err,rfl,F3,⟨rfl,hown,hS⟩|⟨rfl,ha,hDn⟩⟩
 ·obtain⟨ta,tc,rfl,hT⟩:=by0 hown;have hsz3:0<W3.heap.size:=nLL h0 F3.size;obtain⟨n,hn⟩:=eX au0.length
  have HNL:=hid (show n=x.leaves by rw[<- hn];exact HC.out.tlen);have hn41:n<=41:=by rw[HNL.out];exact hp41.1
  have hNn:N+1+n<=90000:=by rw[HNL.out];exact hN
  rw[hn];have H3:=hi2 hS (aI hT (aI F3 hn));clear hown hS F3 hT hn;go_wp2_with fail
  go_loopw [6,22] (fun v i wr=>∃ k:Nat,k<=n/\i = .int .i64 k/\dC0 wr W3.heap.size v (slots.take (k*x.per))/\aw0 wr B y P a (N+1+k)/\FrB B W3 wr) (fun _ i _=>n-(intOf i).toNat)
  case atStart=>exact⟨0,la9 _,rfl,by rw[mr9];exact World.ownsRow_nil _ _ _ _,H3.out.1,FrB.refl _ _⟩
  case round =>
   obtain⟨k,hk,rfl,hown,hS,F⟩:=hrel;have HR:=hi2 hown (aI hS F);clear hown hS F;by_cases hlt:k<n
   ·have hd:decide ((k:Int)<(n:Int))=true:=sO;have HPg:=hid (mA0 HR.out.2.1 (HD.out.frB (FrB.trans H3.out.2.2.1 HR.out.2.2)) HC.out.z HC.out.leaf HC.out.slen HC.out.tlen (tc:=tc) H3.out.2.2.2 (H3.out.2.1.frB HR.out.2.2) hlt oM);go_wp2_with (go_at_call 121;refine (HPg.out).mono ?_)
    rintro e W4 ⟨v4,err,rfl,F4,⟨rfl,hown4,hS4⟩|⟨rfl,ha,hDn⟩⟩
    ·have hsl:=HC.out.slen;have hle:=HC.out.z.fx0;have hcl:(chunk slots x.per k).length<=41:=(by rw[bk0];omega);have htl:(slots.take (k*x.per)).length<=1681:=by
      rw[lT];have:k*x.per<=41*41:=Nat.mul_le_mul oM hp41.2;omega
     obtain⟨m4,hm4⟩:=eX ((chunk slots x.per k).length)
     have H4:=hi2 (il0 hown4) (aI hS4 (aI F4 (oRf HR.out.1 F4 (fun g c hg hs=>absurd (hs.2.1 c 35 _ hg) dC))));have hsz4:W3.heap.size<=W4.heap.size:=nT HR.out.2.2.size F4.size;have HM:=hid hm4;clear hown4 hS4 F4 hsl hle;go_wp2_with (at_builtin;refine ag0 rfl (.tmp 35) (.tmp 36) 33 rfl W3.heap.size 35 i0 _ 2 16 Tryz.underlying33 hi0 hz0 hz1 hz2 rfl dC _ _ _ rfl H4.out.2.2.2 _ _ _ rfl H4.out.1 (ie0 _) (jh0 _) (by simp only[maxLen];omega) oM hsz4 ?_)
     intro v5 W5 hown5 hg5 hne5;have F5:FrB B W3 W5:=lq0 (FrB.trans HR.out.2.2 H4.out.2.2.1) H4.out.2.2.2 (nR _) hg5;have hS5:=H4.out.2.1.ru0 H4.out.2.2.2 dC hsz3 hg5;have H5:=hi2 hown5 (aI hS5 F5);clear hown5 hg5 hne5 F5 hS5;go_wp2_with fail
     go_roundw;case rel =>
      refine⟨k+1,hlt,by go_num,?_,H5.out.2.1,H5.out.2.2⟩;have ho:=H5.out.1;rw[<- HM.out,<- lT,<- lA,<- li9,<- pC0] at ho;exact ho
     case measure=>simp[intOf];omega
    ·have HX:=hi2 ha (aI hDn (FrB.trans (FrB.trans H3.out.2.2.1 HR.out.2.2) F4));clear hDn ha F4;go_wp2_with fail
     go_ret2;exact⟨_,4,rfl,HX.out.2.2,.inr ⟨rfl,HX.out.1,HX.out.2.1.mono (by have:=HNL.out;omega)⟩⟩
   ·obtain rfl:k=n:=by omega
    have hd:decide ((k:Int)<(k:Int))=false:=sP;go_wp2_with fail
    go_ret2;have e1:slots.take (k*x.per)=slots:=tL (by rw[HC.out.slen,HNL.out];exact HC.out.z.fx0);have ho:=HR.out.1;rw[e1] at ho;exact⟨_,0,rfl,FrB.trans H3.out.2.2.1 HR.out.2.2,.inl ⟨rfl,du0 ho H3.out.2.2.1.size,by rw[<- HNL.out];exact HR.out.2.1⟩⟩
 ·have HX:=hi2 ha (aI hDn F3);clear hDn ha F3;go_wp2_with fail
  go_ret2;exact⟨_,4,rfl,HX.out.2.2,.inr ⟨rfl,HX.out.1,HX.out.2.1.mono oM⟩⟩
theorem uc0 (h:aw0 w B y P a N)(hD:aj0 w bd B.s x)(hC:fC0 y x au0 slots)(hN:N+1<=90000) :
  Calls Tryz.prog 55 #[cR0 bd] w (Aq0 B y P a (N+1) ((x.rp,x.rs) :: au0) w):=by
 obtain⟨i0,hi0,hz0,hz1,hz2⟩:=info_parts Tryz.js0;have HTop:=hid (oa0 h hD hC oM);have HD:=hid hD;have HC:=hid hC;have h0:0<w.heap.size:=by have:=h.base;have:=h.bs0;omega
 have hp41:=hC.z.qu0;have htl:au0.length<=41:=by rw[hC.tlen];exact hp41.1
 clear h hD hC;go_enter Tryz.func55,Tryz.ntmps55;go_wp2_with (go_at_call 120;refine (HTop.out).mono ?_)
 rintro e W3 ⟨v,err,rfl,F3,⟨rfl,hown,hS⟩|⟨rfl,ha,hDn⟩⟩
 ·have hsz3:0<W3.heap.size:=nLL h0 F3.size;obtain⟨c0,c1,c2,c3,c4,c5,cz,cl⟩:=aU0 (HD.out.frB F3);have F4:Fq W3 (W3.alloc (.cells #[.int .i64 x.rp,.int .i64 x.rs] 35)):=(Fr.refl _ _).alloc _;have H4:=hi2 (il0 (oRf hown F4 (fun _ _ _ h=>h))) (aI (hS.fr0 F4) (aI (FrB.trans F3 (FrB.none F4)) (F3.size)));clear hown hS F3 F4;go_wp2_with (at_builtin;refine ag0 rfl (.tmp 20) (.tmp 21) 33 rfl W3.heap.size 35 i0 _ 2 16 Tryz.underlying33 hi0 hz0 hz1 hz2 rfl dC _ _ _ rfl (kq0 W3 x.rp x.rs) _ _ _ rfl H4.out.1 (ie0 _) (jh0 _) (by simp only[maxLen];omega) oM sP ?_)
  intro v5 W5 hown5 hg5 hne5;have F5:=lq0 H4.out.2.2.1 (kq0 W3 x.rp x.rs) H4.out.2.2.2 hg5;have hS5:=H4.out.2.1.ru0 (kq0 W3 x.rp x.rs) dC hsz3 hg5;have H5:=hi2 hown5 (aI hS5 F5);clear hown5 hg5 hne5 F5 hS5;go_wp2_with fail
  go_ret2;refine⟨v5,0,rfl,H5.out.2.2,.inl ⟨rfl,du0 ?_ H4.out.2.2.2,H5.out.2.1⟩⟩;have ho:=H5.out.1;rw[Nat.add_comm] at ho;exact ho
 ·have HX:=hi2 ha (aI hDn F3);clear hDn ha F3;go_wp2_with fail
  go_ret2;exact⟨_,4,rfl,HX.out.2.2,.inr ⟨rfl,HX.out.1,HX.out.2.1⟩⟩
theorem mf0 (h:aj0 W bd s x)(p q:Int):aj0 ((W.setCell ⟨bd,4,none⟩ (.int .i64 p)).setCell ⟨bd,5,none⟩ (.int .i64 q)) bd s { x with rp:=p,rs:=q }:=by
 unfold aj0;rw[hsc _ _ _ _ (hsc _ _ _ _ h)];rfl
theorem jO0 (x y:Value):Fr (fun b=>b=k) W ((W.setCell ⟨k,4,none⟩ x).setCell ⟨k,5,none⟩ y):=
 Fr.setCell (S:=fun b=>b=k) (Fr.setCell (S:=fun b=>b=k) (Fr.refl _ _) (fun _=>rfl) _) (fun _=>rfl) _
theorem iB0 (F:FrB B w W)(h:w.heap.size<=bd)(x y:Value):FrB B w ((W.setCell ⟨bd,4,none⟩ x).setCell ⟨bd,5,none⟩ y):=
 Fr.setCell (Fr.setCell F (fun hb=>absurd hb (mS9.2 h)) _) (fun hb=>absurd hb (mS9.2 h)) _
theorem gH0 (h:aw0 W B y P a N)(hD:aj0 W bd s x)(h0:0<bd)(u v:Value):aw0 ((W.setCell ⟨bd,4,none⟩ u).setCell ⟨bd,5,none⟩ v) B y P a N:=
 h.frL (jO0 u v) hD dC h0
theorem eu0 (h:aP0 W B y P N)(hD:aj0 W bd s x)(u v:Value):aP0 ((W.setCell ⟨bd,4,none⟩ u).setCell ⟨bd,5,none⟩ v) B y P N:=
 h.frL (jO0 u v) hD dC
theorem aX0 {y':Cs}(h:aP0 w B y P N)(k:Like y' y):aP0 w B y' P N:=by
 obtain⟨D,h1,h2,h3,h4,h5⟩:=h.ex;exact⟨D,h1,h2,h3,h4.trans k.sectors,h5.trans k.size⟩
theorem uO0 (w:World)(p s:Int):tt0 (w.alloc (.cells #[.int .i64 p,.int .i64 s] 35)) (some ⟨w.heap.size,0,none⟩) [(p,s)]:=⟨fun i x hx=>by
 have hb:(w.alloc (.cells #[.int .i64 p,.int .i64 s] 35)).heap[w.heap.size]?=some (.cells #[.int .i64 p,.int .i64 s] 35):=han _ _;obtain⟨c0,c1,-,cl⟩:=cells2 hb;cases i with
 | zero=>simp at hx;subst hx;exact⟨_,_,rfl,cl,c0,c1⟩
 | succ i=>simp at hx⟩
theorem nD0 (w:World)(r:Rf)(hr:aF0 r):Calls Tryz.prog 119 #[.slice (some ⟨w.heap.size,0,none⟩) 1 1] (w.alloc (.cells #[.int .i64 r.1,.int .i64 r.2] 35)) (yn0 [r] (w.alloc (.cells #[.int .i64 r.1,.int .i64 r.2] 35))):=
 iy0 (uO0 w r.1 r.2) (by simpa using hr) rfl oM
def zC0 (B:Blk)(y:Cs)(P:aC0)(a:Bool)(N:Nat)(r:Rf)(w:World)(e:Ending)(w':World):Prop:=
 ∃ v err,e = .returned (.tuple #[v,.int .i64 err])/\FrB B w w'/\((err=0/\∃ bd m1 m2:Nat,v=cR0 bd/\w.heap.size<=bd/\aj0 w' bd B.s { atZ y.plan with rp:=m2,rs:=y.gen }/\br0 y.taken y.pages y.hand m1 /\
  br0 (y.new m1 (ae0 [r])).taken y.pages (y.new m1 (ae0 [r])).hand m2/\aw0 w' B ((y.new m1 (ae0 [r])).new m2 (ae0 [((m1:Int),(y.gen:Int))])) P a (N+2))\/(err=4/\a=true/\aP0 w' B y P (N+2)))
theorem mL0 {P:aQ0}{M:Nat}{own:List Nat}(h:aw0 w B y P a N)(hfit:cj0 y.plan=true)(hL:Live y own M)(hM:own.length+1+2*M<y.pages)(hpg:y.pages<=2147483647)(hrm:12<=y.room)(r:Rf)(hr:aF0 r)(hN:N+2<=90000) :
  Calls Tryz.prog 47 #[B.ptr,fT0 r.1 r.2] w (zC0 B y P a N r w):=by
 obtain⟨w1,hw1⟩:=eX (w.alloc (.cells #[.int .i64 r.1,.int .i64 r.2] 35))
 have b1:w1.heap[w.heap.size]?=some (.cells #[.int .i64 r.1,.int .i64 r.2] 35):=by rw[<- hw1];exact han _ _
 have hf1:Fq w w1:=by rw[<- hw1];exact (Fr.refl _ _).alloc _
 have hgen:y.gen<9223372036854775808:=by obtain⟨x,c,hS,rfl,hi⟩:=h.ex;exact lt0 hS
 obtain⟨e0,e1,ez,el⟩:=cells2 b1;have hrt:=dQ0 r.1 r.2 w1;unfold ni0 at hrt;rw[show dR0 r.1 r.2=true by obtain⟨h1,h2,h3,h4⟩:=hr;simp[dR0];omega] at hrt;have HRT:=hid hrt;have HW1:=hid hw1;have HF1:=hid hf1;have HB1:=hid b1;have HAt:=hid (fun W (F:Fq w W)=>nR0 (h.fr0 F) hfit);have HS:=hid h;have HL:=hid hL;have h0:0<w.heap.size:=by have:=h.base;have:=h.bs0;omega
 have HG:=hid (show (0:Int)<=(y.gen:Int)/\(y.gen:Int)<9223372036854775808 by omega);have HR:=hid hr;clear hw1 b1 hrt h hf1 hfit hL hr;go_enter Tryz.func47,Tryz.ntmps47;go_wp2_with (rw[HW1.out];go_at_call 117;refine HRT.out.mono ?_)
 rintro e W2 ⟨rfl,F2⟩;have HF2:=hid (HF1.out.trans F2 nI);have HB2:=hid (F2.heap HB1.out id);clear F2 HRT e0 e1 ez el;go_wp2_with (go_at_call 118;refine (HAt.out _ HF2.out).mono ?_)
 rintro e W3 ⟨bd,rfl,hD,hbd,F3⟩;have HF3:=hid (HF2.out.trans F3 nI);have b3:=F3.heap HB2.out id;obtain⟨e0,e1,ez,el⟩:=cells2 b3;have HD3:=hid hD;have HBD:=hid (nT HF2.out.size hbd);have HB3:=hid b3;clear F3 hD b3 hbd;go_upto_region 4 with fail
 have F4:Fq W3 (W3.alloc (.cells #[.int .i64 r.1,.int .i64 r.2] 35)):=(Fr.refl _ _).alloc _;have HLd:=hid (nD0 W3 r HR.out);have HF4:=hid (HF3.out.trans F4 nI);have HD4:=hid (F4.heap HD3.out id);clear F4;go_wp2_with (go_at_call 119;refine HLd.out.mono ?_)
 rintro e W5 ⟨la,lc,rfl,hb,F5⟩;have HF5:=hid (HF4.out.trans F5 nI);have HD5:=hid (F5.heap HD4.out id);have HN1:=hid (pX0 (HS.out.fr0 HF5.out) (hb.inp B) (bh0 _) (by simpa using hrm) (HL.out.free oM) oM);clear F5 hb e0 e1 ez el;go_wp2_with (go_at_call 22;refine HN1.out.mono ?_)
 rintro e W6 ⟨p1,s1,err,rfl,F6,⟨rfl,m1,rfl,rfl,ht1,hS6⟩|⟨rfl,ha,hDn⟩⟩
 ·have F06:FrB B w W6:=FrB.trans (FrB.none HF5.out) F6;have HF6:=hid F06;have HD6:=hid (aj0.frB HD5.out F6);have hL1:=HL.out.new (bs:=ae0 [r]) HS.out.apart ht1;have HS6:=hi2 hS6 (aI ht1 hL1);have hm1:=ht1.1;have HR1:=hid (show aF0 ((m1:Int),(y.gen:Int)) from⟨by simp,by simp only;omega,HG.out.1,HG.out.2⟩);clear F6 hS6 ht1 hL1 F06;go_upto_region 7 with fail
  obtain⟨W7,hW7⟩:=eX (W6.alloc (.cells #[.int .i64 m1,.int .i64 y.gen] 35))
  rw[hW7];have F7:Fq W6 W7:=by rw[<- hW7];exact (Fr.refl _ _).alloc _
  have b7:W7.heap[W6.heap.size]?=some (.cells #[.int .i64 m1,.int .i64 y.gen] 35):=by rw[<- hW7];exact han _ _
  obtain⟨e0,e1,ez,el⟩:=cells2 b7;have HF7:=hid F7;have HD7:=hid (F7.heap HD6.out id);have F8:Fq W7 (W7.alloc (.cells #[.int .i64 m1,.int .i64 y.gen] 35)):=(Fr.refl _ _).alloc _;have HF8:=hid (F7.trans F8 nI);have HLd2:=hid (nD0 W7 ((m1:Int),(y.gen:Int)) HR1.out);clear F7 b7 hW7 F8 HLd HN1;go_wp2_with (go_at_call 119;refine HLd2.out.mono ?_)
  rintro e W9 ⟨la2,lc2,rfl,hb2,F9⟩;have HF9:=hid (HF8.out.trans F9 nI);have HN2:=hid (pX0 (HS6.out.1.fr0 HF9.out) (hb2.inp B) (bh0 _) (by show 12*1<=y.room;omega) (HS6.out.2.2.free (by rw[lA];exact hM)) oM);have HD9:=hid (HF9.out.heap HD6.out id);clear F9 hb2 e0 e1 ez el;go_wp2_with (go_at_call 22;refine HN2.out.mono ?_)
  rintro e W10 ⟨p2,s2,err,rfl,F10,hres⟩;have F010:FrB B w W10:=FrB.trans HF6.out (FrB.trans (FrB.none HF9.out) F10);have hD10:=aj0.frB HD9.out F10;have HF10:=hid F010;obtain⟨c0,c1,c2,c3,c4,c5,cz,cl⟩:=aU0 hD10;have HD10:=hid hD10;have HX:=hid hres;clear F10 F010 hD10 hres;rcases HX.out with⟨rfl,m2,rfl,rfl,ht2,hS10⟩|⟨rfl,ha,hDn⟩
  ·have HY:=hi2 ht2 hS10;have hg2:(y.new m1 (ae0 [r])).gen=y.gen:=rfl;rw[hg2];clear ht2 hS10;go_wp2_with fail
   go_ret2;refine⟨_,0,rfl,iB0 HF10.out HBD.out _ _,.inl ⟨rfl,bd,m1,m2,rfl,HBD.out,mf0 HD10.out _ _,HS6.out.2.1,HY.out.1,gH0 HY.out.2 HD10.out (by have:=HBD.out;omega) _ _⟩⟩
  ·have HY:=hi2 ha hDn;clear ha hDn;go_wp2_with fail
   go_ret2;refine⟨_,4,rfl,iB0 HF10.out HBD.out _ _,.inr ⟨rfl,HY.out.1,eu0 ((aX0 HY.out.2 (show Like y (y.new m1 (ae0 [r])) from⟨rfl,rfl,rfl,rfl,rfl,rfl,rfl⟩)).mono oM) HD10.out _ _⟩⟩
 ·have HX:=hi2 ha (aI hDn (FrB.trans (FrB.none HF5.out) F6));clear hDn ha F6;go_wp2_with fail
  go_ret2;exact⟨_,4,rfl,Fr.alloc HX.out.2.2 _,.inr ⟨rfl,HX.out.1,(HX.out.2.1.fr0 ((Fr.refl _ _).alloc _)).mono oM⟩⟩
theorem pQ0 {p:bp0}:∀ W,(Instr.field 31 p.val 5).run Tryz.prog W = .ok (.int .i64 p.depth) W:=fun W=>by kernel_rfl
def zA0 (s:Nat)(x:aL0)(w:World)(e:Ending)(w':World):Prop:=∃ bd,e = .returned (.tuple #[cR0 bd,.int .i64 0])/\aj0 w' bd s x/\w.heap.size<=bd/\Fq w w'
theorem mE0 (h:aw0 w B y P a N)(hfit:cj0 y.plan=true)(depth:Nat)(p s:Int)(hd:(depth:Int)<=y.plan.depth) :
  Calls Tryz.prog 53 #[B.ptr,.int .i64 depth,fT0 p s] w (zA0 B.s { atZ y.plan with depth:=depth,rp:=p,rs:=s } w):=by
 have HPl:=hid (fun W (F:Fq w W)=>rD0 (h.fr0 F));have HAt:=hid (fun W (F:Fq w W)=>nR0 (h.fr0 F) hfit);have hfd:=pQ0 (p:=y.plan);obtain⟨w1,hw1⟩:=eX (w.alloc (.cells #[.int .i64 p,.int .i64 s] 35))
 have b1:w1.heap[w.heap.size]?=some (.cells #[.int .i64 p,.int .i64 s] 35):=by rw[<- hw1];exact han _ _
 have HF1:=hid (show Fq w w1 by rw[<- hw1];exact (Fr.refl _ _).alloc _);have HB1:=hid b1;have HW1:=hid hw1;have d1:decide ((depth:Int)<0)=false:=decide_eq_false oM;have d2:decide (y.plan.depth<(depth:Int))=false:=decide_eq_false oM;clear h hd hw1 b1 hfit;go_enter Tryz.func53,Tryz.ntmps53;go_wp2_with (rw[HW1.out];go_at_call 33;refine (HPl.out _ HF1.out).mono ?_)
 rintro e W2 ⟨rfl,F2⟩;have HF2:=hid (HF1.out.trans F2 nI);have HB2:=hid (F2.heap HB1.out id);clear F2;go_wp2_with (go_at_call 118;refine (HAt.out _ HF2.out).mono ?_)
 rintro e W3 ⟨bd,rfl,hD,hbd,F3⟩;have b3:=F3.heap HB2.out id;have hne:¬ bd=w.heap.size:=by have:=loh HB2.out;omega
 obtain⟨e0,e1,ez,el⟩:=cells2 b3;obtain⟨c0,c1,c2,c3,c4,c5,cz,cl⟩:=aU0 hD;have H3:=hi2 hD (aI (nT HF2.out.size hbd) (HF2.out.trans F3 nI));clear hD hbd F3 b3;go_upto_region 4 with fail
 go_region
 all_goals (go_wp2_with fail)
 all_goals go_ret2
 all_goals (
  refine⟨bd,rfl,?_,H3.out.2.1,?_⟩
  ·have hb:=H3.out.1;unfold aj0 at hb ⊢;try simp only[heap_drew]
   rw[hsc _ _ _ _ (hsc _ _ _ _ (hsc _ _ _ _ hb))];rfl
  ·have hb:=H3.out.2.1;try apply Fr.drew
   refine Fr.setCell (Fr.setCell (Fr.setCell ?_ (fun hb'=>absurd hb' (mS9.2 hb)) _) (fun hb'=>absurd hb' (mS9.2 hb)) _) (fun hb'=>absurd hb' (mS9.2 hb)) _;exact H3.out.2.2)
end
section
open Go.RowKit Go.Sg Go.Shelf
attribute [local go_sem] Oper.semAt_some
def chV (b off n per j:Nat):Value:=.slice (some ⟨b,off+j*per*2,none⟩) (min per (n-j*per)) (min per (n-j*per))
theorem Tryz.wH0:(Tryz.prog.info? 33).map (fun i=>(i.zero,i.size,i.bytes))=some (some (.slice none 0 0),1,24):=by kernel_rfl
theorem yM0 (b off n c q:Nat)(h:q<n)(hc:n<=c)(W:World):(Instr.slice 33 (.slice (some ⟨b,off,none⟩) n c) (some (.int .i64 q)) none none).run Tryz.prog W = .ok (.slice (some ⟨b,off+q*2,none⟩) (n-q) (c-q)) W:=by
 rw[bW0 33 2 kF (fun W=>by kernel_rfl) _ n c q oM W];rw[if_neg oM];simp[Addr.add]
theorem Af0 (b off n c q e:Nat)(h0:0<e)(hc:q+e<=c)(W:World):(Instr.slice 33 (.slice (some ⟨b,off,none⟩) n c) (some (.int .i64 q)) (some (.int .i64 ((q:Int)+(e:Int)))) (some (.int .i64 ((q:Int)+(e:Int))))).run Tryz.prog W = .ok (.slice (some ⟨b,off+q*2,none⟩) e e) W:=by
 rw[run_slice_lhm W 33 (some ⟨b,off,none⟩) n c kF .i64 .i64 .i64 q ((q:Int)+(e:Int)) ((q:Int)+(e:Int)) oM oM oM oM];rw[show (sizeOf (Tryz.prog.elem 33)).run Tryz.prog W = .ok 2 W by kernel_rfl];have e1:((q:Int)+(e:Int)).toNat=q+e:=oM
 simp only[Result.andThen_ok,sliced,e1,lG9,mq9];rw[if_neg oM];simp[Addr.add]
theorem qV0 (a:Option Addr)(n c per:Nat)(hp:1<=per)(w:World) :
  Calls Tryz.prog 239 #[.slice a n c,.int .i64 per] w fun e w'=>e = .returned (.func (.func 272) #[] #[.pointer (some ⟨w.heap.size,0,none⟩),.pointer (some ⟨w.heap.size+1,0,none⟩)])/\(w.alloc (.cells #[.slice a n c] 33)).alloc (.cells #[.int .i64 per] 3)=w':=by
 obtain⟨w1,hw1⟩:=eX ((w.alloc (.cells #[.slice a n c] 33)).alloc (.cells #[.int .i64 per] 3))
 obtain⟨b0,b1,F1⟩:=ai0 hw1;have hd:decide ((per:Int)<1)=false:=by simp;omega
 have c0:=coh b1 0;simp at c0;have HW:=hid hw1;clear b0 b1 F1 hw1;go_enter Tryz.func239,Tryz.ntmps239;go_wp2_with fail
 rw[HW.out];go_wp2_with fail
 go_ret;exact⟨rfl,rfl⟩
abbrev AI0 (b off n per:Nat)(j:Nat):Array Value:=#[chV b off n per j]
def KpC (bs bn:Nat)(W W':World):Prop:=W'.heap[bs]?=W.heap[bs]?/\W'.heap[bn]?=W.heap[bn]?
variable {w:World}{b c m n off per:Nat}
theorem kH0 {bs bn:Nat}(hs:w.heap[bs]?=some (.cells #[.slice (some ⟨b,off,none⟩) n c] 33))(hnb:w.heap[bn]?=some (.cells #[.int .i64 per] 3))(hper:1<=per/\per<=1000)(hn:n<=100000)(hc:n<=c)(hm:∀ k,k<m↔k*per<n) :
  SeqStopsK Fence.wide 9 Tryz.prog 272 #[.pointer (some ⟨bs,0,none⟩),.pointer (some ⟨bn,0,none⟩)] (AI0 b off n per) (KpC bs bn) (fun xs=>xs=List.range m) (fun _=>True) m w:=fun l J Jx W hW hJ _ hY h0=>by
 have hs':=(hW.block bs (loh hs)).trans hs;have hn':=(hW.block bn (loh hnb)).trans hnb;have HX:=hi2 hs' hn';have HM:=hid hm;clear hs hnb hW hs' hn' hm;refine callsIn_of_wp Tryz.func272 rfl trivial ?_ rfl;simp only[Tryz.ntmps272,zA,lC,lz9,Nat.reduceAdd,Nat.reduceSub,lq9,lr9,ly9,ls9,le9,lo9];gi_wp2
 gi_loopw [4] (fun i wr=>∃ k:Nat,k<=m/\i = .int .i64 ((k*per:Nat):Int)/\J (List.range k) wr/\KpC bs bn W wr) (fun i _=>(n+per:Nat)-(intOf i).toNat)
 case atStart=>exact⟨0,la9 _,by simp,h0,rfl,rfl⟩
 case round =>
  obtain⟨k,hk,rfl,hJs,hkp⟩:=hrel;obtain⟨q,hq⟩:=eX (k*per)
  have cs:=coh (hkp.1.trans HX.out.1) 0;have cn:=coh (hkp.2.trans HX.out.2) 0;simp at cs cn;have HK:=hid hkp;have hkm:=HM.out k;rw[hq] at hkm;have HQ:=hid hq;rw[hq];clear hq hkp;by_cases hlt:q<n
  ·have hkm':k<m:=hkm.2 hlt;have hd:decide ((q:Int)<(n:Int))=true:=by simp;omega
   obtain⟨E,hE⟩:=eX (min per (n-q))
   have hE1:0<E/\E<=per/\q+E<=n:=oM
   have hmin:min (per:Int) ((n-q:Nat):Int)=(E:Int):=oM
   have hsl1:=yM0 b off n c q hlt hc;have hsl2:=Af0 b off n c q E hE1.1 oM;have hch:chV b off n per k = .slice (some ⟨b,off+q*2,none⟩) E E:=by
    have:=HQ.out;unfold chV;rw[this,hE]
   have HE:=hid hE;have HKM:=hid hkm';have HJ:=hid hJs;clear hkm hE hJs hkm';gi_wp2
   gi_big_quiet_th (fail)
   obtain⟨fn,tmps,assign,body,hy,hR⟩:=hY _ k (wr.drewN nq) (gU0 hJ HJ.out ((Fr.refl _ _).drewN nq)) (by simpa using HKM.out);dsimp only[AI0] at hy;rw[hch] at hy;have cs':(wr.drewN nq).cell? ⟨bs,0,none⟩=some (.slice (some ⟨b,off,none⟩) n c):=cs;gi_wp2
   refine hR.mono ?_;rintro e W3 (⟨rfl,hJ3,hk3⟩|⟨rfl,hJx3⟩)
   ·have HJ3:=hid hJ3;have HK3:=hid hk3;have cn3:=coh ((show W3.heap[bn]?=wr.heap[bn]? from hk3.2).trans (HK.out.2.trans HX.out.2)) 0;simp at cn3;clear hJ3 hk3;gi_wp2
    go_roundw;case rel =>
     have he:k*per+per=(k+1)*per:=(by rw[lZ9]);refine⟨k+1,HKM.out,?_,by rw[mO9];exact HJ3.out,HK3.out.1.trans HK.out.1,HK3.out.2.trans HK.out.2⟩;rw[<- he,HQ.out];go_num
    case measure=>simp[intOf];omega
   ·have HJX:=hid hJx3;clear hJx3;gi_wp2
    refine bodyPost_ret (results_none rfl _ _ _) rfl ?_;exact⟨⟨_,rfl⟩,.inr ⟨_,trivial,HJX.out⟩⟩
  ·obtain rfl:k=m:=by
    have:=mt hkm.1 oM;omega
   have hd:decide ((q:Int)<(n:Int))=false:=by simp;omega
   clear hkm;gi_wp2
   go_end0
   exact⟨⟨_,rfl⟩,.inl ⟨_,rfl,hJs⟩⟩
theorem zu0 {base z e size:Nat}{v:Value}{xs:List Value}(h:w.ownsRow base e size v n xs)(hg:∀ g,some g=v.ownBlock->z<=g):w.ownsRow z e size v n xs:=by
 obtain⟨hl,h0|⟨g,cap,cur,hv,hb,r⟩⟩:=h
 ·exact⟨hl,.inl h0⟩
 ·exact⟨hl,.inr ⟨g,cap,cur,hv,hg g (by rw[hv];rfl),r⟩⟩
def yq0 (w:World)(z b off n per:Nat)(pre:List Nat)(W:World):Prop:=
 ∃ v,Boxed W w.heap.size 291 v/\W.ownsRow w.heap.size 33 1 v pre.length (pre.map (chV b off n per))/\∀ g,some g=v.ownBlock->z<=g
def vA0 (b off n per m:Nat)(w:World)(e:Ending)(w':World):Prop:=∃ v,e = .returned v/\w'.ownsRow w.heap.size 33 1 v m ((List.range m).map (chV b off n per))/\Fq w w'
theorem qT0 (hper:1<=per/\per<=1000)(hn:n<=100000)(hc:n<=c)(hm:∀ k,k<m↔k*per<n)(hmn:m<=100000) :
  Calls Tryz.prog 184 #[.slice (some ⟨b,off,none⟩) n c,.int .i64 per] w (vA0 b off n per m w):=by
 obtain⟨i0,hi0,hz0,hz1,hz2⟩:=info_parts Tryz.wH0;refine (callsIn_wide (n:=10)).1 ?_;have F:=hid (qV0 (some ⟨b,off,none⟩) n c per hper.1 (w.alloc (.cells #[.slice none 0 0] 291)));refine callsIn_of_wp_marks Tryz.func184 rfl trivial ?_ rfl;simp only[Tryz.ntmps184,zA,lC,lz9,Nat.reduceAdd,Nat.reduceSub,lq9,lr9,ly9,ls9,le9,lo9];gi_wp2_with (gi_at_call 239;refine (callsIn_wide.2 F.out).mono ?_;rintro e w' ⟨rfl,rfl⟩)
 obtain⟨W0,hW0⟩:=eX (((w.alloc (.cells #[.slice none 0 0] 291)).alloc (.cells #[.slice (some ⟨b,off,none⟩) n c] 33)).alloc (.cells #[.int .i64 per] 3))
 have hF0:Fq w W0:=by rw[<- hW0];exact (((Fr.refl _ w).alloc _).alloc _).alloc _
 have hsz:W0.heap.size=w.heap.size+1+1+1:=by rw[<- hW0];simp
 obtain⟨hnx,hb1,hb2,-⟩:=aO0 hW0;simp only[hW0];have hKB:∀ (W:World) (l:Nat) (o o':Obj),W0.heap.size<=l->W.heap[l]?=some o->o.isCells=false->o.isWalk=false->KpC (w.heap.size+1) (w.heap.size+2) W (W.putObj l o'):=fun W l o o' hl _ _ _=>⟨hpj _ _ _ _ oM,hpj _ _ _ _ oM⟩
 refine wpIn_rangeFunc_ownH (F:=Fence.wide) rfl oM (gf:=272) (lb:=#[.pointer (some ⟨w.heap.size+1,0,none⟩),.pointer (some ⟨w.heap.size+2,0,none⟩)]) rfl trivial (enters_of Tryz.func272 kF rfl)
  (kH0 hb1 hb2 hper hn hc hm) (fun h k=>⟨k.1.trans h.1,k.2.trans h.2⟩) hKB (Below.refl _ _) (fun _=>rfl)
  (fun pre W=>yq0 w W0.heap.size b off n per pre W/\Fq w W/\Fr (fun _=>True) W0 W)
  (fun _ _ _=>False)
  (aZ0 ((holdsRow_own w.heap.size w.heap.size 291 33 1 (fun pre:List Nat=>pre.length) (fun pre=>pre.map (chV b off n per)) (fun _ v=>∀ g,some g=v.ownBlock->W0.heap.size<=g)).from _) (aZ0 (dU0 oM) (dU0 (nR _))))
  (fun _ _ _ _ _ h=>h.elim)
  ⟨⟨_,hnx,World.ownsRow_nil _ _ _ _,fun g h=>by simp[Value.ownBlock] at h⟩,hF0,Fr.refl _ _⟩
  (fun x a' W=>a'={ tmps:=#[.slice (some ⟨b,off,none⟩) n c,.int .i64 per,undef,undef,.slice none 0 0,.pointer (some ⟨w.heap.size,0,none⟩),chV b off n per x,.slice (some ⟨b,off,none⟩) n c,.int .i64 per,.func (.func 272) #[] #[.pointer (some ⟨w.heap.size+1,0,none⟩),.pointer (some ⟨w.heap.size+2,0,none⟩)],chV b off n per x,undef,undef,undef,undef,undef],defers:=[] })
  (fun x a'=>aJ0 _ _)
  ?assign ?body ?done ?stop
 case assign =>
  rintro l pre x W K ⟨hI,hF,hFT⟩ hK;have HI:=hi2 hI (aI hF hFT);have HK:=hid hK;clear hI hF hFT hK hnx hb1 hb2;gi_wp2
  refine HK.out _ _ ((KeepsOthers.refl _).from _) ⟨rfl,rfl⟩ HI.out rfl
 case body =>
  rintro l pre x a' W hl ⟨r,hr⟩ ⟨⟨v,hv,hown,hgv⟩,hF,hFT⟩ rfl hlen;have e0:=hv.cell;have e1:=hv.frozen;have l1:=hv.lt;have hsW:=hF.size;have hsW0:=hFT.size;obtain⟨A,E,hcv⟩:∃ A E,chV b off n per x = .slice A E E:=⟨_,_,rfl⟩
  have HV:=hid hv;have HO:=hi2 hown (zu0 hown hgv);clear hv hown hnx hb1 hb2 hgv;rw[hcv];have HCV:=hid hcv;clear hcv;gi_wp2_with (gi_at_builtin;refine wpListIn_append_own _ rfl (.tmp 11) (.tmp 13) 291 rfl W0.heap.size 33 i0 _ 1 24 Tryz.underlying291 hi0 hz0 hz1 hz2 rfl dC _ _ _ rfl (HO.out.2.alloc _) ⟨W.heap.size,0,none⟩ 1 1 [.slice A E E] rfl rfl (cell_one_new _ _ _) (by simp[Value.oneCell']) ?c3 ?c4 ?c5 ?_)
  case c3=>simp[maxLen];omega
  case c4=>omega
  case c5=>simp;omega
  intro v1 w2 hown2 hgrow hnil;obtain⟨g,cap,rfl⟩:=ownsRow_succ hown2;have hgz:W0.heap.size<=g:=by rw[hsz];exact (oBT hown2 (g:=g) rfl).1
  have hkeep:∀ bb,w.heap.size<bb->bb<W0.heap.size->(w2.setCell ⟨w.heap.size,0,none⟩ (.slice (some ⟨g,0,none⟩) (pre.length+1) cap)).heap[bb]?=W.heap[bb]?:=fun bb h1 h2=>by
   rw[ao0 _ _ _ _ sO,hgrow.block bb sO (fun e=>by have:=(oBT HO.out.2 e).1;omega)];exact am0 _ _ _ oM
  obtain⟨d1,d2,d3,d4,d5⟩:=HV.out.appended dC HO.out.1 hsW (nR _) (du0 hown2 oM) hgrow;have f0:=d1.cell;have f1:=d1.frozen;have D2:=hid d2;have D3:=hid d3;clear hown2 hgrow hnil d1 d2 d3;gi_wp2
  refine⟨d4.from _,⟨hkeep _ oM oM,hkeep _ oM oM⟩,⟨_,D2.out,by simpa[HCV.out] using D3.out,fun g' e=>by cases e;exact hgz⟩,?_,⟨d5.os.trans hFT.os,d5.tape.trans hFT.tape,d5.output.trans hFT.output,nT hFT.size d5.size,fun _ _ hn=>absurd trivial hn⟩⟩;exact⟨d5.os.trans hF.os,d5.tape.trans hF.tape,d5.output.trans hF.output,nT hF.size d5.size,fun b hb hn=>(d5.block b hb).trans (hF.block b hb hn)⟩
 case done =>
  rintro D ys W hD rfl ⟨⟨v,hv,hown,-⟩,hF,-⟩ hK;have e0:=hv.cell;have HO:=hid hown;clear hown hv hnx hb1 hb2;gi_wp2
  have hI:=ownsRow_putObj HO.out (.deferred none) hK rfl;refine bH0 (t:=4) rfl hK ⟨v,rfl,by simpa using hI,hF.putObj (fun hh=>oM) _⟩
 case stop=>exact fun _ _ _ _ _ _ h=>h.elim
end
section
open Go.RowKit Go.Sg Go.Sg.Bits Go.Sg.Clk CP SF
def dE0 (y:Cs)(n m:Nat):Prop:=y.fresh n=true/\m=n\/y.fresh n=false/\br0 y.taken y.pages y.hand m
def bi0 (y:Cs)(own:List Nat):Prop:=(∀ k ∈ own,y.fresh (k:Nat)=true)/\∀ k,y.dying k=false
structure kT0 (y:Cs)(rp:Int)(au0:List Rf)(rest:List Nat)(M:Nat)(K:Prop)(c0:Cont)(C:Nat->Option (List Int)):Prop where
 live:Live y (pgs rp au0++rest) M
 right:∀ r ∈ au0,aF0 r
 rr:0<=rp
 cont:∀ (j:Nat) r bs,au0[j]?=some r->C j=some bs->y.cont r.1=some (r.2.toNat,bs)
 calm:K->bi0 y (pgs rp au0++rest)
 keep:∀ k ∈ rest,y.cont k=c0 k
variable {y:Cs}{M N g i j k m n:Nat}{own rest:List Nat}{rp:Int}{K:Prop}{C:Nat->Option (List Int)}{X:Nat->Prop}{W w w':World}{c:Array Value}
theorem dE0.new (h:dE0 y n m)(hL:Live y own M):m=n\/m ∉ own:=by
 rcases h with⟨_,h⟩|⟨_,h⟩
 ·exact .inl h
 ·exact .inr fun hm=>by have:=(hL.tk m hm).1;rw[h.2.1] at this;cases this
theorem dE0.lt (h:dE0 y n m)(hn:n<y.pages):m<y.pages:=by
 rcases h with⟨_,rfl⟩|⟨_,h⟩
 ·exact hn
 ·exact h.1
theorem dE0.cont (h:dE0 y n m)(bs:List Int):(y.put n m bs).cont=fE0 y.cont m (some (y.gen,bs)):=
 uT0 (h.imp id fun h=>h.1)
theorem dT0 (hL:Live y own M)(h:dE0 y n m)(hk:k ∈ own)(hkn:k≠n)(bs:List Int):(y.put n m bs).cont k=y.cont k:=by
 rw[h.cont,ee0];intro e;have e':k=m:=oM
 rcases h.new hL with h|h
 ·omega
 ·exact h (e' ▸ hk)
variable {c0:Cont}{r:Rf}
theorem kT0.mem {au0:List Rf}(h:kT0 y rp au0 rest M K c0 C)(hi:au0[i]?=some r):(pgs rp au0++rest)[i+1]?=some r.1.toNat:=by
 have hl:=(gI.1 hi).1;rw[lh9 (by simp[pgs];omega)];simp[pgs,hi]
theorem kT0.page {au0:List Rf}(h:kT0 y rp au0 rest M K c0 C)(hi:au0[i]?=some r):r.1=(r.1.toNat:Int)/\r.1.toNat<y.pages/\y.taken r.1.toNat=true/\y.dead r.1.toNat=false:=by
 have hm:=gM (h.mem hi);have hr:=h.right r (gM hi);exact⟨by have:=hr.1;omega,h.live.lt _ hm,(h.live.tk _ hm).1,(h.live.tk _ hm).2.2⟩
theorem kT0.zn0 {au0:List Rf}(h:kT0 y rp au0 rest M K c0 C):rp=(rp.toNat:Int)/\rp.toNat<y.pages/\y.taken rp.toNat=true/\y.dead rp.toNat=false:=by
 have hm:rp.toNat ∈ pgs rp au0++rest:=by simp[pgs]
 exact⟨by have:=h.rr;omega,h.live.lt _ hm,(h.live.tk _ hm).1,(h.live.tk _ hm).2.2⟩
theorem cU0 (hm:m<=2147483647)(hg:g<9223372036854775808):aF0 ((m:Int),(g:Int)):=⟨by simp,by simp only;omega,by simp,by simp only;omega⟩
theorem fO0 (h:bi0 y own)(hn:n ∈ own)(hm:dE0 y n m)(bs:List Int):bi0 (y.put n m bs) (own.map (sw n m)):=by
 have hf:=h.1 n hn;rcases hm with⟨_,rfl⟩|⟨h0,_⟩
 ·have e:own.map (sw m m)=own:=by
   have:sw m m=id:=by funext k;simp only[sw,id];split <;> omega
   rw[this,List.map_id]
  rw[e,Cs.put,if_pos hf];exact h
 ·rw[hf] at h0;cases h0
theorem kR0 (h:bi0 y own)(bs:List Int):bi0 (y.new m bs) (own++[m]):=by
 refine⟨fun k hk=>?_,h.2⟩;show ed0 y.fresh m true k=true;rw[kY0];split
 ·rfl
 ·rename_i e;rcases lb9.1 hk with hk|hk
  ·exact h.1 k hk
  ·simp at hk;exact absurd hk e
theorem oo0 {au0:List Rf}(h:kT0 y rp au0 rest M K c0 C)(ap:Apart y.taken y.fresh y.dying y.dead)(hi:au0[i]?=some r)(hm:dE0 y r.1.toNat m)(hpg:y.pages<=2147483647)(hg:y.gen<9223372036854775808)(bs:List Int) :
  kT0 (y.put r.1.toNat m bs) rp (au0.set i ((m:Int),(y.gen:Int))) rest M K c0 (fun j=>if j=i then some bs else C j):=by
 have hmi:=h.mem hi;have hil:=(gI.1 hi).1;have hL:=h.live.put (bs:=bs) ap (gM hmi) hm;have e:(pgs rp au0++rest).map (sw r.1.toNat m)=pgs rp (au0.set i ((m:Int),(y.gen:Int)))++rest:=by
  rw[dK0 h.live.nd hmi,List.set_append_left _ _ (by simp[pgs];omega)];simp[pgs,List.map_set]
 rw[e] at hL;refine⟨hL,fun x hx=>?_,h.rr,fun j x bs' hj hC=>?_,fun hK=>?_,fun k hk=>?_⟩
 ·rcases mm9 hx with hx|rfl
  ·exact h.right x hx
  ·exact cU0 (by have:=hm.lt (h.page hi).2.1;omega) hg
 ·rw[lU9] at hj;by_cases e:i=j
  ·subst e;rw[if_pos rfl,if_pos hil] at hj;cases hj;rw[if_pos rfl] at hC;cases hC;rw[hm.cont];simp[fE0]
  ·rw[if_neg e] at hj;rw[if_neg (fun e'=>e e'.symm)] at hC;have hx:=h.mem hj;have hne:x.1.toNat≠r.1.toNat:=fun he=>by
    rw[he] at hx;have:=(mG9 (gI.1 hx).1 h.live.nd).1 (hx.trans hmi.symm);omega
   have:=dT0 h.live hm (gM hx) hne bs;rw[<- (h.page hj).1] at this;rw[this];exact h.cont j x bs' hj hC
 ·have:=fO0 (h.calm hK) (gM hmi) hm bs;rw[e] at this;exact this
 ·have hkr:k ∈ pgs rp au0++rest:=lu9 _ hk;rw[dT0 h.live hm hkr (fun he=>?_) bs]
  ·exact h.keep k hk
  ·have hd:=(mg9.1 h.live.nd).2.2 r.1.toNat (by simp only[pgs,lA9,ld9];exact .inr ⟨r,gM hi,rfl⟩) k hk;exact hd he.symm
theorem uj0 {au0 : List Rf} (h : kT0 y rp au0 rest M K c0 C) (ap : Apart y.taken y.fresh y.dying y.dead) (hm : br0 y.taken y.pages y.hand m) (hpg : y.pages <= 2147483647) (hg : y.gen < 9223372036854775808) (bs : List Int) :
    kT0 (y.new m bs) rp (au0++[((m:Int),(y.gen:Int))]) rest M K c0 (fun j=>if j=au0.length then some bs else if j<au0.length then C j else none):=by
  have hL:=h.live.new (bs:=bs) ap hm;have hno:m ∉ pgs rp au0++rest:=fun hm'=>by have:=(h.live.tk m hm').1;rw[hm.2.1] at this;cases this
  have e:(pgs rp au0++rest++[m]).Perm (pgs rp (au0++[((m:Int),(y.gen:Int))])++rest):=by
    have e1:pgs rp (au0++[((m:Int),(y.gen:Int))])=pgs rp au0++[m]:=(by simp[pgs]);rw[e1,lm9,lm9];exact List.Perm.append_left _ List.perm_append_comm
  refine⟨hL.perm e,fun x hx=>?_,h.rr,fun j x bs' hj hC=>?_,fun hK=>?_,fun k hk=>?_⟩
  · rcases lb9.1 hx with hx|hx
    · exact h.right x hx
    · simp at hx;subst hx;exact cU0 (by have:=hm.1;omega) hg
  · by_cases e:j=au0.length
    · subst e;rw[if_pos rfl] at hC;cases hC;rw[lk9 (nR _)] at hj;simp at hj;subst hj;simp[Cs.new,fE0]
    · rw[if_neg e] at hC;split at hC
      · rename_i hjl;rw[lh9 hjl] at hj;have hx:=gM (h.mem hj);have hp:=(h.page hj).1;have hne:x.1≠(m:Int):=fun he=>hno (by rw[he] at hx;simpa using hx)
        show fE0 y.cont m (some (y.gen,bs)) x.1=_;rw[ee0 hne];exact h.cont j x bs' hj hC
      · cases hC
  · have h1:=kR0 (m:=m) (h.calm hK) bs;exact⟨fun k hk=>h1.1 k (e.mem_iff.2 hk),h1.2⟩
  · have hkr:k ∈ pgs rp au0++rest:=lu9 _ hk;show fE0 y.cont m (some (y.gen,bs)) k=_
    rw [ee0 (fun he => hno (by have : k = m := by omega
                               rw[<- this];exact hkr))]
    exact h.keep k hk
theorem oi0 {au0:List Rf}(h:kT0 y rp au0 rest M K c0 C)(ap:Apart y.taken y.fresh y.dying y.dead)(hm:dE0 y rp.toNat m)(bs:List Int) :
  kT0 (y.put rp.toNat m bs) m au0 rest M K c0 C/\(y.put rp.toNat m bs).cont m=some (y.gen,bs):=by
 have hmi:(pgs rp au0++rest)[0]?=some rp.toNat:=by simp[pgs]
 have hL:=h.live.put (bs:=bs) ap (gM hmi) hm;rw[dK0 h.live.nd hmi] at hL;have he:(pgs rp au0++rest).set 0 m=pgs m au0++rest:=by simp[pgs]
 refine⟨⟨by rw[<- he];exact hL,h.right,by simp,fun j x bs' hj hC=>?_,fun hK=>?_,fun k hk=>?_⟩,by rw[hm.cont];simp[fE0]⟩;rotate_left
 ·have:=fO0 (h.calm hK) (gM hmi) hm bs;rw[dK0 h.live.nd hmi,he] at this;exact this
 ·have hkr:k ∈ pgs rp au0++rest:=lu9 _ hk;rw[dT0 h.live hm hkr (fun he=>?_) bs]
  ·exact h.keep k hk
  ·have hd:=(mg9.1 h.live.nd).2.2 rp.toNat (by simp[pgs]) k hk;exact hd he.symm
 have hx:=h.mem hj;have hne:x.1.toNat≠rp.toNat:=fun he=>by
  rw[he] at hx;have:=(mG9 (gI.1 hx).1 h.live.nd).1 (hx.trans hmi.symm);omega
 have:=dT0 h.live hm (gM hx) hne bs;rw[<- (h.page hj).1] at this;rw[this];exact h.cont j x bs' hj hC
theorem fC0.au0 {y:Cs}{x:aL0}{au0 slots:List Rf}{rest:List Nat}{M:Nat}{K:Prop}{c0:Cont}(h:fC0 y x au0 slots)(hL:Live y (pgs x.rp au0++rest) M)(hK:K->bi0 y (pgs x.rp au0++rest))(hc:∀ k ∈ rest,y.cont k=c0 k):kT0 y x.rp au0 rest M K c0 (fun j=>some (ae0 (chunk slots x.per j))):=
 ⟨hL,h.leaf.tr,h.rr.1,fun j r bs hj hC=>by cases hC;exact h.leaf.at_ j r hj,hK,hc⟩
abbrev FrX (B:Blk)(X:Nat->Prop)(w w':World):Prop:=Fr (fun b=>(B.base<=b/\vg0 B w b)\/X b) w w'
theorem FrX.refl (B:Blk)(X:Nat->Prop)(w:World):FrX B X w w:=Fr.refl _ _
variable {B:Blk}
theorem FrX.of (h:FrB B w w'):FrX B X w w':=Fr.mono h fun _ _ h=>.inl h
theorem FrX.none (h:Fq w w'):FrX B X w w':=Fr.mono h fun _ _ h=>h.elim
theorem FrX.trans {w1 w2:World}(h:FrX B X w w1)(k:FrX B X w1 w2):FrX B X w w2:=by
 refine Fr.trans h k fun b hb hs=>?_
 rcases Classical.em ((B.base<=b/\vg0 B w b)\/X b) with hm|hm
 ·exact hm
 ·rcases hs with hs|hs
  ·have e:=Fr.block h b hb hm;refine .inl ⟨hs.1,fun c t f hc=>hs.2.1 c t f (e.trans hc),?_⟩;rw[<- e];exact hs.2.2
  ·exact .inr hs
theorem aj0.frX {bd s:Nat}{x:aL0}(h:aj0 w bd s x)(F:FrX B X w w')(hX:¬ X bd):aj0 w' bd s x:=
 Fr.heap F h fun hs=>by
  rcases hs with hs|hs
  ·exact absurd (hs.2.1 _ _ _ h) dC
  ·exact hX hs
variable {l:List Rf}
theorem iG0.frX {a:Option Addr}(h:iG0 w a l)(F:FrX B X w w')(hX:∀ b off,a=some ⟨b,off,none⟩->l≠[]->¬ X b):iG0 w' a l:=
 ⟨h.row.fr F fun b off e _ hne hs=>by
  obtain⟨c,hc⟩:=h.ty b off e hne;rcases hs with hs|hs
  ·exact absurd (hs.2.1 c 35 _ hc) dC
  ·exact hX b off e hne hs,fun b off e hne=>by
  obtain⟨c,hc⟩:=h.ty b off e hne;exact⟨c,Fr.heap F hc fun hs=>by
   rcases hs with hs|hs
   ·exact absurd (hs.2.1 c 35 _ hc) dC
   ·exact hX b off e hne hs⟩⟩
theorem gu0 (l:List Rf):∀ (k:Nat) (p s:Int),k<l.length->(l.set k (p,s)).flatMap dB0=((l.flatMap dB0).set (k*2) (.int .i64 p)).set (k*2+1) (.int .i64 s):=by
 induction l with
 | nil=>intro k p s h;simp at h
 | cons y l ih =>
  intro k p s h;cases k with
  | zero=>simp[dB0]
  | succ k =>
   have e:(k+1)*2=k*2+1+1:=oM
   have h':k<l.length:=by simpa using h
   rw[e];simp only[sS,lj9,dB0,lo9,le9];rw[ih k p s h']
theorem mB0 {base c:Nat}(h:dC0 w base (.slice (some ⟨g,0,none⟩) l.length c) l)(hk:k<l.length)(p s:Int) :
  ((w.setCell ⟨g,k*2,none⟩ (.int .i64 p)).setCell ⟨g,k*2+1,none⟩ (.int .i64 s)).ownsRow base 35 2 (.slice (some ⟨g,0,none⟩) (l.set k (p,s)).length c) (l.set k (p,s)).length ((l.set k (p,s)).flatMap dB0):=by
 obtain⟨hl,⟨h0,h1⟩|⟨g',cap,cur,hv,hb,hg,hc,hm,hs,ht⟩⟩:=h
 ·cases h0
 ·cases hv;refine⟨by rw[ie0],.inr ⟨g,c,(cur.setIfInBounds (k*2) (.int .i64 p)).setIfInBounds (k*2+1) (.int .i64 s),by rw[lx9],hb,?_,by rw[lx9];exact hc,hm,by simpa using hs,?_⟩⟩
  ·rw[hsc _ _ _ _ (hsc _ _ _ _ hg)]
  ·rw[gu0 l k p s hk,lx9,<- ht];simp only[mT9,List.take_set]
theorem ia0 (u v:Value):Fr (fun b=>b=g) W ((W.setCell ⟨g,i,none⟩ u).setCell ⟨g,j,none⟩ v):=
 Fr.setCell (S:=fun b=>b=g) (Fr.setCell (S:=fun b=>b=g) (Fr.refl _ _) (fun _=>rfl) _) (fun _=>rfl) _
theorem kf0 (h:FrX B X w W)(hg:w.heap.size<=g\/X g)(u v:Value):FrX B X w ((W.setCell ⟨g,i,none⟩ u).setCell ⟨g,j,none⟩ v):=by
 have hs:g<w.heap.size->(B.base<=g/\vg0 B w g)\/X g:=fun hl=>by
  rcases hg with h|h
  ·omega
  ·exact .inr h
 exact Fr.setCell (Fr.setCell h hs _) hs _
variable {P:aC0}
theorem sX0 {a:Bool}(h:aw0 W B y P a N)(hg:W.heap[g]?=some (.cells c 35))(h0:0<g)(u v:Value):aw0 ((W.setCell ⟨g,i,none⟩ u).setCell ⟨g,j,none⟩ v) B y P a N:=
 h.frL (ia0 u v) hg dC h0
theorem sY0 (h:aP0 W B y P N)(hg:W.heap[g]?=some (.cells c 35))(u v:Value):aP0 ((W.setCell ⟨g,i,none⟩ u).setCell ⟨g,j,none⟩ v) B y P N:=
 h.frL (ia0 u v) hg dC
theorem pL0 {b off:Nat}(h:iG0 w (some ⟨b,off,none⟩) l)(per k:Nat):iG0 w (some ⟨b,off+k*per*2,none⟩) (chunk l per k):=
 ⟨⟨fun i x hx=>by
   have hi:i<per:=by
    have h1:=(gI.1 hx).1;rw[bk0] at h1;omega
   rw[cP0 hi] at hx;obtain⟨b',off',e,hb,h0,h1⟩:=h.row.at_ _ x hx;cases e;have e1:off+k*per*2+i*2=off+(k*per+i)*2:=by rw[nj9];omega
   exact⟨b,_,rfl,hb,by rw[e1];exact h0,by rw[e1];exact h1⟩⟩,
  fun b' off' e hne=>by
   cases e;exact h.ty b off rfl (by rintro rfl;simp[chunk] at hne)⟩
