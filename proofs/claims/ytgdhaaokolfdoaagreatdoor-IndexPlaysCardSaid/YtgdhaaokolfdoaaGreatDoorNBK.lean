/- A pack of texts. Conditions: those that each names. -/
import Derived.Test.YtgdhaaokolfdoaaGreatDoorNBJ
import Derived.Test.YtgdhaaokolfdoaaGreatDoorNBG
set_option maxHeartbeats 16000000
set_option maxRecDepth 100000
set_option linter.all false
namespace Go.Proofs.YtgdhaaokolfdoaaGreatDoor
open Go.RowKit Go.Sg CP SF
def qw0 (h j:Nat):Bool:=decide (h/2^j % 2=1)
def ofL (h i:Nat):List Value:=(List.range 64).map fun j=>.bool (if j<i then qw0 h j else false)
theorem ek0 (h i:Nat):(ofL h i).length=64:=by simp[ofL]
theorem rR0 (h i j:Nat)(hj:j<64):(ofL h i)[j]?=some (.bool (if j<i then qw0 h j else false)):=by
 simp[ofL,hj]
theorem xu0 (h i:Nat)(hi:i<64):(ofL h i).set i (.bool (qw0 h i))=ofL h (i+1):=by
 apply ms9;intro j;by_cases hj:j<64
 ·rw[lU9];by_cases e:i=j
  ·subst e;simp[ofL,hj]
  ·rw[if_neg e,rR0 _ _ _ hj,rR0 _ _ _ hj];congr 2
   by_cases h1:j<i
   ·rw[if_pos h1,if_pos oM]
   ·rw[if_neg h1,if_neg oM]
 ·rw[mi9 (by rw[lx9,ek0];omega),mi9 (by rw[ek0];omega)]
abbrev AB0:Array Value:=#[Value.bool false,Value.bool false,Value.bool false,Value.bool false,Value.bool false,Value.bool false,Value.bool false,Value.bool false,Value.bool false,Value.bool false,Value.bool false,Value.bool false,Value.bool false,Value.bool false,Value.bool false,Value.bool false,Value.bool false,Value.bool false,Value.bool false,Value.bool false,Value.bool false,Value.bool false,Value.bool false,Value.bool false,Value.bool false,Value.bool false,Value.bool false,Value.bool false,Value.bool false,Value.bool false,Value.bool false,Value.bool false,Value.bool false,Value.bool false,Value.bool false,Value.bool false,Value.bool false,Value.bool false,Value.bool false,Value.bool false,Value.bool false,Value.bool false,Value.bool false,Value.bool false,Value.bool false,Value.bool false,Value.bool false,Value.bool false,Value.bool false,Value.bool false,Value.bool false,Value.bool false,Value.bool false,Value.bool false,Value.bool false,Value.bool false,Value.bool false,Value.bool false,Value.bool false,Value.bool false,Value.bool false,Value.bool false,Value.bool false,Value.bool false]
theorem pU0 (h:Nat):ofL h 0=List.replicate 64 (Value.bool false):=by
 rw[ofL,mX9 (g:=fun _=>Value.bool false) (fun j _=>by rw[if_neg (Nat.not_lt_zero j)]),List.map_const',List.length_range]
theorem ug0 (h:Nat):(#[Value.bool false,Value.bool false,Value.bool false,Value.bool false,Value.bool false,Value.bool false,Value.bool false,Value.bool false,Value.bool false,Value.bool false,Value.bool false,Value.bool false,Value.bool false,Value.bool false,Value.bool false,Value.bool false,Value.bool false,Value.bool false,Value.bool false,Value.bool false,Value.bool false,Value.bool false,Value.bool false,Value.bool false,Value.bool false,Value.bool false,Value.bool false,Value.bool false,Value.bool false,Value.bool false,Value.bool false,Value.bool false,Value.bool false,Value.bool false,Value.bool false,Value.bool false,Value.bool false,Value.bool false,Value.bool false,Value.bool false,Value.bool false,Value.bool false,Value.bool false,Value.bool false,Value.bool false,Value.bool false,Value.bool false,Value.bool false,Value.bool false,Value.bool false,Value.bool false,Value.bool false,Value.bool false,Value.bool false,Value.bool false,Value.bool false,Value.bool false,Value.bool false,Value.bool false,Value.bool false,Value.bool false,Value.bool false,Value.bool false,Value.bool false]:Array Value)=(ofL h 0).toArray:=by rw[pU0];rfl
theorem AV0 (h:Nat)(hh:h<18446744073709551616)(w:World) :
  Calls Tryz.prog 240 #[.int .u64 h] w fun e w'=>e = .returned (.agg (ofL h 64).toArray)/\Fq w w':=by
 go_enter Tryz.func240,Tryz.ntmps240;go_wp2
 rw[ug0 h];go_loopw [0,4] (fun hv s wr=>∃ i q:Nat,i<=64/\hv = .int .u64 q/\q=h/2^i/\s = .int .i64 i/\wr.heap[w.heap.size+1]?=some (.cells (ofL h i).toArray 349)/\wr.heap[w.heap.size]?=some (.cells (ofL h 0).toArray 349)/\Fq w wr) (fun _ s _=>64-(intOf s).toNat)
 case atStart =>
  obtain⟨h0,h1,F⟩:=ai0 (w:=w) (A:=.cells (ofL h 0).toArray 349) (B:=.cells (ofL h 0).toArray 349) rfl;exact⟨0,h,la9 _,rfl,by simp,rfl,h1,h0,F⟩
 case round =>
  obtain⟨i,q,hi,rfl,hq,rfl,h1,h0,hF⟩:=hrel;have HQ:=hid hq;have hq64:q<18446744073709551616:=by rw[hq];exact mN9 (nb9 _ _) hh
  clear hq;by_cases hlt:i<64
  ·have cj:wr.cell? ⟨w.heap.size+1,i,none⟩=some (.bool false):=by
    rw[coh h1];simp[ofL,hlt]
   have zj:=fun o=>foh h1 o
   have hlg:=loh h1;have hid1:decide (i<64)=true:=by simpa using hlt
   have hid2:decide ((i:Int)<64)=true:=by simp;omega
   have hiw:wrap64 ((i:Int)+1)=((i+1:Nat):Int):=by simp only[wrap64];omega
   have H:=hi2 h1 (aI h0 hF);have hbit:qw0 h i=decide (q % 2=1):=by unfold qw0;rw[HQ.out]
   have HBit:=hid hbit;have hq2:h/2^(i+1)=q/2:=by rw[HQ.out,lK9,lX9]
   have HQ2:=hid hq2;clear h1 h0 hF hbit hq2;have hb:((q:Int) % 2 == 1)=qw0 h i:=by
    rw[HBit.out];have e:((q:Int) % 2)=((q % 2:Nat):Int):=sP;rw[e];have:q % 2=0\/q % 2=1:=oM;rcases this with h|h <;> rw[h] <;> rfl
   have HB:=hid hb;clear hb;go_wp2
   go_roundw;case rel =>
    obtain⟨h1,h0,hF⟩:=H.out;refine⟨i+1,q/2,oM,by simp,HQ2.out.symm,by go_num,?_,(ao0 _ _ _ _ sP).trans h0,hF.an0 oM _⟩;rw[hsc _ _ _ _ h1,HB.out,<- xu0 h i hlt];simp
   case measure=>simp[intOf];omega
  ·obtain rfl:i=64:=by omega
   go_upto_region 7 with (fail)
   have hsz:(Tryz.prog.info? 349).map (·.size)=some (ofL h 64).toArray.size:=by rw[zA,ek0];kernel_rfl
   have hsz2:(Tryz.prog.info? 349).map (·.size)=some (ofL h 64).length:=by rw[ek0];kernel_rfl
   have hu:Tryz.prog.underlying 349=some (.array 64 4):=by kernel_rfl
   have ht:wr.there w.heap.size 0 (ofL h 64).toArray.size:=by
    intro j hj;refine⟨?_,foh h0 _⟩;rw[coh h0];rw[zA,ek0] at hj;simp[ofL];omega
   have h1c:(ofL h 64).toArray.all (·.oneCell')=true:=by simp[ofL,Value.oneCell']
   have hr9:(wr.setCells w.heap.size 0 (ofL h 64)).rangeAt w.heap.size 0 (ofL h 64):=World.rangeAt_setCells_same _ _ _ _ (by simpa using ht);have F9:Fq w (wr.setCells w.heap.size 0 (ofL h 64)):=Fr.setCells oM _ _ _ hF;iterate 60 (first|(refine wpList_load_row rF 349 (.tmp 3) rF (w.heap.size+1) rF 349 (ofL h 64).toArray (0,0) (.array 64 4) h1 hu rfl hsz ?_)|(refine wpList_store_mid rF 349 (.tmp 2) (.tmp 16) rF w.heap.size 0 (ofL h 64).toArray rF rF ht hsz h1c ?_)|go_step|skip)
   exact bodyPost_ret (v:=.agg (ofL h 64).toArray) (cv0 rfl _ _ w.heap.size (ofL h 64) _ rfl hr9 hu rfl hsz2) rfl ⟨rfl,F9⟩
theorem uW0 (h i:Nat)(hi:i<30):2*(h/2^(64-i))+(if qw0 h (63-i)=true then 1 else 0)=h/2^(64-(i+1)):=by
 have e1:64-(i+1)=63-i:=oM
 have e2:64-i=(63-i)+1:=oM
 rw[e1,e2,lK9,<- lX9];unfold qw0;generalize h/2^(63-i)=z;by_cases hz:z % 2=1
 ·rw[if_pos (by simpa using hz)];omega
 ·rw[if_neg (by simpa using hz)];omega
theorem sg0 (h bits:Nat)(hh:h<18446744073709551616)(hb:bits<=30)(w:World) :
  Calls Tryz.prog 189 #[.int .u64 h,.int .i64 bits] w fun e w'=>e = .returned (.int .i64 (aY0 h bits))/\Fq w w':=by
 by_cases h0:bits<1
 ·have hp:aY0 h bits=0:=by unfold aY0;rw[if_pos (.inl h0)]
  have hd:decide ((bits:Int)<1)=true:=by simp;omega
  rw[hp];clear hp;go_enter Tryz.func189,Tryz.ntmps189;go_wp2
  go_ret;exact⟨rfl,Fr.refl _ _⟩
 ·have hp:aY0 h bits=h/2^(64-bits):=by unfold aY0;rw[if_neg oM]
  have hd1:decide ((bits:Int)<1)=false:=by simp;omega
  have hd2:decide ((30:Int)<(bits:Int))=false:=by simp;omega
  rw[hp];obtain⟨tab,htab⟩:∃ tab:Array Value,(ofL h 64).toArray=tab:=⟨_,rfl⟩
  have hOf:=AV0 h hh w;rw[htab] at hOf;have hsz:(Tryz.prog.info? 349).map (·.size)=some tab.size:=by rw[<- htab,zA,ek0];kernel_rfl
  have h1c:tab.all (·.oneCell')=true:=by rw[<- htab];simp[ofL,Value.oneCell']
  have hts:tab.size=64:=by rw[<- htab,zA,ek0]
  have htg:∀ i,i<64->tab[i]?=some (.bool (qw0 h i)):=fun i hi=>by rw[<- htab];simp[ofL,hi]
  have HOf:=hid hOf;have HTG:=hid htg;have HTS:=hid hts;clear hp htab hOf htg hts;go_enter Tryz.func189,Tryz.ntmps189;go_wp2_with fail
  refine HOf.out.mono ?_;rintro e w1 ⟨rfl,F1⟩;obtain⟨w2,hw2⟩:=eX (w1.alloc (.cells AB0 349))
  have h2:w2.heap[w1.heap.size]?=some (.cells AB0 349):=by rw[<- hw2];exact han _ _
  have F2:Fq w1 w2:=by rw[<- hw2];exact (Fr.refl _ _).alloc _
  have ht:w2.there w1.heap.size 0 tab.size:=by
   intro j hj;refine⟨?_,foh h2 _⟩;rw[coh h2,lp9,mU9 (by rw[HTS.out] at hj;exact hj)];rfl
  have HTH:=hid ht;have HW2:=hid hw2;have H2:=hi2 h2 F2;clear ht hw2 h2 F2;dsimp only;iterate 12 (first|(rw[HW2.out])|(refine wpList_store_mid rF 349 (.tmp 5) (.tmp 15) rF w1.heap.size 0 tab rF rF HTH.out hsz h1c ?_)|go_step|go_upon|skip)
  obtain⟨w3,hw3⟩:=eX (w2.setCells w1.heap.size 0 tab.toList)
  rw[hw3];have hr3:w3.rangeAt w1.heap.size 0 tab.toList:=by rw[<- hw3];exact World.rangeAt_setCells_same w2 w1.heap.size 0 tab.toList (by simpa using HTH.out)
  have hc3:∀ i,i<64->w3.cell? ⟨w1.heap.size,i,none⟩=some (.bool (qw0 h i)):=fun i hi=>by
   have:=hr3 i (.bool (qw0 h i)) (by simpa using HTG.out i hi);rwa [lp9] at this
  have F3:Fq w w3:=by
   rw[<- hw3];exact Fr.setCells F1.size _ _ _ (F1.trans H2.out.2 nI)
  have hl3:w1.heap.size<w3.heap.size:=World.block_lt_of_cell? _ _ (hc3 0 oM);have HC:=hi2 hc3 (aI F3 hl3);clear hw3 hr3 hc3 F3 H2 HW2 HTH hsz h1c F1 HOf HTG HTS;obtain⟨ba,hba⟩:=eX w1.heap.size
  rw[hba] at HC hl3 ⊢;clear hba;go_wp2_with fail
  go_loopw [6,7] (fun nv iv wr=>∃ i q:Nat,i<=bits/\iv = .int .i64 i/\nv = .int .i64 q/\q=h/2^(64-i)/\wr=w3) (fun _ iv _=>bits-(intOf iv).toNat)
  case atStart=>exact⟨0,0,la9 _,rfl,rfl,by rw[Nat.sub_zero,mu9 (by simpa using hh)],rfl⟩
  case round =>
   obtain⟨i,q,hi,rfl,rfl,hq,rfl⟩:=hrel;have HQ:=hid hq;clear hq;by_cases hlt:i<bits
   ·have hdi:decide ((i:Int)<(bits:Int))=true:=sO;have hii:(i:Int)<(bits:Int):=oM;have hiw:wrap64 ((i:Int)+1)=((i+1:Nat):Int):=(by simp only[wrap64];omega);have hsub:wrap64 (63-(i:Int))=((63-i:Nat):Int):=(by simp only[wrap64];omega);have hsl:((63-i:Nat):Int)<64:=oM;have hq30:q<1073741824:=by
     rw[HQ.out];have h34:2^34<=2^(64-i):=lc9 dC oM;exact (Nat.div_lt_iff_lt_mul (lW9 dC)).2 (nLL (show h<1073741824*2^34 by simpa using hh) (Nat.mul_le_mul_left _ h34))
    have hst:=uW0 h i oM;rw[<- HQ.out] at hst;have cb:=HC.out.1 (63-i) oM;obtain⟨bb,hbb⟩:=eX (qw0 h (63-i))
    rw[hbb] at cb hst;have HSt:=hid hst;clear hst hbb;cases bb with
    | true =>
     go_wp2_with fail
     go_roundw;case rel=>exact⟨i+1,2*q+1,hlt,by go_num,by go_num,by have:=HSt.out;simpa using this,trivial⟩
     case measure=>simp[intOf];omega
    | false =>
     go_wp2_with fail
     go_roundw;case rel=>exact⟨i+1,2*q,hlt,by go_num,by go_num,by have:=HSt.out;simpa using this,trivial⟩
     case measure=>simp[intOf];omega
   ·obtain rfl:i=bits:=by omega
    have hii:¬ (i:Int)<(i:Int):=oM;go_wp2_with fail
    go_ret;refine⟨?_,HC.out.2.1⟩;rw[show ((h:Int)/2^(64-i))=((h/2^(64-i):Nat):Int) by simp,<- HQ.out];rfl
def bX0 (d q:Nat)(x:Bt):Bool:=decide (aY0 x.hash (d+1)=q)
theorem el0 (a b:Nat):((a:Int) == (b:Int))=decide (a=b):=by
 by_cases h:a=b
 ·subst h;simp
 ·have:¬ (a:Int)=(b:Int):=by omega
  simp[h,this]
def SpI (w1:World)(b5:Nat)(d q:Nat)(fs:List Bt)(wr:World):Prop:=
 ∃ a c,wr.heap[b5]?=some (.cells #[.int .i64 ((d:Int)+1),.int .i64 (q:Int),.slice a fs.length c] 220)/\cF0 wr w1.heap.size (.slice a fs.length c) fs/\Fr (fun b=>b=b5) w1 wr
variable {w:World}{es:List Bt}
theorem zh0 {w1 wr W':World}{z d q k m:Nat}{a:Option Addr}{c:Nat}{c4:Array Value}(hs:w1.heap.size=z+3)(hF:Fr (fun b=>b=z+2) w1 wr)(h4:w1.heap[z+1]?=some (.cells c4 220))(hz:w.heap.size=z)(hw:Fq w w1)(hO:cF0 wr w1.heap.size (.slice a ((es.take k).filter (bX0 d q)).length c) ((es.take k).filter (bX0 d q)))(hm:((es.take k).filter (bX0 d q)).length=m)(htk:es.take k=es)
  (h5:wr.heap[z+1+1]?=some (.cells #[.int .i64 ((d:Int)+1),.int .i64 (q:Int),.slice a m c] 220)) (hW:((wr.setCell ⟨z+1,0,none⟩ (.int .i64 ((d:Int)+1))).setCell ⟨z+1,1,none⟩ (.int .i64 (q:Int))).setCell ⟨z+1,2,none⟩ (.slice a m c)=W') :
  RbP ((d:Int)+1) q (es.filter (bX0 d q)) w (.returned (rbV ((d:Int)+1) q (.slice a m c))) W':=by
 subst hm;rw[htk] at hO hW ⊢;have F:Fr (fun b=>b=z+1) wr W':=by
  rw[<- hW];with_reducible (repeat (first|exact Fr.refl _ _|refine Fr.setCell ?_ (fun _=>by simp) _))
 refine⟨a,c,rfl,oRf (ac0 hO oM) F (fun g c' hg e=>?_),(hw.trans hF (fun b hb e=>oM)).trans F (fun b hb e=>oM)⟩;rw[e,hF.heap h4 oM] at hg;cases hg
theorem lU0 {v:Value}(hE:cF0 w 0 v es)(hl:es.length<=65535)(d p bit:Nat)(hd:d<=20)(hp:p<=65535)(hbit:bit<=1)(hh:∀ x ∈ es,x.hash<18446744073709551616) :
  Calls Tryz.prog 211 #[rbV d p v,.int .i64 bit] w (RbP ((d:Int)+1) ((2*p+bit:Nat):Int) (es.filter (bX0 d (2*p+bit))) w):=by
 obtain⟨va,vc,rfl,-,-,-,-⟩:=oSl hE;obtain⟨n,hn⟩:=eX es.length
 obtain⟨q,hq⟩:=eX (2*p+bit)
 obtain⟨w1,hw1⟩:=eX (((w.alloc (.cells #[.int .i64 d,.int .i64 p,.slice va n vc] 220)).alloc (.cells #[.int .i64 0,.int .i64 0,.slice none 0 0] 220)).alloc (.cells #[.int .i64 ((d:Int)+1),.int .i64 (q:Int),.slice none 0 0] 220))
 obtain⟨b0,b4,b5,F1⟩:=aO0 hw1;obtain⟨z,hz⟩:=eX w.heap.size
 rw[hz] at b0 b4 b5;have hE1:=oN hE F1;have hs1:w1.heap.size=z+3:=by rw[<- hw1,<- hz];simp
 rw[hn] at hE1 hl ⊢;rw[hq];have hd1:wrap64 ((d:Int)+1)=(d:Int)+1:=by simp only[wrap64];omega
 have hd2:IntKind.i64.wrap ((d:Int)+1)=(d:Int)+1:=by rw[IntKind.wrap_i64];omega
 have hq1:wrap64 (2*(p:Int))=2*(p:Int):=by simp only[wrap64];omega
 have hq2:wrap64 (2*(p:Int)+(bit:Int))=(q:Int):=by simp only[wrap64];omega
 have HE:=hid hE1;have HN:=hid hn;have HF:=hid F1;have HW:=hid hw1;have HS:=hid hs1;have HB:=hi2 b0 (aI b4 b5);have HZ:=hid hz;have HH:=hid hh;have HQ:=hid hq;obtain⟨i0,hi0,hz0,hz1,hz2⟩:=info_parts Tryz.jD0;have HInf:=hi2 hi0 (aI hz0 (aI hz1 hz2));clear hE hE1 hn F1 hw1 b0 b4 b5 hs1 hh hq hi0 hz0 hz1 hz2 hp hbit;go_enter Tryz.func211,Tryz.ntmps211;go_upto_region 2 with fail
 try simp only[hq1,hq2]
 rw[HW.out];try simp only[HZ.out]
 go_wp2_with fail
 go_loopw [6] (fun i wr=>∃ k:Nat,k<=n/\i = .int .i64 k/\SpI w1 (z+2) d q ((es.take k).filter (bX0 d q)) wr) (fun i _=>n-(intOf i).toNat)
 case atStart=>exact⟨0,la9 _,rfl,none,0,HB.out.2.2,World.ownsRow_nil _ _ _ _,Fr.refl _ _⟩
 case round =>
  obtain⟨k,hk,rfl,a,c,h5,hO,hF⟩:=hrel;have n05:¬ z=z+2:=oM
  have n45:¬ z+1=z+2:=oM
  obtain⟨x0,x1,x2,xz,xl⟩:=cells3 (hF.heap HB.out.1 n05);obtain⟨y0,y1,y2,yz,yl⟩:=cells3 h5;have hrow:=oRf HE.out hF (fun g c' hg e=>by rw[e,HB.out.2.2] at hg;cases hg);have HI:=hi2 h5 (aI hO hF);by_cases hlt:k<n
  ·have hdk:decide ((k:Int)<(n:Int))=true:=by simp;omega
   have hki:(k:Int)<(n:Int):=oM
   have hkw:wrap64 ((k:Int)+1)=((k+1:Nat):Int):=bM0 oM;obtain⟨x,hx⟩:∃ x,es[k]?=some x:=⟨_,gE (by rw[HN.out];exact hlt)⟩
   obtain⟨g,rfl,hg,c0,c1,c2,c3⟩:=cw0 hrow hx;have HST:=hid (gC0 hx (bX0 d q));have HPr:=hid (fun V=>(show Calls Tryz.prog 189 #[.int .u64 x.hash,.int .i64 ((d:Int)+1)] V fun e w'=>e = .returned (.int .i64 (aY0 x.hash (d+1)))/\Fq V w' from by
    have:=sg0 x.hash (d+1) (HH.out x (gM hx)) oM V;rw[show ((d+1:Nat):Int)=(d:Int)+1 from by push_cast;rfl] at this;exact this))
   have hF0:=hF;have HXc:=hid (fun (V1 V:World) (F:Fq wr V1) (h:V.heap[g]?=V1.heap[g]?)=>aI ((World.cell?_of_block (a:=⟨g,k*4+1,none⟩) h).trans ((F.cell (p:=⟨g,k*4+1,none⟩) hg id).trans c1)) (aI ((World.cell?_of_block (a:=⟨g,k*4+2,none⟩) h).trans ((F.cell (p:=⟨g,k*4+2,none⟩) hg id).trans c2)) ((World.cell?_of_block (a:=⟨g,k*4+3,none⟩) h).trans ((F.cell (p:=⟨g,k*4+3,none⟩) hg id).trans c3))));clear h5 hO hF hx hrow;have HC:=hid (fun V (F:Fq wr V)=>aI (cells3 (F.heap (hF0.heap HB.out.1 n05) id)) (aI (cells3 (F.heap HI.out.1 id)) (aI ((F.cell (p:=⟨g,k*4,none⟩) hg id).trans c0) (nLL hg F.size))));have FD:=(Fr.refl (fun _=>False) wr).drew;go_upto_region 5 with fail
   clear x0 x1 x2 y0 y1 y2 c0 c1 c2 c3 hF0;refine wp_region_noPanic ?_;refine aq0 (fun V=>Fq wr V) (.rd 0 (.rd 1 (.rd 2 (.rd 3 (.rd 4 (.rd 5 (.rd 6 (.rd 7 (.rd 8 (.rd 10 (.rd 11 (.op 9 (.rd 12 .done))))))))))))) kF kF kF (fun _ _ _ _ _ h=>h) FD ?_;iterate 11
    try simp only[Act.put,sI,sZ,sS]
    refine ay0 _ ?_ gF rF ?_ ?_;rotate_left
    ·intro V hV;obtain⟨⟨x0,x1,x2,xz,xl⟩,⟨y0,y1,y2,yz,yl⟩,e0,eg⟩:=HC.out V hV;go_simp;try with_reducible rfl
   try simp only[Act.put,sI,sZ,sS]
   refine az0 _ gF rF (fun K hK=>?_);go_simp
   (with_reducible refine (HPr.out _).mono ?_)
   rintro _ V1 ⟨rfl,G1⟩;have F1:=FD.trans G1 nI;refine hK _ _ F1 ?_;clear hK K;try simp only[Act.put,sI,sZ,sS]
   refine ay0 _ ?_ gF rF ?_ ?_;rotate_left
   ·intro V hV;go_simp;try with_reducible rfl
   refine ar0 ?_;refine NoPanic.normal ?_;try simp only[Act.put,sI,sZ,sS]
   have HV1:=hid F1;have HKW:=hid hkw;clear hkw hd1 hd2 hq1 hq2;have HO1:=hid (oN HI.out.2.1 F1);have H5:=hid (show V1.heap[z+1+1]?=some (.cells #[.int .i64 ((d:Int)+1),.int .i64 (q:Int),.slice a ((es.take k).filter (bX0 d q)).length c] 220) from F1.heap HI.out.1 id);obtain⟨m,hm⟩:=eX (((es.take k).filter (bX0 d q)).length)
   have hm5:m<=65535:=by rw[<- hm];exact nT (lD9 _ _) (by rw[lT];omega)
   have HM:=hid hm;have HO2:=hid (show V1.ownsRow w1.heap.size 110 4 (.slice a m c) m (((es.take k).filter (bX0 d q)).flatMap btC) by have:=HO1.out;unfold cF0 at this;rw[hm] at this;exact this);rw[hm] at H5;have HG:=hid (show w1.heap.size<=V1.heap.size from nT HI.out.2.2.size F1.size);clear hm G1;cases hfx:bX0 d q x with
   | false =>
    have heb:(((aY0 x.hash (d+1):Nat):Int) == ((q:Nat):Int))=false:=(by rw[el0];exact hfx);have HFX:=hid hfx;have HQ4:=hid (show SpI w1 (z+2) d q ((es.take (k+1)).filter (bX0 d q)) V1 by
     rw[HST.out,if_neg (by rw[hfx];decide)];exact⟨a,c,F1.heap HI.out.1 id,HO1.out,HI.out.2.2.trans F1 nE⟩)
    clear hfx F1 FD;have hkw:=HKW.out;go_wp2_with fail
    go_roundw;case rel=>exact⟨k+1,hlt,by go_num,HQ4.out⟩
    case measure=>simp[intOf];omega
   | true =>
    have heb:(((aY0 x.hash (d+1):Nat):Int) == ((q:Nat):Int))=true:=(by rw[el0];exact hfx);have HFX:=hid hfx;obtain⟨⟨x0,x1,x2,xz,xl⟩,⟨y0,y1,y2,yz,yl⟩,e0,eg⟩:=HC.out V1 F1;have hz1':V1.heap[z]?=some (.cells #[.int .i64 d,.int .i64 p,.slice (some ⟨g,0,none⟩) n vc] 220):=F1.heap (HI.out.2.2.heap HB.out.1 n05) id;obtain⟨g',eg',hgl',hrow'⟩:∃ g',(some (⟨g,0,none⟩:Addr))=some ⟨g',0,none⟩/\g'<w1.heap.size/\True:=⟨g,rfl,by
     obtain⟨_,_,e1,-,-,-,e2⟩:=oSl HE.out;injection e1 with e1 _ _
     obtain⟨g2,e3,e4⟩:=e2 _ e1.symm;cases e3;exact e4,trivial⟩
    cases eg';obtain⟨cg,hcg⟩:∃ cg,w1.heap[g]?=some (.cells cg 110):=by
     obtain⟨_,⟨h1,_⟩|⟨g2,cap2,cur2,h1,_,h3,_⟩⟩:=HE.out
     ·cases h1
     ·cases h1;exact⟨cur2,h3⟩
    have hg1:V1.heap[g]?=some (.cells cg 110):=F1.heap (HI.out.2.2.heap hcg (fun e=>by rw[e,HB.out.2.2] at hcg;cases hcg)) id;have HZ0:=hi2 hz1' hg1;have HGN:=hid (show g≠z+1+1 from fun e=>by rw[e,HB.out.2.2] at hcg;cases hcg);have HG2:=hid hgl';have HS3:=HS;have HSV:=hid (fun V (F:Fq V1 V)=>aI (F.heap hz1' id) (F.heap hg1 id));have HXC:=hid (fun V (h:V.heap[g]?=some (.cells cg 110))=>aI ((World.cell?_of_block (a:=⟨g,k*4,none⟩) (h.trans hg1.symm)).trans e0) (aI (HXc.out V1 V F1 (h.trans hg1.symm)) (loh h)));obtain⟨hi0,hz0,hz1,hz2⟩:=HInf.out;clear hfx hz1' hcg hg1 hgl' hrow' e0 eg;go_upto_region 6 with fail
    clear x0 x1 x2 y0 y1 y2 xz xl yz yl;refine wp_region_noPanic ?_;refine aq0 (fun V=>V.heap[z]?=some (.cells #[.int .i64 d,.int .i64 p,.slice (some ⟨g,0,none⟩) n vc] 220)/\V.heap[g]?=some (.cells cg 110)) (.rd 0 (.rd 2 (.rd 3 (.rd 4 (.rd 5 (.rd 6 (.two 1 7 (.op 7 (.op 8 (.rd 9 (.op 10 .done)))) (.op 1 (.op 8 (.rd 9 (.op 10 .done))))))))))) kF kF kF (fun _ _ _ _ _ h=>h) (HSV.out _ (Fr.refl _ _).drew) ?_;iterate 6
     try simp only[Act.put,sI,sZ,sS]
     refine ay0 _ ?_ gF rF ?_ ?_;rotate_left
     ·intro V hV;obtain⟨x0,x1,x2,xz,xl⟩:=cells3 hV.1;obtain⟨e0,⟨e1,e2,e3⟩,eg⟩:=HXC.out V hV.2;go_simp;try with_reducible rfl
    refine bn0 ?_ ?_
    ·have FD1:=(Fr.refl (fun _=>False) V1).drew;try simp only[Act.put,sI,sZ,sS]
     refine az0 _ gF rF (fun K hK=>?_);obtain⟨y0,y1,y2,yz,yl⟩:=cells3 (FD1.heap H5.out id);go_simp;refine hK _ _ (HSV.out _ FD1) ?_;clear hK K y0 y1 y2 yz yl;try simp only[Act.put,sI,sZ,sS]
     refine az0 _ gF rF (fun K hK=>?_);go_simp;have hn5:=han V1 (.cells #[.int .u64 x.hash,.int .i64 x.rg,.int .i64 x.at_,.int .i64 x.sz] 110);have FV:=((Fr.refl (fun _=>False) V1).alloc (.cells #[.int .u64 x.hash,.int .i64 x.rg,.int .i64 x.at_,.int .i64 x.sz] 110)).drew;obtain⟨V2,hV2⟩:=eX ((V1.alloc (.cells #[.int .u64 x.hash,.int .i64 x.rg,.int .i64 x.at_,.int .i64 x.sz] 110)).drew)
     replace hn5:V2.heap[V1.heap.size]?=some (.cells #[.int .u64 x.hash,.int .i64 x.rg,.int .i64 x.at_,.int .i64 x.sz] 110):=by rw[<- hV2];exact hn5
     rw[hV2] at FV ⊢;refine hK _ _ (HSV.out _ FV) ?_;clear hK K;try simp only[Act.put,sI,sZ,sS]
     refine az0 _ gF rF (fun K hK=>?_);refine cy0 rfl (.tmp 37) (.tmp 43) 218 rfl w1.heap.size 110 i0 _ 4 32 Tryz.underlying218 hi0 hz0 hz1 hz2 rfl dC (.slice a m c) m _ rfl (oN HO2.out FV) ⟨V1.heap.size,0,none⟩ 1 1 (btC x) rfl (World.news_of_block hn5) rfl (by simp[Value.oneCell']) (by simp only[maxLen];omega) oM (by have:=FV.size;have:=HG.out;omega) ?_;intro v3 V3 hown3 hg3 hv3;obtain⟨a3,c3,rfl,-,-,-,-⟩:=oSl hown3;have FV3:Fr (fun b=>(Value.slice a m c).ownBlock=some b) V1 V3:=(FV.mono nE).trans (cr0 hg3) nI;have h53:=FV3.heap H5.out (fun e=>by obtain⟨-,c',hc'⟩:=aB0 HO2.out e;rw[H5.out] at hc';cases hc');refine hK _ _ ⟨FV3.heap HZ0.out.1 (fun e=>by obtain⟨-,c',hc'⟩:=aB0 HO2.out e;rw[HZ0.out.1] at hc';cases hc'),FV3.heap HZ0.out.2 (fun e=>by have:=(aB0 HO2.out e).1;have:=HG2.out;omega)⟩ ?_;clear hK K;try simp only[Act.put,sI,sZ,sS]
     refine ay0 _ ?_ gF rF ?_ ?_;rotate_left
     ·intro V hV;go_simp;try with_reducible rfl
     try simp only[Act.put,sI,sZ,sS]
     refine az0 _ gF rF (fun K hK=>?_);obtain⟨y0,y1,y2,yz,yl⟩:=cells3 h53;go_simp;obtain⟨V4,hV4⟩:=eX (V3.setCell ⟨z+1+1,2,none⟩ (.slice a3 (m+1) c3))
     rw[hV4];have F34:Fr (fun b=>b=z+1+1) V3 V4:=(by rw[<- hV4];exact eC0 _ _ _ _);have h54:V4.heap[z+1+1]?=some (.cells #[.int .i64 ((d:Int)+1),.int .i64 (q:Int),.slice a3 (m+1) c3] 220):=(by rw[<- hV4,hsc _ _ _ _ h53];rfl);refine hK _ _ ⟨F34.heap (FV3.heap HZ0.out.1 (fun e=>by obtain⟨-,c',hc'⟩:=aB0 HO2.out e;rw[HZ0.out.1] at hc';cases hc')) oM,F34.heap (FV3.heap HZ0.out.2 (fun e=>by have:=(aB0 HO2.out e).1;have:=HG2.out;omega)) (by have:=HG2.out;have:=HS3.out;have:=HGN.out;omega)⟩ ?_;clear hK K;refine ar0 ?_;refine NoPanic.normal ?_;try simp only[Act.put,sI,sZ,sS]
     have hq4:SpI w1 (z+2) d q ((es.take (k+1)).filter (bX0 d q)) V4:=by
      rw[HST.out,if_pos HFX.out];refine⟨a3,c3,by rw[lA,HM.out];exact h54,?_,HI.out.2.2.trans ((HV1.out.mono nE).trans ((FV3.mono (fun b _ e=>.inr e)).trans F34 (S:=fun b=>b=z+1+1\/(Value.slice a m c).ownBlock=some b) (fun _ _ h=>.inl h)) nI) (fun b hb e=>?_)⟩
      ·unfold cF0;rw[lA,li9,HM.out];refine oRf ?_ F34 (fun g' c' hg' e=>by rw[e,h53] at hg';cases hg');simpa using hown3
      ·rcases e with e|e
       ·exact e
       ·have:=(aB0 HO2.out e).1;omega
     have HQ4:=hid hq4;clear hq4 hown3 hg3 hv3 FV3 h53 F34 h54 hV4 hV2 hn5 FV FD1 F1 FD heb;rename_i hcond;clear hcond y0 y1 y2 yz yl hi0 hz0 hz1 hz2 hm5 xz xl hg;have hkw:=HKW.out;go_wp2_with fail
     go_roundw;case rel=>exact⟨k+1,hlt,by go_num,HQ4.out⟩
     case measure=>simp[intOf];omega
    ·have FD1:=(Fr.refl (fun _=>False) V1).drew;try simp only[Act.put,sI,sZ,sS]
     refine az0 _ gF rF (fun K hK=>?_);go_simp;have hn5:=han V1 (.cells #[.int .u64 x.hash,.int .i64 x.rg,.int .i64 x.at_,.int .i64 x.sz] 110);have FV:=((Fr.refl (fun _=>False) V1).alloc (.cells #[.int .u64 x.hash,.int .i64 x.rg,.int .i64 x.at_,.int .i64 x.sz] 110)).drew;obtain⟨V2,hV2⟩:=eX ((V1.alloc (.cells #[.int .u64 x.hash,.int .i64 x.rg,.int .i64 x.at_,.int .i64 x.sz] 110)).drew)
     replace hn5:V2.heap[V1.heap.size]?=some (.cells #[.int .u64 x.hash,.int .i64 x.rg,.int .i64 x.at_,.int .i64 x.sz] 110):=by rw[<- hV2];exact hn5
     rw[hV2] at FV ⊢;refine hK _ _ (HSV.out _ FV) ?_;clear hK K;try simp only[Act.put,sI,sZ,sS]
     refine az0 _ gF rF (fun K hK=>?_);obtain⟨y0,y1,y2,yz,yl⟩:=cells3 (FV.heap H5.out id);go_simp;refine hK _ _ (HSV.out _ FV) ?_;clear hK K y0 y1 y2 yz yl;try simp only[Act.put,sI,sZ,sS]
     refine az0 _ gF rF (fun K hK=>?_);refine cy0 rfl (.tmp 37) (.tmp 43) 218 rfl w1.heap.size 110 i0 _ 4 32 Tryz.underlying218 hi0 hz0 hz1 hz2 rfl dC (.slice a m c) m _ rfl (oN HO2.out FV) ⟨V1.heap.size,0,none⟩ 1 1 (btC x) rfl (World.news_of_block hn5) rfl (by simp[Value.oneCell']) (by simp only[maxLen];omega) oM (by have:=FV.size;have:=HG.out;omega) ?_;intro v3 V3 hown3 hg3 hv3;obtain⟨a3,c3,rfl,-,-,-,-⟩:=oSl hown3;have FV3:Fr (fun b=>(Value.slice a m c).ownBlock=some b) V1 V3:=(FV.mono nE).trans (cr0 hg3) nI;have h53:=FV3.heap H5.out (fun e=>by obtain⟨-,c',hc'⟩:=aB0 HO2.out e;rw[H5.out] at hc';cases hc');refine hK _ _ ⟨FV3.heap HZ0.out.1 (fun e=>by obtain⟨-,c',hc'⟩:=aB0 HO2.out e;rw[HZ0.out.1] at hc';cases hc'),FV3.heap HZ0.out.2 (fun e=>by have:=(aB0 HO2.out e).1;have:=HG2.out;omega)⟩ ?_;clear hK K;try simp only[Act.put,sI,sZ,sS]
     refine ay0 _ ?_ gF rF ?_ ?_;rotate_left
     ·intro V hV;go_simp;try with_reducible rfl
     try simp only[Act.put,sI,sZ,sS]
     refine az0 _ gF rF (fun K hK=>?_);obtain⟨y0,y1,y2,yz,yl⟩:=cells3 h53;go_simp;obtain⟨V4,hV4⟩:=eX (V3.setCell ⟨z+1+1,2,none⟩ (.slice a3 (m+1) c3))
     rw[hV4];have F34:Fr (fun b=>b=z+1+1) V3 V4:=(by rw[<- hV4];exact eC0 _ _ _ _);have h54:V4.heap[z+1+1]?=some (.cells #[.int .i64 ((d:Int)+1),.int .i64 (q:Int),.slice a3 (m+1) c3] 220):=(by rw[<- hV4,hsc _ _ _ _ h53];rfl);refine hK _ _ ⟨F34.heap (FV3.heap HZ0.out.1 (fun e=>by obtain⟨-,c',hc'⟩:=aB0 HO2.out e;rw[HZ0.out.1] at hc';cases hc')) oM,F34.heap (FV3.heap HZ0.out.2 (fun e=>by have:=(aB0 HO2.out e).1;have:=HG2.out;omega)) (by have:=HG2.out;have:=HS3.out;have:=HGN.out;omega)⟩ ?_;clear hK K;refine ar0 ?_;refine NoPanic.normal ?_;try simp only[Act.put,sI,sZ,sS]
     have hq4:SpI w1 (z+2) d q ((es.take (k+1)).filter (bX0 d q)) V4:=by
      rw[HST.out,if_pos HFX.out];refine⟨a3,c3,by rw[lA,HM.out];exact h54,?_,HI.out.2.2.trans ((HV1.out.mono nE).trans ((FV3.mono (fun b _ e=>.inr e)).trans F34 (S:=fun b=>b=z+1+1\/(Value.slice a m c).ownBlock=some b) (fun _ _ h=>.inl h)) nI) (fun b hb e=>?_)⟩
      ·unfold cF0;rw[lA,li9,HM.out];refine oRf ?_ F34 (fun g' c' hg' e=>by rw[e,h53] at hg';cases hg');simpa using hown3
      ·rcases e with e|e
       ·exact e
       ·have:=(aB0 HO2.out e).1;omega
     have HQ4:=hid hq4;clear hq4 hown3 hg3 hv3 FV3 h53 F34 h54 hV4 hV2 hn5 FV FD1 F1 FD heb;rename_i hcond;clear hcond y0 y1 y2 yz yl hi0 hz0 hz1 hz2 hm5 xz xl hg;have hkw:=HKW.out;go_wp2_with fail
     go_roundw;case rel=>exact⟨k+1,hlt,by go_num,HQ4.out⟩
     case measure=>simp[intOf];omega
  ·obtain rfl:k=n:=by omega
   have hdk:decide ((k:Int)<(k:Int))=false:=by simp
   have htk:es.take k=es:=tL (by rw[HN.out];exact nR _);obtain⟨u0,u1,u2,uz,ul⟩:=cells3 (hF.heap HB.out.2.1 n45);have hne:¬ z+1=z+1+1:=oM
   have hne':¬ z+1+1=z+1:=oM
   have hm:=HN.out;obtain⟨m,hm⟩:=eX ((es.filter (bX0 d q)).length)
   have h5':wr.heap[z+1+1]?=some (.cells #[.int .i64 ((d:Int)+1),.int .i64 (q:Int),.slice a m c] 220):=by have:=HI.out.1;rw[htk,hm] at this;exact this
   have HR:=hid (fun W' hW'=>zh0 (W':=W') HS.out hF HB.out.2.1 HZ.out HF.out HI.out.2.1 (by rw[htk];exact hm) htk h5' hW');obtain⟨v0,v1,v2,vz,vl⟩:=cells3 h5';clear h5 hO hF htk hm h5' y0 y1 y2 yz yl hd1 hd2 hq1 hq2;go_wp2_with fail
   refine bodyPost_ret (v:=rbV ((d:Int)+1) q (.slice a m c)) sR rfl ?_;exact HR.out _ rfl
