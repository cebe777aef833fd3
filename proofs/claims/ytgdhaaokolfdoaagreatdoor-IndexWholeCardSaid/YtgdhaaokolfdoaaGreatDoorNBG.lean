/- A pack of texts. Conditions: those that each names. -/
import Derived.Test.YtgdhaaokolfdoaaGreatDoorNBF
set_option maxHeartbeats 16000000
set_option maxRecDepth 100000
set_option linter.all false
namespace Go.Proofs.YtgdhaaokolfdoaaGreatDoor
open Go.RowKit Go.Sg CP SF Tryz
def wI (d p:Int)(es:List Bt)(w:w9)(e:Ending)(w':w9):Prop:=∃ a c,e = rT (gH d p (sL a es.length c))/\t8 w' w.heap.size (sL a es.length c) es/\Fq w w'
def I8 (h:Nat)(x:Bt):Bool:=!decide (x.hash=h)
variable {es:List Bt}{w:w9}{v:Value}
def WF {k:Nat}{x:Bt}(hx:es[k]?=some x)(f:Bt->Bool):(es.take (k+1)).filter f=if f x=true then (es.take k).filter f++[x] else (es.take k).filter f:=by
 have h:es.take (k+1)=es.take k++[x]:=by rw[ea,hx];rfl
 rw[h,qe];cases hf:f x <;> simp[hf]
def jW {base e size n g:Nat}{xs:List Value}(h:w.ownsRow base e size v n xs)(hg:v.ownBlock=some g):base<=g/\∃ c,w.heap[g]?=some (.cells c e):=by
 obtain⟨_,⟨h1,_⟩|⟨g',cap,cur,h1,hb,dK,_⟩⟩:=h
 .rw[h1] at hg;cases hg
 .rw[h1] at hg;cases hg;exact⟨hb,cur,dK⟩
def yq0 {w1 wr:w9}{d p:Int}{a:Option Addr}{c m:Nat}{c0 c4:Array Value}(hs:w1.heap.size=w.heap.size+2)(hw:Fq w w1)(h0:w1.heap[w.heap.size]?=some (.cells c0 220))(h4:w1.heap[w.heap.size+1]?=some (.cells c4 220))(hF:Fq w1 wr)(hm:es.length=m)(hO:t8 wr w1.heap.size (sL a es.length c) es) :
  wI d p es w (rT (gH d p (sL a m c))) ((((wr.setCell (aA w 2) (sL a m c)).setCell (aA (w+1) 0) (iI d)).setCell (aA (w+1) 1) (iI p)).setCell (aA (w+1) 2) (sL a m c)):=by
 subst hm;obtain⟨W',hW⟩:=eX (((((wr.setCell (aA w 2) (sL a es.length c)).setCell (aA (w+1) 0) (iI d)).setCell (aA (w+1) 1) (iI p)).setCell (aA (w+1) 2) (sL a es.length c)))
 rw[hW];have F:Fr (fun b=>b=w.heap.size\/b=w.heap.size+1) wr W':=by
  rw[<- hW];with_reducible (repeat (first|exact fR|refine Fr.setCell ?_ (fun _=>by simp) _))
 refine⟨a,c,rfl,K3 (ao hO oM) F fun g c' hg e=>?_,(hw.trans hF nI).trans F fun b hb e=>oM⟩;rcases e with e|e
 .rw[e,hF.heap h0 id] at hg;cases hg
 .rw[e,hF.heap h4 id] at hg;cases hg
def uv0 (hE:t8 w 0 v es)(hl:es.length<=65535)(d p:Int)(h:Nat):cP 208 #[gH d p v,iU h] w (wI d p (es.filter (I8 h)) w):=by
 obtain⟨va,vc,rfl,-,-,-,-⟩:=A2 hE;obtain⟨n,hn⟩:=eX es.length
 obtain⟨w1,I0⟩:=eX ((w.alloc (.cells #[iI d,iI p,sL va n vc] 220)).alloc (.cells #[iI 0,iI 0,sL none 0 0] 220))
 obtain⟨b0,b4,F1⟩:=n9 I0;have Z5:=oN hE F1;have E3:w1.heap.size=w.heap.size+2:=by rw[<- I0];simp
 rw[hn] at Z5 hl ⊢;have HE:=hid Z5;have HN:=hid hn;have HF:=hid F1;have HW:=hid I0;have HS:=hid E3;have HB:=hi2 b0 b4;obtain⟨i0,A3,J1,M1,O1⟩:=info_parts ny;clear hE Z5 hn F1 I0 b0 b4 E3;go_enter func208,ntmps208;go_upto_region 1 with fail
 rw[HW];go_wp2_with fail
 go_loopw [5,6] (fun vv i wr=>∃ (k:Nat) (a:Option Addr) (c:Nat),k<=n/\i = iI k/\vv = .slice a ((es.take k).filter (I8 h)).length c/\t8 wr w1.heap.size (.slice a ((es.take k).filter (I8 h)).length c) ((es.take k).filter (I8 h))/\Fq w1 wr) fun _ i _=>n-(intOf i).toNat
 case atStart=>exact⟨0,none,0,C3 _,rfl,rfl,World.ownsRow_nil _ _ _ _,fR⟩
 case round =>
  obtain⟨k,a,c,hk,rfl,rfl,hO,hF⟩:=hrel;obtain⟨x0,x1,x2,xz,xl⟩:=cells3 (hF.heap HB.1 id);have HO:=hid hO;have Y0:=hid hF;obtain⟨m,hm⟩:=eX (((es.take k).filter (I8 h)).length)
  have rf:m<=65535:=by rw[<- hm];exact nT (mY _ _) (by rw[lT];omega)
  have HM:=hid hm;rw[hm];by_cases hlt:k<n
  .have hd:decide ((k:Int)<(n:Int))=true:=by simp;omega
   have cF:(k:Int)<(n:Int):=oM
   have fL:wrap64 ((k:Int)+1)=((k+1:Nat):Int):=rY oM;obtain⟨x,hx⟩:∃ x,es[k]?=some x:=⟨_,gE (by rw[HN.o];exact hlt)⟩
   obtain⟨g,rfl,hg,c0,c1,c2,c3⟩:=qO (oN HE.o hF) hx;have HX:=hid hx;have hst:=WF hx (I8 h);have mi:=hid hst;have io:=hF.size;clear hO hF hm hx hst;cases hfx:I8 h x with
   | true =>
    have bE:=hid hfx;have gm:((x.hash:Int) == (h:Int))=false:=by
     have h1:¬ x.hash=h:=(by simpa[I8] using hfx);have:¬ (x.hash:Int)=(h:Int):=oM;simpa using this
    have cO:=hid (show wr.ownsRow w1 110 4 (sL a m c) m (((es.take k).filter (I8 h)).flatMap Q1) by have:=HO.o;unfold t8 at this;rw[HM] at this;exact this);clear hfx;go_wp2_with (at_builtin;refine wpList_append_own_at _ rfl (.tmp 22) (.tmp 28) 218 rfl w1.heap.size 110 i0 _ 4 32 underlying218 A3 J1 M1 O1 rfl dC _ _ _ rfl (cO.alloc _) ⟨wr,0,none⟩ 1 1 (Q1 x) rfl rfl (World.news_of_block (cs:=#[iU x.hash,iI x.rg,iI x.at_,iI x.sz]) (t:=110) (fr:=(0,0)) (han _ _)) (by simp[Value.oneCell']) (by simp only[maxLen];omega) oM sO ?_)
    intro v3 W3 K0 Q3 N9 aT;obtain⟨a3,c3',rfl,-,-,-,-⟩:=A2 K0;have F3:Fq w1 W3:=(Y0.alloc _).trans (S':=fun b=>(sL a m c).ownBlock=some b) ⟨Q3.os,Q3.tape,Q3.output,Q3.size,fun b hb hn=>Q3.block b hb fun e=>hn e.symm⟩ (fun b hb e=>by
     have:=(jW cO.o e).1;omega)
    have HQ:=hid (show ∃ (a:Option Addr) (c:Nat),sL a3 (m+1) c3' = .slice a ((es.take (k+1)).filter (I8 h)).length c/\t8 W3 w1.heap.size (.slice a ((es.take (k+1)).filter (I8 h)).length c) ((es.take (k+1)).filter (I8 h))/\Fq w1 W3 by
     rw[mi,if_pos bE.o];refine⟨a3,c3',by rw[lA,HM];rfl,?_,F3⟩;unfold t8;rw[lA,dY,HM];simpa using K0)
    clear K0 Q3 N9 aT F3 c0 c1 c2 c3;go_wp2_with fail
    go_roundw;case rel =>
     obtain⟨a',c',e,h1,h2⟩:=HQ.o;exact⟨k+1,a',c',hlt,by go_num,e,h1,h2⟩
    case measure=>exact wM
   | false =>
    have bE:=hid hfx;have gm:((x.hash:Int) == (h:Int))=true:=by
     have h1:x.hash=h:=(by simpa[I8] using hfx);rw[h1];simp
    clear hfx;go_wp2_with fail
    go_roundw;case rel=>exact⟨k+1,a,c,hlt,by go_num,by rw[mi,if_neg (by rw[bE];decide),HM.o],by rw[mi,if_neg (by rw[bE];decide)];exact HO.o,Y0.o⟩
    case measure=>exact wM
  .obtain rfl:k=n:=by omega
   have hd:decide ((k:Int)<(k:Int))=false:=by simp
   have Z3:es.take k=es:=tL (by rw[HN];exact nR _);have Bo:=hid Z3;obtain⟨y0,y1,y2,yz,yl⟩:=cells3 (hF.heap HB.2 id);have hne:¬ w.heap.size=w.heap.size+1:=oM
   have bX:¬ w.heap.size+1=w.heap.size:=oM
   clear hO hF hm Z3;go_wp2_with fail
   refine bodyPost_ret (v:=gH d p (sL a m c)) sR rfl ?_;have hO:=HO.o;have hM:=HM.o;rw[Bo] at hO hM;exact yq0 HS.o HF.o HB.1 HB.2 Y0.o hM hO
def wG0 (hE:t8 w 0 v es)(hl:es.length<=65535)(d p:Int)(oldest:Int):cP 210 #[gH d p v,iI oldest] w (wI d p (es.filter (U4 oldest)) w):=by
 obtain⟨va,vc,rfl,-,-,-,-⟩:=A2 hE;obtain⟨n,hn⟩:=eX es.length
 obtain⟨w1,I0⟩:=eX ((w.alloc (.cells #[iI d,iI p,sL va n vc] 220)).alloc (.cells #[iI 0,iI 0,sL none 0 0] 220))
 obtain⟨b0,b4,F1⟩:=n9 I0;have Z5:=oN hE F1;have E3:w1.heap.size=w.heap.size+2:=by rw[<- I0];simp
 rw[hn] at Z5 hl ⊢;have HE:=hid Z5;have HN:=hid hn;have HF:=hid F1;have HW:=hid I0;have HS:=hid E3;have HB:=hi2 b0 b4;obtain⟨i0,A3,J1,M1,O1⟩:=info_parts ny;clear hE Z5 hn F1 I0 b0 b4 E3;go_enter func210,ntmps210;go_upto_region 1 with fail
 rw[HW];go_wp2_with fail
 go_loopw [5,6] (fun vv i wr=>∃ (k:Nat) (a:Option Addr) (c:Nat),k<=n/\i = iI k/\vv = .slice a ((es.take k).filter (U4 oldest)).length c/\t8 wr w1.heap.size (.slice a ((es.take k).filter (U4 oldest)).length c) ((es.take k).filter (U4 oldest))/\Fq w1 wr) fun _ i _=>n-(intOf i).toNat
 case atStart=>exact⟨0,none,0,C3 _,rfl,rfl,World.ownsRow_nil _ _ _ _,fR⟩
 case round =>
  obtain⟨k,a,c,hk,rfl,rfl,hO,hF⟩:=hrel;obtain⟨x0,x1,x2,xz,xl⟩:=cells3 (hF.heap HB.1 id);have HO:=hid hO;have Y0:=hid hF;obtain⟨m,hm⟩:=eX (((es.take k).filter (U4 oldest)).length)
  have rf:m<=65535:=by rw[<- hm];exact nT (mY _ _) (by rw[lT];omega)
  have HM:=hid hm;rw[hm];by_cases hlt:k<n
  .have hd:decide ((k:Int)<(n:Int))=true:=by simp;omega
   have cF:(k:Int)<(n:Int):=oM
   have fL:wrap64 ((k:Int)+1)=((k+1:Nat):Int):=rY oM;obtain⟨x,hx⟩:∃ x,es[k]?=some x:=⟨_,gE (by rw[HN.o];exact hlt)⟩
   obtain⟨g,rfl,hg,c0,c1,c2,c3⟩:=qO (oN HE.o hF) hx;have HX:=hid hx;have hst:=WF hx (U4 oldest);have mi:=hid hst;have io:=hF.size;clear hO hF hm hx hst;cases hfx:U4 oldest x with
   | true =>
    have bE:=hid hfx;have gm:decide (oldest<=x.rg)=true:=hfx;have cO:=hid (show wr.ownsRow w1 110 4 (sL a m c) m (((es.take k).filter (U4 oldest)).flatMap Q1) by have:=HO.o;unfold t8 at this;rw[HM] at this;exact this);clear hfx;go_wp2_with (at_builtin;refine wpList_append_own_at _ rfl (.tmp 22) (.tmp 28) 218 rfl w1.heap.size 110 i0 _ 4 32 underlying218 A3 J1 M1 O1 rfl dC _ _ _ rfl (cO.alloc _) ⟨wr,0,none⟩ 1 1 (Q1 x) rfl rfl (World.news_of_block (cs:=#[iU x.hash,iI x.rg,iI x.at_,iI x.sz]) (t:=110) (fr:=(0,0)) (han _ _)) (by simp[Value.oneCell']) (by simp only[maxLen];omega) oM sO ?_)
    intro v3 W3 K0 Q3 N9 aT;obtain⟨a3,c3',rfl,-,-,-,-⟩:=A2 K0;have F3:Fq w1 W3:=(Y0.alloc _).trans (S':=fun b=>(sL a m c).ownBlock=some b) ⟨Q3.os,Q3.tape,Q3.output,Q3.size,fun b hb hn=>Q3.block b hb fun e=>hn e.symm⟩ (fun b hb e=>by
     have:=(jW cO.o e).1;omega)
    have HQ:=hid (show ∃ (a:Option Addr) (c:Nat),sL a3 (m+1) c3' = .slice a ((es.take (k+1)).filter (U4 oldest)).length c/\t8 W3 w1.heap.size (.slice a ((es.take (k+1)).filter (U4 oldest)).length c) ((es.take (k+1)).filter (U4 oldest))/\Fq w1 W3 by
     rw[mi,if_pos bE.o];refine⟨a3,c3',by rw[lA,HM];rfl,?_,F3⟩;unfold t8;rw[lA,dY,HM];simpa using K0)
    clear K0 Q3 N9 aT F3 c0 c1 c2 c3;go_wp2_with fail
    go_roundw;case rel =>
     obtain⟨a',c',e,h1,h2⟩:=HQ.o;exact⟨k+1,a',c',hlt,by go_num,e,h1,h2⟩
    case measure=>exact wM
   | false =>
    have bE:=hid hfx;have gm:decide (oldest<=x.rg)=false:=hfx;clear hfx;go_wp2_with fail
    go_roundw;case rel=>exact⟨k+1,a,c,hlt,by go_num,by rw[mi,if_neg (by rw[bE];decide),HM.o],by rw[mi,if_neg (by rw[bE];decide)];exact HO.o,Y0.o⟩
    case measure=>exact wM
  .obtain rfl:k=n:=by omega
   have hd:decide ((k:Int)<(k:Int))=false:=by simp
   have Z3:es.take k=es:=tL (by rw[HN];exact nR _);have Bo:=hid Z3;obtain⟨y0,y1,y2,yz,yl⟩:=cells3 (hF.heap HB.2 id);have hne:¬ w.heap.size=w.heap.size+1:=oM
   have bX:¬ w.heap.size+1=w.heap.size:=oM
   clear hO hF hm Z3;go_wp2_with fail
   refine bodyPost_ret (v:=gH d p (sL a m c)) sR rfl ?_;have hO:=HO.o;have hM:=HM.o;rw[Bo] at hO hM;exact yq0 HS.o HF.o HB.1 HB.2 Y0.o hM hO
def oZ (x y:Bt):Bool:=decide (x.rg<y.rg) || (decide (x.rg=y.rg) && decide (x.at_<y.at_))
def jw (es:List Bt):Nat->Option Nat
 | 0=>none
 | k+1=>match jw es k,es[k]? with
  | some j,some x=>match es[j]? with
   | some y=>if oZ x y then some k else some j
   | none=>some j
  | none,some _=>some k
  | b,none=>b
def OU (es:List Bt):∀ (k j:Nat),jw es k=some j->j<k/\j<es.length:=by
 intro k;induction k with
 | zero=>intro j h;cases h
 | succ k ih =>
  intro j h;simp only[jw] at h;cases hb:jw es k with
  | none =>
   rw[hb] at h;cases hx:es[k]? with
   | none=>rw[hx] at h;cases h
   | some x =>
    rw[hx] at h;cases h;exact⟨Nat.lt_succ_self _,(gI.1 hx).1⟩
  | some i =>
   obtain⟨h1,h2⟩:=ih i hb;rw[hb] at h;cases hx:es[k]? with
   | none=>rw[hx] at h;cases h;exact⟨oM,h2⟩
   | some x =>
    rw[hx] at h;have hk:=(gI.1 hx).1;cases hy:es[i]? with
    | none=>simp only[hy] at h;cases h;exact⟨oM,h2⟩
    | some y =>
     simp only[hy] at h;split at h
     .cases h;exact⟨Nat.lt_succ_self _,hk⟩
     .cases h;exact⟨oM,h2⟩
def ME:Option Nat->Int
 | some k=>k
 | none=>-1
def uq0 (hE:t8 w 0 v es)(hl:es.length<=65535)(d p:Int):cP 212 #[gH d p v] w (MT (ME (jw es es.length)) w):=by
 obtain⟨va,vc,rfl,-,-,-,-⟩:=A2 hE;obtain⟨n,hn⟩:=eX es.length
 obtain⟨w1,I0⟩:=eX (w.alloc (.cells #[iI d,iI p,sL va n vc] 220))
 have F1:=fA I0
 have b0:=fB I0
 have Z5:=oN hE F1;rw[hn] at Z5 hl ⊢;have HE:=hid Z5;have HN:=hid hn;have HF:=hid F1;have HW:=hid I0;have HB:=hid b0;clear hE Z5 hn F1 I0 b0;go_enter func212,ntmps212;go_upto_region 1 with fail
 rw[HW];go_wp2_with fail
 go_loopw [3,4] (fun b i wr=>∃ k:Nat,k<=n/\i = iI k/\b = iI (ME (jw es k))/\Fq w1 wr) fun _ i _=>n-(intOf i).toNat
 case atStart=>exact⟨0,C3 _,rfl,rfl,fR⟩
 case round =>
  obtain⟨k,hk,rfl,rfl,hF⟩:=hrel;obtain⟨x0,x1,x2,xz,xl⟩:=cells3 (hF.heap HB.o id);have Y0:=hid hF;by_cases hlt:k<n
  .have hd:decide ((k:Int)<(n:Int))=true:=by simp;omega
   have cF:(k:Int)<(n:Int):=oM
   have fL:wrap64 ((k:Int)+1)=((k+1:Nat):Int):=rY oM;obtain⟨x,hx⟩:∃ x,es[k]?=some x:=⟨_,gE (by rw[HN.o];exact hlt)⟩
   obtain⟨g,rfl,hg,c0,c1,c2,c3⟩:=qO (oN HE.o hF) hx;obtain⟨W,hW⟩:=eX (wr.alloc (.cells #[iU x.hash,iI x.rg,iI x.at_,iI x.sz] 110))
   have FW:=fA hW
   have bW:=fB hW
   have HX:=hid hx;have fw:=hid hW;have qx:=hF.trans FW nI;have fU:=hid qx;have nu:=hid bW;clear hF hx hW FW bW;cases hb:jw es k with
   | none =>
    have HR:=hid (show jw es (k+1)=some k by simp only[jw];rw[hb,HX]);clear hb qx;simp only[ME];go_upto_region 6 with fail
    rw[fw];go_quiet (fail)
    go_wp2_with fail
    go_roundw;case rel=>exact⟨k+1,hlt,by go_num,by rw[HR],fU.drewN _⟩
    case measure=>exact wM
   | some j =>
    obtain⟨hjk,hjl⟩:=OU es k j hb;obtain⟨y,hy⟩:∃ y,es[j]?=some y:=⟨_,gE hjl⟩
    have HR:=hid (show jw es (k+1)=if oZ x y then some k else some j by simp only[jw];rw[hb,HX];simp only;rw[hy]);obtain⟨g',eg,I1,e0,e1,e2,e3⟩:=qO (oN HE.o qx) hy;cases eg;obtain⟨y0,y1,y2,yz,yl⟩:=cells3 (qx.heap HB.o id);obtain⟨t0,t1,t2,t3,tz,tl⟩:=D8 nu.o;have hjn:(j:Int)<(n:Int):=oM;have fK:decide ((j:Int)<0)=false:=sP;have hjn':j<n:=oM;clear hb hy qx hjl;simp only[ME];by_cases h1:x.rg<y.rg
    .have q1:decide (x.rg<y.rg)=true:=(by simpa using h1);have HT:=hid (show oZ x y=true by simp[oZ,h1]);clear h1;go_upto_region 6 with fail
     rw[fw];clear c0 c1 c2 c3 x0 x1 x2;go_quiet (fail)
     go_wp2_with fail
     go_roundw;case rel=>exact⟨k+1,hlt,by go_num,by rw[HR,if_pos HT.o],fU.drewN _⟩
     case measure=>exact wM
    .have q1:decide (x.rg<y.rg)=false:=(by simpa using h1);by_cases h2:x.rg=y.rg
     .have q2:(x.rg == y.rg)=true:=(by simpa using h2);cases h3:decide (x.at_<y.at_) with
      | true =>
       have HT:=hid (show oZ x y=true by simp[oZ,h2,h3]);clear h1 h2;go_upto_region 6 with fail
       rw[fw];clear c0 c1 c2 c3 x0 x1 x2;go_quiet (fail)
       go_wp2_with fail
       go_roundw;case rel=>exact⟨k+1,hlt,by go_num,by rw[HR,if_pos HT.o],fU.drewN _⟩
       case measure=>exact wM
      | false =>
       have HT:=hid (show oZ x y=false by simp[oZ,h1,h2,h3]);clear h1 h2;go_upto_region 6 with fail
       rw[fw];clear c0 c1 c2 c3 x0 x1 x2;go_quiet (fail)
       go_wp2_with fail
       go_roundw;case rel=>exact⟨k+1,hlt,by go_num,by rw[HR,if_neg (by rw[HT];decide)],fU.drewN _⟩
       case measure=>exact wM
     .have q2:(x.rg == y.rg)=false:=(by simpa using h2);have HT:=hid (show oZ x y=false by simp[oZ,h1,h2]);clear h1 h2;go_upto_region 6 with fail
      rw[fw];clear c0 c1 c2 c3 x0 x1 x2;go_quiet (fail)
      go_wp2_with fail
      go_roundw;case rel=>exact⟨k+1,hlt,by go_num,by rw[HR,if_neg (by rw[HT];decide)],fU.drewN _⟩
      case measure=>exact wM
  .obtain rfl:k=n:=by omega
   have hd:decide ((k:Int)<(k:Int))=false:=by simp
   clear hF;go_wp2_with fail
   go_ret;exact⟨rfl,HF.trans Y0.o nI⟩
def rv (h j:Nat):Bool:=decide (h/2^j % 2=1)
def aF (h i:Nat):List Value:=(List.range 64).map fun j=>bO (if j<i then rv h j else false)
def BM (h i:Nat):(aF h i).length=64:=by simp[aF]
def tW0 (h i j:Nat)(hj:j<64):(aF h i)[j]?=some (bO (if j<i then rv h j else false)):=by
 simp[aF,hj]
def zc0 (h i:Nat)(hi:i<64):(aF h i).set i (bO (rv h i))=aF h (i+1):=by
 apply Am;intro j;by_cases hj:j<64
 .rw[ug];by_cases e:i=j
  .subst e;simp[aF,hj]
  .rw[if_neg e,tW0 _ _ _ hj,tW0 _ _ _ hj];congr 2
   by_cases h1:j<i
   .rw[if_pos h1,if_pos oM]
   .rw[if_neg h1,if_neg oM]
 .rw[Al (by rw[fj,BM];omega),Al (by rw[BM];omega)]
abbrev DQ0:Array Value:=#[bO false,bO false,bO false,bO false,bO false,bO false,bO false,bO false,bO false,bO false,bO false,bO false,bO false,bO false,bO false,bO false,bO false,bO false,bO false,bO false,bO false,bO false,bO false,bO false,bO false,bO false,bO false,bO false,bO false,bO false,bO false,bO false,bO false,bO false,bO false,bO false,bO false,bO false,bO false,bO false,bO false,bO false,bO false,bO false,bO false,bO false,bO false,bO false,bO false,bO false,bO false,bO false,bO false,bO false,bO false,bO false,bO false,bO false,bO false,bO false,bO false,bO false,bO false,bO false]
def rx0 (h:Nat):aF h 0=List.replicate 64 (bO false):=by
 rw[aF,Qj (g:=fun _=>bO false) (fun j _=>by rw[if_neg (Nat.not_lt_zero j)]),List.map_const',List.length_range]
def we0 (h:Nat):(#[bO false,bO false,bO false,bO false,bO false,bO false,bO false,bO false,bO false,bO false,bO false,bO false,bO false,bO false,bO false,bO false,bO false,bO false,bO false,bO false,bO false,bO false,bO false,bO false,bO false,bO false,bO false,bO false,bO false,bO false,bO false,bO false,bO false,bO false,bO false,bO false,bO false,bO false,bO false,bO false,bO false,bO false,bO false,bO false,bO false,bO false,bO false,bO false,bO false,bO false,bO false,bO false,bO false,bO false,bO false,bO false,bO false,bO false,bO false,bO false,bO false,bO false,bO false,bO false]:Array Value)=(aF h 0).toArray:=by rw[rx0];rfl
def Dl0 (h:Nat)(hh:h<18446744073709551616)(w:w9) :
  cP 240 #[iU h] w fun e w'=>e = rT (.agg (aF h 64).toArray)/\Fq w w':=by
 go_enter func240,ntmps240;go_wp2
 rw[we0 h];go_loopw [0,4] (fun hv s wr=>∃ i q:Nat,i<=64/\hv = iU q/\q=h/2^i/\s = iI i/\wr.heap[w.heap.size+1]?=some (.cells (aF h i).toArray 349)/\wr.heap[w.heap.size]?=some (.cells (aF h 0).toArray 349)/\Fq w wr) fun _ s _=>64-(intOf s).toNat
 case atStart =>
  obtain⟨h0,h1,F⟩:=n9 (w:=w) (A:=.cells (aF h 0).toArray 349) (B:=.cells (aF h 0).toArray 349) rfl;exact⟨0,h,C3 _,rfl,by simp,rfl,h1,h0,F⟩
 case round =>
  obtain⟨i,q,hi,rfl,hq,rfl,h1,h0,hF⟩:=hrel;have HQ:=hid hq;have hq64:q<18446744073709551616:=by rw[hq];exact Mf (Mn _ _) hh
  clear hq;by_cases hlt:i<64
  .have cj:wr.cell? (aA (w+1) i)=some (bO false):=by
    rw[G0 h1];simp[aF,hlt]
   have zj:=fun o=>X2 h1 o
   have hlg:=M0 h1;have Ve:decide (i<64)=true:=by simpa using hlt
   have Vf:decide ((i:Int)<64)=true:=by simp;omega
   have hiw:wrap64 ((i:Int)+1)=((i+1:Nat):Int):=by simp only[wrap64];omega
   have H:=hi2 h1 (aI h0 hF);have xn:rv h i=decide (q % 2=1):=by unfold rv;rw[HQ]
   have RE:=hid xn;have zW:h/2^(i+1)=q/2:=by rw[HQ,dB,Ak]
   have HQ2:=hid zW;clear h1 h0 hF xn zW;have hb:((q:Int) % 2 == 1)=rv h i:=by
    rw[RE];have e:((q:Int) % 2)=((q % 2:Nat):Int):=sP;rw[e];have:q % 2=0\/q % 2=1:=oM;rcases this with h|h <;> rw[h] <;> rfl
   have HB:=hid hb;clear hb;go_wp2
   go_roundw;case rel =>
    obtain⟨h1,h0,hF⟩:=H.o;refine⟨i+1,q/2,oM,by simp,HQ2.symm,by go_num,?_,(fY _ _ _ _ sP).trans h0,hF.U2 oM _⟩;rw[hsc _ _ _ _ h1,HB,<- zc0 h i hlt];simp
   case measure=>exact wM
  .obtain rfl:i=64:=by omega
   go_upto_region 7 with (fail)
   have hsz:(prog.info? 349).map (·.size)=some (aF h 64).toArray.size:=by rw[zA,BM];kernel_rfl
   have xK:(prog.info? 349).map (·.size)=some (aF h 64).length:=by rw[BM];kernel_rfl
   have hu:prog.underlying 349=some (.array 64 4):=by kernel_rfl
   have ht:wr.there w.heap.size 0 (aF h 64).toArray.size:=by
    intro j hj;refine⟨?_,X2 h0 _⟩;rw[G0 h0];rw[zA,BM] at hj;simp[aF];omega
   have wW:(aF h 64).toArray.all (·.oneCell')=true:=by simp[aF,Value.oneCell']
   have lJ:(wr.setCells w.heap.size 0 (aF h 64)).rangeAt w.heap.size 0 (aF h 64):=World.rangeAt_setCells_same _ _ _ _ (by simpa using ht);have F9:Fq w (wr.setCells w.heap.size 0 (aF h 64)):=Fr.setCells oM _ _ _ hF;iterate 60 (first|(refine wpList_load_row rF 349 (.tmp 3) rF (w.heap.size+1) rF 349 (aF h 64).toArray (0,0) (.array 64 4) h1 hu rfl hsz ?_)|(refine wpList_store_mid rF 349 (.tmp 2) (.tmp 16) rF w.heap.size 0 (aF h 64).toArray rF rF ht hsz wW ?_)|go_step|skip)
   exact bodyPost_ret (v:=.agg (aF h 64).toArray) (Tj rfl _ _ w.heap.size (aF h 64) _ rfl lJ hu rfl xK) rfl ⟨rfl,F9⟩
def wT0 (h i:Nat)(hi:i<30):2*(h/2^(64-i))+(if rv h (63-i)=true then 1 else 0)=h/2^(64-(i+1)):=by
 have e1:64-(i+1)=63-i:=oM
 have e2:64-i=(63-i)+1:=oM
 rw[e1,e2,dB,<- Ak];unfold rv;generalize h/2^(63-i)=z;by_cases hz:z % 2=1
 .rw[if_pos (by simpa using hz)];omega
 .rw[if_neg (by simpa using hz)];omega
def uj0 (h bits:Nat)(hh:h<18446744073709551616)(hb:bits<=30)(w:w9) :
  cP 189 #[iU h,iI bits] w fun e w'=>e = rT (iI (X0 h bits))/\Fq w w':=by
 by_cases h0:bits<1
 .have hp:X0 h bits=0:=by unfold X0;rw[if_pos (.inl h0)]
  have hd:decide ((bits:Int)<1)=true:=by simp;omega
  rw[hp];clear hp;go_enter func189,ntmps189;go_wp2
  go_ret;exact⟨rfl,fR⟩
 .have hp:X0 h bits=h/2^(64-bits):=by unfold X0;rw[if_neg oM]
  have av:decide ((bits:Int)<1)=false:=by simp;omega
  have ic:decide ((30:Int)<(bits:Int))=false:=by simp;omega
  rw[hp];obtain⟨tab,dh⟩:∃ tab:Array Value,(aF h 64).toArray=tab:=⟨_,rfl⟩
  have Uj:=Dl0 h hh w;rw[dh] at Uj;have hsz:(prog.info? 349).map (·.size)=some tab.size:=by rw[<- dh,zA,BM];kernel_rfl
  have wW:tab.all (·.oneCell')=true:=by rw[<- dh];simp[aF,Value.oneCell']
  have xL:tab.size=64:=by rw[<- dh,zA,BM]
  have Lm:∀ i,i<64->tab[i]?=some (bO (rv h i)):=fun i hi=>by rw[<- dh];simp[aF,hi]
  have rM:=hid Uj;have Hj:=hid Lm;have Hk:=hid xL;clear hp dh Uj Lm xL;go_enter func189,ntmps189;go_wp2_with fail
  refine rM.mono ?_;rintro e w1 ⟨rfl,F1⟩;obtain⟨w2,A9⟩:=eX (w1.alloc (.cells DQ0 349))
  have h2:=fB A9
  have F2:=fA A9
  have ht:w2.there w1.heap.size 0 tab.size:=by
   intro j hj;refine⟨?_,X2 h2 _⟩;rw[G0 h2,o8,Qe (by rw[Hk] at hj;exact hj)];rfl
  have Bm:=hid ht;have fw:=hid A9;have H2:=hi2 h2 F2;clear ht A9 h2 F2;dsimp only;iterate 12 (first|(rw[fw])|(refine wpList_store_mid rF 349 (.tmp 5) (.tmp 15) rF w1.heap.size 0 tab rF rF Bm.o hsz wW ?_)|go_step|go_upon|skip)
  obtain⟨w3,K7⟩:=eX (w2.setCells w1.heap.size 0 tab.toList)
  rw[K7];have pU:w3.rangeAt w1.heap.size 0 tab.toList:=by rw[<- K7];exact World.rangeAt_setCells_same w2 w1.heap.size 0 tab.toList (by simpa using Bm.o)
  have ia:∀ i,i<64->w3.cell? (aA w1 i)=some (bO (rv h i)):=fun i hi=>by
   have:=pU i (bO (rv h i)) (by simpa using Hj.o i hi);rwa [o8] at this
  have F3:Fq w w3:=by
   rw[<- K7];exact Fr.setCells F1.size _ _ _ (F1.trans H2.2 nI)
  have Y8:w1.heap.size<w3.heap.size:=World.block_lt_of_cell? _ _ (ia 0 oM);have HC:=hi2 ia (aI F3 Y8);clear K7 pU ia F3 H2 fw Bm hsz wW F1 rM Hj Hk;obtain⟨ba,sY⟩:=eX w1.heap.size
  rw[sY] at HC Y8 ⊢;clear sY;go_wp2_with fail
  go_loopw [6,7] (fun nv iv wr=>∃ i q:Nat,i<=bits/\iv = iI i/\nv = iI q/\q=h/2^(64-i)/\wr=w3) fun _ iv _=>bits-(intOf iv).toNat
  case atStart=>exact⟨0,0,C3 _,rfl,rfl,by rw[Nat.sub_zero,DK (by simpa using hh)],rfl⟩
  case round =>
   obtain⟨i,q,hi,rfl,rfl,hq,rfl⟩:=hrel;have HQ:=hid hq;clear hq;by_cases hlt:i<bits
   .have Fe:decide ((i:Int)<(bits:Int))=true:=sO;have xy:(i:Int)<(bits:Int):=oM;have hiw:wrap64 ((i:Int)+1)=((i+1:Nat):Int):=(by simp only[wrap64];omega);have jh:wrap64 (63-(i:Int))=((63-i:Nat):Int):=(by simp only[wrap64];omega);have X3:((63-i:Nat):Int)<64:=oM;have hq30:q<1073741824:=by
     rw[HQ];have h34:2^34<=2^(64-i):=aZ dC oM;exact (Nat.div_lt_iff_lt_mul (iu dC)).2 (E4 (show h<1073741824*2^34 by simpa using hh) (Nat.mul_le_mul_left _ h34))
    have hst:=wT0 h i oM;rw[<- HQ] at hst;have cb:=HC.1 (63-i) oM;obtain⟨bb,cY⟩:=eX (rv h (63-i))
    rw[cY] at cb hst;have rU:=hid hst;clear hst cY;cases bb with
    | true =>
     go_wp2_with fail
     go_roundw;case rel=>exact⟨i+1,2*q+1,hlt,by go_num,by go_num,by have:=rU.o;simpa using this,trivial⟩
     case measure=>exact wM
    | false =>
     go_wp2_with fail
     go_roundw;case rel=>exact⟨i+1,2*q,hlt,by go_num,by go_num,by have:=rU.o;simpa using this,trivial⟩
     case measure=>exact wM
   .obtain rfl:i=bits:=by omega
    have xy:¬ (i:Int)<(i:Int):=oM;go_wp2_with fail
    go_ret;refine⟨?_,HC.2.1⟩;rw[show ((h:Int)/2^(64-i))=((h/2^(64-i):Nat):Int) by simp,<- HQ.o];rfl
