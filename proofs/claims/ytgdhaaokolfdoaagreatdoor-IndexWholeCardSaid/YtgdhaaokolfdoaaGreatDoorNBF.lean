/- A pack of texts. Conditions: those that each names. -/
import Derived.Test.YtgdhaaokolfdoaaGreatDoorNBE
import Derived.Test.YtgdhaaokolfdoaaGreatDoorNBD
set_option maxHeartbeats 16000000
set_option maxRecDepth 100000
set_option linter.all false
namespace Go.Proofs.YtgdhaaokolfdoaaGreatDoor
open Tryz
section
open Go.RowKit Go.Sg Go.Sg.Bits Go.Sg.r4 CP SF
def qR0 {E:Bt}(hh:E.hash<18446744073709551616)(h:ab E=true):tZ E:=by
 simp[ab] at h;exact⟨hh,⟨oM,oM⟩,⟨oM,oM⟩,⟨oM,oM⟩⟩
def Tp {y:Cs}{k:Nat}(h:y.dead k=false):y.commit.cont k=y.cont k:=by
 show (if y.dead k then none else y.cont k)=y.cont k;rw[h];rfl
def dH.yM0 {y:Cs}{x:P1}{E0 slots:List Rf}(h:dH y x E0 slots)(hL:∀ k ∈ B2 x.rp E0,y.dead k=false):dH y.commit x E0 slots:=by
 have hz:=h.z;refine⟨⟨hz.most,hz.per,hz.fits,hz.room⟩,h.slen,h.D7,⟨h.leaf.sr,h.leaf.tr,fun i r hi=>?_⟩,h.rr,?_⟩
 .have hr:=(h.leaf.tr r (gM hi)).1;obtain⟨m,hm⟩:=iZ hr;rw[hm,Tp (hL m (by simp only[B2,d9,N4];exact .inr ⟨r,gM hi,oM⟩)),<- hm];exact h.leaf.at_ i r hi
 .obtain⟨m,hm⟩:=iZ h.rr.1;rw[hm,Tp (hL m (by simp only[B2,d9];exact .inl oM)),<- hm];exact h.root
section
variable {w w':w9}{B:P0}{bx bd:Nat}{y:Cs}{N:Nat}{x:P1}{E0 slots:List Rf}{L:List Bp}{sp:Int}
end
section
variable {w0 V V':w9}{base bs bv bx k:Nat}{t:Tr}
end
end
section
open Go.RowKit Go.Sg CP SF
def S9:Option Int->List Int->List Int
 | _,[]=>[]
 | o,x :: l=>if o=some x then S9 (some x) l else x :: S9 (some x) l
def qQ:Option Int->List Int->Option Int
 | o,[]=>o
 | _,x :: l=>qQ (some x) l
def TJ:∀ (a b:List Int) (o:Option Int),S9 o (a++b)=S9 o a++S9 (qQ o a) b
 | [],b,o=>by simp[S9,qQ]
 | x :: a,b,o=>by
  simp only[ak,S9,qQ];split
  .exact TJ a b _
  .rw[TJ a b];rfl
def gj0 (x:Int):∀ (a:List Int) (o:Option Int),qQ o (a++[x])=some x
 | [],o=>rfl
 | y :: a,o=>gj0 x a _
variable {l:List Int}{base c g i k:Nat}{x:Int}{V W w:w9}{v:Value}
def jR0 (hx:l[k]?=some x):qQ none (l.take (k+1))=some x:=by
 rw[ea,hx];exact gj0 x _ _
def OT (hx:l[k]?=some x):S9 none (l.take (k+1))=S9 none (l.take k)++(if qQ none (l.take k)=some x then [] else [x]):=by
 rw[ea,hx,TJ];simp only[Option.toList_some,S9]
def lK0 (h:l.length<2):S9 none l=l:=by
 match l,h with
 | [],_=>rfl
 | [x],_=>rfl
def se0:∀ (l:List Int) (o:Option Int) (z:Int),z ∈ l->z ∈ S9 o l\/o=some z
 | x :: l,o,z,h=>by
  simp only[S9];rcases d9.1 h with rfl|h
  .split
   .exact .inr (by assumption)
   .exact .inl List.mem_cons_self
  .rcases se0 l (some x) z h with h'|h'
   .split
    .exact .inl h'
    .exact .inl (jH _ h')
   .cases h';split
    .exact .inr (by assumption)
    .exact .inl List.mem_cons_self
def TB:∀ (l:List Int) (o:Option Int) (z:Int),z ∈ S9 o l->z ∈ l
 | x :: l,o,z,h=>by
  simp only[S9] at h;split at h
  .exact jH _ (TB l _ z h)
  .rcases d9.1 h with rfl|h
   .exact List.mem_cons_self
   .exact jH _ (TB l _ z h)
def TI:∀ (l:List Int) (o:Option Int),l.Pairwise (·<=·)->(∀ z,o=some z->∀ y ∈ l,z<=y)->(S9 o l).Pairwise (· < ·)/\∀ z,o=some z->∀ y ∈ S9 o l,z<y
 | [],o,_,_=>⟨List.Pairwise.nil,fun _ _ y hy=>by cases hy⟩
 | x :: l,o,h,ho=>by
  rw[DO] at h;obtain⟨h1,h2⟩:=TI l (some x) h.2 (fun z hz y hy=>by cases hz;exact h.1 y hy);simp only[S9];split
  .rename_i e;exact⟨h1,fun z hz y hy=>by rw[e] at hz;cases hz;exact h2 x rfl y hy⟩
  .rename_i e;refine⟨DO.2 ⟨h2 x rfl,h1⟩,fun z hz y hy=>?_⟩;have hzx:z<x:=by
    have:=ho z hz x List.mem_cons_self;have hne:z≠x:=fun e'=>e (by rw[hz,e'])
    omega
   rcases d9.1 hy with rfl|hy
   .exact hzx
   .have:=h2 x rfl y hy;omega
def Ci0 (base:Nat)(v:Value)(out:List Int)(w:w9)(e:Ending)(w':w9):Prop:=
 ∃ a c,e = rT (sL a out.length c)/\Ay w' base (sL a out.length c) out/\Fr (fun b=>v.ownBlock=some b) w w'
def tP0 (h:Ay w base v l)(hn:0<l.length):∃ g c cur,v = sL (aP g 0) l.length c/\base<=g/\w.heap[g]?=some (.cells cur 3)/\l.length<=c/\c<=maxLen/\cur.size=c*1/\cur.toList.take (l.length*1)=l.map (Value.int .i64):=by
 obtain⟨hl,⟨h0,h1⟩|⟨g,c,cur,r⟩⟩:=h
 .omega
 .exact⟨g,c,cur,r⟩
structure qn (g c:Nat)(l:List Int)(i:Nat)(W:w9)(V:w9):Prop where
 ex:∃ cur:Array Value,V.heap[g]?=some (.cells cur 3)/\cur.size=c/\(∀ (q:Nat) (z:Int),(S9 none (l.take i))[q]?=some z->cur[q]?=some (iI z))/\∀ (q:Nat) (z:Int),i<=q+1->l[q]?=some z->cur[q]?=some (iI z)
 fr:Fr (fun b=>b=g) W V
def qn.skip (h:qn g c l i W V)(hx:l[i]?=some x)(he:qQ none (l.take i)=some x)(m:Nat):qn g c l (i+1) W (V.drewN m):=by
 obtain⟨⟨cur,h1,h2,h3,h4⟩,hF⟩:=h;refine⟨⟨cur,h1,h2,fun q z hz=>?_,fun q z hq hz=>h4 q z oM hz⟩,hF.drewN m⟩;rw[OT hx,if_pos he,vL] at hz;exact h3 q z hz
def qn.take (h:qn g c l i W V)(hx:l[i]?=some x)(he:¬ qQ none (l.take i)=some x)(hlt:(S9 none (l.take i)).length+1<=i)(hi:i<c):qn g c l (i+1) W (V.setCell (aA g ((S9 none (l.take i)).length)) (iI x)):=by
 obtain⟨⟨cur,h1,h2,h3,h4⟩,hF⟩:=h;refine⟨⟨cur.setIfInBounds (S9 none (l.take i)).length (iI x),hsc _ _ _ _ h1,by simpa using h2,fun q z hz=>?_,fun q z hq hz=>?_⟩,hF.setCell (a:=⟨g,_,none⟩) (fun _=>rfl) _⟩
 .rw[OT hx,if_neg he] at hz;rw[Array.getElem?_setIfInBounds];split
  .rename_i e;subst e;rw[if_pos oM];rw[kN (nR _),DT] at hz;simp at hz;rw[hz]
  .rename_i e;have Fu:q<(S9 none (l.take i)).length:=by
    have:=(gI.1 hz).1;simp at this;omega
   rw[jn Fu] at hz;exact h3 q z hz
 .rw[Array.getElem?_setIfInBounds,if_neg oM];exact h4 q z oM hz
def qn.drewN (h:qn g c l i W V)(m:Nat):qn g c l i W (V.drewN m):=by
 obtain⟨⟨cur,h1,h2,h3,h4⟩,hF⟩:=h;exact⟨⟨cur,h1,h2,h3,h4⟩,hF.drewN m⟩
def qn0 (h:Ay w base v l)(hl:l.length<=100000):cP 142 #[v] w (Ci0 base v (S9 none l) w):=by
 by_cases hs:l.length<2
 .obtain⟨a,c,rfl,-,-,-,-⟩:=A2 h;rw[lK0 hs];have HO:=hid h;obtain⟨n,hn⟩:=eX l.length
  rw[hn] at hs ⊢;have hd:decide ((n:Int)<2)=true:=by simp;omega
  have HN:=hid hn;clear h hn;go_enter func142,ntmps142;go_wp2_with fail
  go_ret;refine⟨a,c,by rw[HN];rfl,HO.o,fR⟩
 .obtain⟨g,c,cur,rfl,hb,hg,hlc,hm,hsz,ht⟩:=tP0 h oM;have HO:=hid h;have hcell:∀ (q:Nat) (z:Int),l[q]?=some z->cur[q]?=some (iI z):=fun q z hz=>by
   have h1:(cur.toList.take (l.length*1))[q]?=some (iI z):=by rw[ht,gP,hz];rfl
   rw[gT] at h1;split at h1
   .simpa using h1
   .cases h1
  obtain⟨n,hn⟩:=eX l.length
  rw[hn] at hs hl hlc ⊢;have hd:decide ((n:Int)<2)=false:=by simp;omega
  have HG:=hi2 hg (aI hcell (aI hn (aI hb (aI hm hsz))));have J1:∀ W,(zeroValue 3).run prog W = .ok (iI 0) W:=fun W=>by kernel_rfl
  have HZ:=hid J1;have hcm:c<=9223372036854775807:=by simpa[maxLen] using hm
  clear h hg hcell hn hb hm hsz ht J1;go_enter func142,ntmps142;go_wp2_with fail
  go_loopw [3] (fun v wr=>∃ k m:Nat,1<=k/\k<=n/\v = iI k/\S9 none (l.take k)=l.take k/\wr=w.drewN m) fun v _=>n-(intOf v).toNat
  case atStart =>
   refine⟨1,0,nR _,oM,rfl,?_,rfl⟩;exact lK0 (by rw[lT];omega)
  case round =>
   obtain⟨k,m,Pz,L8,rfl,hdd,rfl⟩:=hrel;have HD:=hid hdd;clear hdd;by_cases hlt:k<n
   .have cF:(k:Int)<(n:Int):=oM;have fL:wrap64 ((k:Int)+1)=((k+1:Nat):Int):=(by simp only[wrap64];omega);obtain⟨p,rfl⟩:∃ p,k=p+1:=⟨k-1,oM⟩
    have hpw:wrap64 (((p+1:Nat):Int)-1)=(p:Int):=(by simp only[wrap64];omega);have KJ:(p:Int)<(n:Int):=oM;obtain⟨x,hx⟩:∃ x,l[p+1]?=some x:=⟨_,gE (by rw[HG.2.2.1];exact hlt)⟩
    obtain⟨y,hy⟩:∃ y,l[p]?=some y:=⟨_,gE (by rw[HG.2.2.1];omega)⟩
    have c0:=(G0 HG.1 (p+1)).trans (HG.2.1 _ _ hx);have c1:=(G0 HG.1 p).trans (HG.2.1 _ _ hy);have cl:=M0 HG.1;have M8:=jR0 hy;have hst:=OT hx;have HX:=hi2 hx (aI hy M8);by_cases he:x=y
    .subst he;rw[if_pos M8,vL,HD] at hst;have rU:=hid hst;have iM:qn g c l (p+1+1) w (w.drewN m):=by
      refine⟨⟨cur,HG.1,by have:=HG.2.2.2.2.2;omega,fun q z hz=>?_,fun q z _ hz=>HG.2.1 q z hz⟩,fR.drewN _⟩;rw[rU,gT] at hz;split at hz
      .exact HG.2.1 q z hz
      .cases hz
     have yL:=hid iM;have o7:=Yo (some ⟨g,0,none⟩) n c (p+1) oM;rw[if_neg oM,show (some ⟨g,0,none⟩:Option Addr).map (·.add ((p+1)*1))=some ⟨g,p+1,none⟩ by simp[Addr.add]] at o7;obtain⟨r,hr⟩:=eX (n-(p+1))
     have PH:p+1+r=n:=oM;obtain⟨rc,hrc⟩:=eX (c-(p+1))
     rw[hr,hrc] at o7;clear hx hy M8 hst iM hr hrc;go_wp2_with fail
     go_quiet (fail)
     go_wp2_with fail
     have jR:=hid (show qn g c l (p+1+1) w (w.drewN (m+nq)) from by have:=yL.drewN nq;simpa[World.drewN,qg] using this);have Dc:(S9 none (l.take (p+1+1))).length=p+1:=(by rw[rU,lT,HG.2.2.1];omega);have Nm:=hid Dc;clear c0 c1 cl Dc yL cF KJ hpw fL hd;go_loopw [3,5] (fun kv jv wz=>∃ (k' j:Nat),j<=r/\1<=j/\kv = iI k'/\jv = iI j/\(S9 none (l.take (p+1+j))).length=k'/\k'+1<=p+1+j/\qn g c l (p+1+j) w wz) fun _ jv _=>r-(intOf jv).toNat
     case atStart=>exact⟨p+1,1,oM,nR _,rfl,rfl,Nm.o,nR _,jR.o⟩
     case round =>
      obtain⟨wz,rfl⟩:∃ wz:World,wz=wr:=⟨_,rfl⟩
      obtain⟨k',j,Px,Fj,rfl,rfl,A5,hkj,hS⟩:=hrel;have HS:=hid hS;have HK:=hid A5;clear hS;obtain⟨I2,gj,JJ,JH,JK⟩:=HS.ex;have fq:=hi2 gj (aI JJ (aI JH JK));clear A5 gj JJ JH JK;by_cases T7:j<r
      .have Fk:(j:Int)<(r:Int):=oM;have Vj:wrap64 ((j:Int)+1)=((j+1:Nat):Int):=(by simp only[wrap64];omega);have fL:wrap64 ((k':Int)+1)=((k'+1:Nat):Int):=(by simp only[wrap64];omega);have Vo:(k':Int)<(n:Int):=oM;obtain⟨i,rfl⟩:∃ i,j=i+1:=⟨j-1,oM⟩
       have hiw:wrap64 (((i+1:Nat):Int)-1)=(i:Int):=(by simp only[wrap64];omega);have xy:(i:Int)<(r:Int):=oM;obtain⟨u,hu⟩:∃ u,l[p+1+(i+1)]?=some u:=⟨_,gE (by rw[HG.2.2.1];omega)⟩
       obtain⟨t,ht⟩:∃ t,l[p+1+i]?=some t:=⟨_,gE (by rw[HG.2.2.1];omega)⟩
       have c0:=(G0 fq.1 (p+1+(i+1))).trans (fq.2.2.2 _ _ oM hu);have c1:=(G0 fq.1 (p+1+i)).trans (fq.2.2.2 _ _ oM ht);have cz:=fun o=>X2 fq.1 o
       have cl:=M0 fq.1;obtain⟨o0,zQ⟩:∃ o0,wz.cell? (aA g k')=some o0:=⟨_,(G0 fq.1 k').trans (Qe (by rw[fq.2.1];omega))⟩
       have M8:qQ none (l.take (p+1+(i+1)))=some t:=jR0 ht;have HU:=hi2 hu M8;have hst:=OT hu;clear hu ht M8;by_cases hne:u=t
       .subst hne;rw[if_pos HU.2,vL] at hst;have rU:=hid hst;clear hst;go_wp2_with fail
        go_quiet (fail)
        go_wp2_with fail
        go_roundw;case rel=>exact⟨k',i+1+1,T7,oM,rfl,by go_num,by rw[<- HK];exact congrArg List.length rU.o,oM,HS.skip HU.1 HU.2 _⟩
        case measure=>exact wM
       .have gq:qQ none (l.take (p+1+(i+1)))≠some u:=fun e=>by rw[HU.2] at e;exact hne (Option.some.inj e).symm
        rw[if_neg gq] at hst;have rU:=hid hst;have Bb:=hid gq;have Dk:(u == t)=false:=(by simpa using hne);have hneb2:(u != t)=true:=(by simpa using hne);clear hst gq;go_wp2_with fail
        go_quiet (fail)
        go_wp2_with fail
        go_roundw;case rel =>
         refine⟨k'+1,i+1+1,T7,oM,by go_num,by go_num,?_,oM,?_⟩
         .rw[<- HK,show p+1+(i+1+1)=p+1+(i+1)+1 by omega,rU.o,lA];rfl
         .have:=(HS.drewN nq).take HU.1 Bb.o (by rw[HK];omega) oM;rw[HK] at this;exact this
        case measure=>exact wM
      .obtain rfl:j=r:=by omega
       have hjj:¬ (j:Int)<(j:Int):=oM;rw[show p+1+j=n by omega,tL (N6 HG.2.2.1)] at HK fq;have Vo:k'<n:=oM;have hfk:=Yo (some ⟨g,0,none⟩) n c k' oM;rw[if_neg oM,show (some ⟨g,0,none⟩:Option Addr).map (·.add (k'*1))=some ⟨g,k',none⟩ by simp[Addr.add];exact fun h=>h.symm] at hfk;have Z3:=Zg (some ⟨g,0,none⟩) n c k' oM;obtain⟨zs,xR,B6⟩:=ek0 (P:=prog) wz 52 3 (0:Nat) _ 1 underlying52 HZ.o rfl dC (by simp[Value.cells,Value.oneCell']) g k' (n-k') (c-k') oM I2 3 fq.1 (by rw[fq.2.1];omega);have xp:∀ ty,(Builtin.clear_ #[52] ty #[sL (aP g k') (n-k') (c-k')]).run prog wz = .ok (tU #[]) (wz.setRow g (I2.toList.take k'++zs++I2.toList.drop (k'+zs.length)).toArray):=fun _=>B6
       obtain⟨R5,S4⟩:=xe ((I2.toList.take k'++zs++I2.toList.drop (k'+zs.length)).toArray)
       rw[<- S4] at xp;have S7:Ay (wz.setRow g R5) base (sL g k' c) (S9 none l):=by
        have db:=setRow_heap wz g I2 R5 3 _ fq.1;refine⟨by simp,.inr ⟨g,c,R5,by rw[HK],HG.2.2.2.1,db,by rw[HK];omega,HG.2.2.2.2.1,?_,?_⟩⟩
        .rw[S4];have:=fq.2.1;simp only[zA,lA,lT,ed,ow];omega
        .rw[HK,S4];simp only[dD,Nat.mul_one];have hsz:=fq.2.1;rw[FK (by rw[lT,ow];omega),List.take_take,Nat.min_self];refine Am fun q=>?_
         rw[gT,gP];split
         .rename_i hq;obtain⟨z,hz⟩:∃ z,(S9 none l)[q]?=some z:=⟨_,gE (by rw[HK.o];exact hq)⟩
          have:=fq.2.2.1 q z hz;rw[hz];simpa using this
         .rename_i hq;rw[Al (by rw[HK];omega)];rfl
       have o7:Fr (fun b=>b=g) w (wz.setRow g R5):=HS.fr.trans (Bw _ g R5) nI;have aa:=hi2 S7 o7;clear B6 S7 o7 S4 xR;go_wp2_with fail
       go_ret;exact⟨some ⟨g,0,none⟩,c,by rw[HK];rfl,by rw[HK];exact aa.1,aa.2.mono fun b _ h=>by subst h;rfl⟩
    .have Ki:¬ qQ none (l.take (p+1))=some x:=fun e=>by rw[M8] at e;exact he (Option.some.inj e).symm
     rw[if_neg Ki,HD] at hst;have rU:=hid hst;have gm:(x == y)=false:=(by simpa using he);clear hx hy M8 hst Ki;go_wp2_with fail
     go_quiet (fail)
     go_wp2_with fail
     go_roundw;case rel =>
      refine⟨p+1+1,m+nq,oM,hlt,by go_num,?_,by simp[World.drewN,qg]⟩;rw[rU,ea (i:=p+1),HX.1];rfl
     case measure=>exact wM
   .obtain rfl:k=n:=by omega
    have ag:¬ (k:Int)<(k:Int):=oM;have T6:S9 none l=l:=by
     have:=HD.o;rwa [tL (N6 HG.2.2.1)] at this
    have AT:=hid T6;clear T6;go_wp2_with fail
    go_ret;exact⟨some ⟨g,0,none⟩,c,by rw[AT,HG.2.2.1];rfl,by rw[AT];exact oN HO.o (fR.drewN m),fR.drewN m⟩
end
section
open Go.RowKit Go.Sg Go.Sg.Bits Go.Sg.r4 CP SF
def wI0 (l:List Rf):∀ u ∈ l.flatMap N7,u.oneCell'=true:=by
 intro u hu;obtain⟨r,_,hr⟩:=ui.1 hu;simp only[N7,d9,List.not_mem_nil,or_false] at hr;rcases hr with rfl|rfl <;> rfl
def AP0 (B:P0)(bx bd:Nat)(y:Cs)(P:J2)(N:Nat)(x:P1)(E0 slots:List Rf)(L:List Bp)(sp:Int)(w:w9)(e:Ending)(w':w9):Prop:=
 ∃ (a:Option Addr) (n c:Nat),e = rT (tU #[sL a n c,iI 0])/\D0 B w w'/\(∃ ps,ps=S9 none (bM ((((x.rp,x.rs) :: E0)++slots).map (·.1)))/\n=ps.length/\w'.ownsRow w 3 1 (sL a n c) n (ps.map (Value.int .i64)))/\Y1 w' B bx bd y P false N x E0 slots L sp
variable {L:List Bp}
def uB0 {w:w9}{B:P0}{bx bd:Nat}{y:Cs}{P:J2}{N:Nat}{x:P1}{E0 slots:List Rf}{sp:Int}(h:Y1 w B bx bd y P false N x E0 slots L sp)(hN:N+10<=90000) :
  cP 72 #[O7 bx] w (AP0 B bx bd y P (N+10) x E0 slots L sp w):=by
 have hsm:=h.small;have nw:=hid (pf0 h.st h.dir h.c oM);obtain⟨i0,i1,i2,i3,i4,iz,il⟩:=cells5 (show dG w bx B.s bd 3 3 sp from h.idx);have r9:=h.c.D7;have X3:=h.c.slen;have HM:=hid h;have Nt:=hid hsm;clear h hsm;go_enter func72,ntmps72;go_wp2_with fail
 refine nw.mono ?_;rintro e w1 ⟨v1,err,rfl,F1,⟨rfl,K1,du⟩|⟨_,ha,_⟩⟩;rotate_left
 .cases ha
 have zx:=HM.T1 F1 du;have lS:=hid (Yk zx.st zx.dir zx.c (by have:=Nt.o;omega));have rL:=hi2 zx (aI K1 F1);clear K1 du F1 nw i0 i1 i2 i3 i4 iz il zx;obtain⟨i0,i1,i2,i3,i4,iz,il⟩:=cells5 (show dG w1 bx B.s bd 3 3 sp from rL.1.idx);go_wp2_with fail
 refine lS.mono ?_;rintro e w2 ⟨v2,err,rfl,F2,⟨rfl,N0,cB⟩|⟨_,ha,_⟩⟩;rotate_left
 .cases ha
 have vd:=rL.1.T1 F2 cB;have K1:=BL rL.2.1 dC F2;obtain⟨i35,hi,J1,M1,O1⟩:=info_parts eQ;obtain⟨j3,hj,cH,jz1,cI⟩:=info_parts bJ;have mX:=rL.2.2.size;have hnn:=aI K1 N0;obtain⟨a1,c1,rfl,-,-,-,-⟩:=A2 K1;obtain⟨a2,c2,rfl,Vz,UF,-,hsome⟩:=A2 N0;have nY:((x.rp,x.rs) :: E0).length<=3:=by simp only[lC];have:=Nt.o;omega
 have A8:slots.length<=8:=by have:=Nt.o;omega
 have Kg:0<slots.length:=by rw[X3];unfold P1.slots;exact iu dC
 obtain⟨g2,cap2,R5,e2,L4,db,-,-,fP,zZ⟩:∃ g cap cur,sL a2 slots.length c2 = sL (aP g 0) slots.length cap/\w1.heap.size<=g/\w2.heap[g]?=some (.cells cur 35)/\slots.length<=cap/\cap<=maxLen/\cur.size=cap*2/\cur.toList.take (slots.length*2)=slots.flatMap N7:=by
  obtain⟨_,⟨h0,h1⟩|⟨g,cap,cur,r⟩⟩:=N0
  .omega
  .exact⟨g,cap,cur,r⟩
 cases e2;have df:∀ j u,(slots.flatMap N7)[j]?=some u->w2.cell? ((⟨g2,0,none⟩:Addr).add j)=some u:=fun j u hj=>by
  rw[addr_add,o8,G0 db];rw[<- zZ,gT] at hj;split at hj
  .simpa using hj
  .cases hj
 obtain⟨n1,ax⟩:=eX (((x.rp,x.rs) :: E0).length)
 obtain⟨n2,ey⟩:=eX slots.length
 obtain⟨pl,X9⟩:=eX (((x.rp,x.rs) :: E0)++slots)
 have KK:pl.length=n1+n2:=by rw[<- X9,lA,ax,ey]
 have ei:=hi2 X9 KK;have tJ:w2.ownsRow w 35 2 (sL a1 n1 c1) n1 (((x.rp,x.rs) :: E0).flatMap N7):=by rw[<- ax];exact K1
 have HO:=hi2 vd (aI tJ F2);rw[ax,ey];rw[ax] at nY;rw[ey] at A8 Kg;have Dl:(slots.flatMap N7).length=n2*2:=by rw[Ou,ey]
 clear K1 N0 cB F2 hnn hsome db fP zZ ax ey X9 KK tJ vd lS X3 r9 i0 i1 i2 i3 i4 iz il;go_wp2_with (at_builtin;go_loud (refine wpList_append_own_at _ rfl (.tmp 34) (.tmp 35) 33 rfl w.heap.size 35 i35 _ 2 16 underlying33 hi J1 M1 O1 rfl dC _ _ _ rfl HO.2.1 ⟨g2,0,none⟩ n2 c2 (slots.flatMap N7) rfl Dl df (wI0 _) (by simp[maxLen];omega) oM (by have:=HO.2.2.size;omega) ?_))
 rintro v3 w3 K0 Q3 - -;obtain⟨a3,c3,rfl,-,-,-,-⟩:=A2 K0;obtain⟨n,hn⟩:=eX (n1+n2)
 rw[hn] at K0 ⊢;have hn11:n<=11:=oM
 have tN:w3.ownsRow w 35 2 (sL a3 n c3) n (pl.flatMap N7):=by
  rw[<- ei.1,dY];exact K0
 have Zv:D0 B w w3:=Fr.trans (D0.trans rL.2.2 HO.2.2) (qK Q3) (fun b hb e=>by have:=(bK HO.2.1 e).1;omega);have IX:Y1 w3 B bx bd y P false (N+1+1+x.leaves) x E0 slots L sp:=by
  refine HO.1.BS (qK Q3) (fun r e=>?_) (fun g c t ht hg e=>?_) fun e=>?_
  .obtain⟨-,c,hc⟩:=O6 HO.2.1 e.symm;exact absurd (HO.1.st.XZ r hc) dC
  .obtain⟨-,c',hc⟩:=O6 HO.2.1 e.symm;rw[hg] at hc;cases hc;exact absurd ht dC
  .have h1:=(bK HO.2.1 e).1;have:=HM.qS;omega
 have H3:=hi2 IX (aI tN (aI Zv (show pl.length=n by rw[ei.2,hn])));clear K0 Q3 tN Zv IX hn df L4 Vz UF Dl nY Kg A8;go_wp2_with fail
 go_loopw [7,38] (fun uv iv wr=>∃ q:Nat,q<=n/\iv = iI q/\wr.ownsRow w3 3 1 uv q (((pl.take q).map (·.1)).map (Value.int .i64))/\Fq w3 wr) fun _ iv _=>n-(intOf iv).toNat
 case atStart=>exact⟨0,C3 _,rfl,ownsRow_nil' _ _ _ _,fR⟩
 case round =>
  obtain⟨q,ah,rfl,A0,ar⟩:=hrel;obtain⟨ua,uc,rfl,-,-,-,-⟩:=A2 A0;have GX:=hi2 A0 ar;clear A0 ar;by_cases hlt:q<n
  .have zY:(q:Int)<(n:Int):=by omega
   have hqw:wrap64 ((q:Int)+1)=((q+1:Nat):Int):=by simp only[wrap64];omega
   obtain⟨r,hr⟩:∃ r,pl[q]?=some r:=⟨_,gE (by rw[H3.2.2.2];exact hlt)⟩
   obtain⟨g,rfl,fJ,c0,c1'⟩:=EV (show wr.ownsRow w 35 2 (sL a3 pl.length c3) pl.length (pl.flatMap N7) by rw[H3.2.2.2];exact oN H3.2.1 GX.2) hr;have HR:=hid hr;clear hr;go_upto_region 13 with fail
   obtain⟨b9,R7⟩:=eX wr.heap.size
   obtain⟨wv,PL⟩:=eX (wr.alloc (.cells #[iI r.1,iI r.2] 35))
   have Fv:=fA PL
   have g9:wv.heap[b9]?=some (.cells #[iI r.1,iI r.2] 35):=by rw[<- PL,<- R7];exact han _ _
   rw[PL,R7];obtain⟨d0,d1,dz,dl⟩:=cells2 g9;have HV:=hi2 (oN GX.1 Fv) (GX.2.trans Fv nI);clear PL R7 Fv g9 c0 c1' fJ;go_wp2_with (at_builtin;refine wpList_append_own_at _ rfl (.tmp 42) (.tmp 45) 52 rfl w3.heap.size 3 j3 _ 1 8 underlying52 hj cH jz1 cI rfl dC _ _ _ rfl (oN HV.1 (fR.alloc _)) ⟨wv,0,none⟩ 1 1 [iI r.1] rfl rfl (World.news_of_block (cs:=#[iI r.1]) (t:=3) (fr:=(0,0)) (han _ _)) (by simp[Value.oneCell']) (by simp[maxLen];omega) oM (by have:=HV.2.size;simp;omega) ?_)
   rintro v4 w4 C2 lE - -;have IP:Fq w3 w4:=((HV.2).alloc _).trans (qK lE) (fun b hb e=>by have:=(bK HV.1 e).1;omega);have J3:w4.ownsRow w3 3 1 v4 (q+1) (((pl.take (q+1)).map (·.1)).map (Value.int .i64)):=by
    have e:(((pl.take (q+1)).map (·.1)).map (Value.int .i64))=List.take q (List.map (Value.int .i64 ∘ fun x=>x.1) pl)++[iI r.1]:=(by rw[ea,HR];simp[List.map_take]);rw[e];exact C2
   have H4:=hi2 J3 IP;clear C2 lE J3 IP d0 d1 dz dl;go_wp2_with fail
   go_roundw;case rel=>exact⟨q+1,hlt,by go_num,H4.1,H4.2⟩
   case measure=>exact wM
  .obtain rfl:q=n:=by omega
   have zY:¬ (q:Int)<(q:Int):=oM
   obtain⟨ps,aD⟩:=eX (pl.map (·.1))
   have X9:ps.length=q:=by rw[<- aD,Z8,H3.2.2.2]
   have A0:Ay wr w3.heap.size (sL ua q uc) ps:=by
    have:=GX.1;rw[tL (N6 H3.2.2.2),aD] at this;show wr.ownsRow _ _ _ _ ps.length _;rw[X9];exact this
   have jT:=hid (pM0 A0 oM);have GW:=hid A0;have wn:=hi2 aD X9;clear A0 aD X9;go_wp2_with fail
   refine jT.mono ?_;rintro e w4 ⟨rfl,C2,F4⟩;have IP:Fq w3 w4:=GX.2.trans F4 (fun b hb e=>by have:=(O6 GW.o e).1;omega);have X3:(bM ps).length=q:=by rw[List.length_mergeSort];exact wn.2
   have AP:=hid (qn0 C2 (nT (N6 (show _=q by rw[List.length_mergeSort];exact wn.2)) oM));have H4:=hi2 C2 IP;clear C2 F4 IP X3 jT;go_wp2_with fail
   refine AP.mono ?_;rintro e w5 ⟨a5,c5,rfl,J3,F5⟩;have fG:Fq w3 w5:=H4.2.trans F5 (fun b hb e=>by have:=(O6 H4.1 e.symm).1;omega);have H5:=hi2 J3 fG;clear J3 F5 fG AP;go_wp2_with fail
   go_ret2;refine⟨a5,_,c5,rfl,D0.trans H3.2.2.1 (D0.none H5.2),⟨S9 none (bM ps),by rw[<- wn.1,<- ei.1],rfl,ao H5.1 H3.2.2.1.size⟩,(H3.1.mono (by have:=Nt.o;omega) hN).J0 H5.2⟩
def Oo:∀ (t:Tr) (g k d p:Nat),t.high<=g->k<2^g->(iJ t g d p)[k]?=some (t.at_ g k d p)
 | .leaf r es,g,k,d,p,_,hk=>by
  simp only[iJ,Tr.at_];rw[rk,if_pos hk]
 | .node l r,g,k,d,p,h,hk=>by
  simp only[Tr.high] at h;have h2:=Tr.se (g:=g) oM;simp only[iJ,Tr.at_];have hl:=Il l (g-1) (d+1) (2*p) oM;by_cases hlt:k<2^(g-1)
  .rw[if_pos hlt,jn oM];exact Oo l _ _ _ _ oM hlt
  .rw[if_neg hlt,kN oM,hl];exact Oo r _ _ _ _ oM oM
def zh0 {t:Nat->Bool}{m:Nat}{x:Int}:x ∈ tu t m↔∃ n:Nat,x=n/\n<m/\t n=true:=by
 simp only[tu,N4,rn,List.mem_range];constructor
 .rintro⟨n,⟨h1,h2⟩,rfl⟩;exact⟨n,rfl,h1,h2⟩
 .rintro⟨n,rfl,h1,h2⟩;exact⟨n,⟨h1,h2⟩,rfl⟩
def pN0 (l:List Int):(bM l).Pairwise (·<=·):=by
 have:=List.pairwise_mergeSort (le:=fun x y:Int=>decide (x<=y)) (fun a b c h1 h2=>by simp at *;omega) (fun a b=>by simp;omega) l;exact this.imp (fun h=>by simpa using h)
def no0 {l:List Nat}(h:l.Nodup):(l.map fun (k:Nat)=>(k:Int)).Nodup:=by
 rw[List.Nodup,An];exact h.imp fun h e=>h (Int.ofNat.inj e)
def yU:∀ (t:Tr) (g:Nat) (r:Rf),t.high<=g->(r ∈ t.slots g↔r ∈ t.refs)
 | .leaf q es,g,r,_=>by
  have:=iu (n:=g) (show 0<2 by decide);simp only[Tr.slots,Tr.refs,List.mem_replicate,mZ];constructor
  .exact fun h=>h.2
  .exact fun h=>⟨oM,h⟩
 | .node l r',g,r,h=>by
  simp only[Tr.high] at h;simp only[Tr.slots,Tr.refs,X5];rw[yU l (g-1) r oM,yU r' (g-1) r oM]
def mS0 {t:Tr}{g:Nat}(h:t.high<=g)(hP:L.Perm (aj t 0 0))(r:Rf):r ∈ t.slots g↔∃ q ∈ L,q.1=r:=by
 rw[yU t g r h,<- OO t 0 0,N4];constructor
 .rintro⟨s,hs,rfl⟩;exact⟨_,xD0 hP hs,rfl⟩
 .rintro⟨q,hq,rfl⟩;rw[hP.mem_iff,EQ,N4] at hq;obtain⟨s,hs,rfl⟩:=hq;exact⟨s,hs,rfl⟩
section
variable {w w':w9}{B:P0}{bx bd:Nat}{y:Cs}{P:D4}{a:Bool}{N:Nat}{x:P1}{E0 slots:List Rf}{L:List Bp}{sp:Int}
def Y1.BW0 (h:Y1 w B bx bd y P a N x E0 slots L sp)(X3:∀ r,r ∈ slots↔∃ q ∈ L,q.1=r) :
  (S9 none (bM ((((x.rp,x.rs) :: E0)++slots).map (·.1)))).Perm ((B2 x.rp E0++X6 L).map fun (k:Nat)=>(k:Int)):=by
 obtain⟨hs,-⟩:=TI _ none (pN0 ((((x.rp,x.rs) :: E0)++slots).map (·.1))) (fun z hz=>by cases hz);refine (List.perm_ext_iff_of_nodup (hs.imp fun h=>oM) (no0 h.lv.nd)).2 fun z=>?_
 have hm:z ∈ S9 none (bM ((((x.rp,x.rs) :: E0)++slots).map (·.1)))↔z ∈ (((x.rp,x.rs) :: E0)++slots).map (·.1):=by
  constructor
  .exact fun hz=>(List.mergeSort_perm _ _).mem_iff.1 (TB _ _ _ hz)
  .exact fun hz=>(se0 _ none z ((List.mergeSort_perm _ _).mem_iff.2 hz)).elim id (fun e=>by cases e)
 rw[hm];have h0:=h.c.rr.1;have ht:∀ r ∈ E0,0<=r.1:=fun r hr=>(h.c.leaf.tr r hr).1
 have hl:∀ q ∈ L,0<=q.1.1:=fun q hq=>(h.bk q hq).1.1
 simp only[B9,qf,X5,d9,N4,B2];constructor
 .rintro ((rfl|⟨r,hr,rfl⟩)|⟨r,hr,rfl⟩)
  .exact .inl (.inl oM)
  .exact .inl (.inr ⟨r.1.toNat,⟨r,hr,rfl⟩,by have:=ht r hr;omega⟩)
  .obtain⟨q,hq,rfl⟩:=(X3 r).1 hr;exact .inr ⟨q.1.1.toNat,⟨q,hq,rfl⟩,by have:=hl q hq;omega⟩
 .rintro ((h1|⟨k,⟨r,hr,rfl⟩,rfl⟩)|⟨k,⟨q,hq,rfl⟩,rfl⟩)
  .exact .inl (.inl oM)
  .exact .inl (.inr ⟨r,hr,by have:=ht r hr;omega⟩)
  .exact .inr ⟨q.1,(X3 _).2 ⟨q,hq,rfl⟩,by have:=hl q hq;omega⟩
end
section
variable {w0 V V':w9}{base bs bv bx k:Nat}{t:Tr}
end
end
section
open Go.RowKit Go.Sg CP SF
abbrev t8 (w:w9)(base:Nat)(v:Value)(es:List Bt):Prop:=w.ownsRow base 110 4 v es.length (es.flatMap Q1)
variable {w:w9}{h k:Nat}{x:Bt}
def qO {base c n:Nat}{a:Option Addr}{l:List Bt}(h:w.ownsRow base 110 4 (sL a n c) n (l.flatMap Q1))(hx:l[k]?=some x) :
  ∃ g,a=some ⟨g,0,none⟩/\g<w.heap.size/\w.cell? (aA g (k*4))=some (iU x.hash)/\w.cell? (aA g (k*4+1))=some (iI x.rg)/\w.cell? (aA g (k*4+2))=some (iI x.at_)/\w.cell? (aA g (k*4+3))=some (iI x.sz):=by
 obtain⟨f0,f1,f2,f3⟩:=xO0 l k x hx;obtain⟨g,e,hg,h0⟩:=d8 h f0;obtain⟨g1,e1,_,h1⟩:=d8 h f1;obtain⟨g2,e2,_,h2⟩:=d8 h f2;obtain⟨g3,e3,_,h3⟩:=d8 h f3;rw[e] at e1 e2 e3;cases e1;cases e2;cases e3;exact⟨g,e,hg,h0,h1,h2,h3⟩
def ny:(prog.info? 110).map (fun i=>(i.zero,i.size,i.bytes))=some (some (.agg #[iU 0,iI 0,iI 0,iI 0]),4,32):=by kernel_rfl
abbrev gH (d p:Int)(v:Value):Value:=.agg #[iI d,iI p,v]
def rY {m:Nat}(h:m<1000000):wrap64 ((m:Int)+1)=((m+1:Nat):Int):=by simp only[wrap64];omega
def mx (es:List Bt)(h:Nat):Int:=match es.findIdx? (fun x=>decide (x.hash=h)) with
 | some i=>i
 | none=>-1
variable {es:List Bt}
def oC0 (hx:es[k]?=some x)(he:x.hash=h)(hn:∀ j y,j<k->es[j]?=some y->y.hash≠h):mx es h=k:=by
 have:es.findIdx? (fun x=>decide (x.hash=h))=some k:=by
  obtain⟨hk,e⟩:=gI.1 hx;rw[ox];refine⟨hk,by rw[e];simpa using he,fun j hj=>?_⟩;have:=hn j es[j] hj (gE _);simpa using this
 unfold mx;rw[this]
def oD0 (hn:∀ j y,j<es.length->es[j]?=some y->y.hash≠h):mx es h = -1:=by
 have:es.findIdx? (fun x=>decide (x.hash=h))=none:=by
  rw[ud];intro x hx;obtain⟨j,hj⟩:=ou.1 hx;have:=hn j x (gI.1 hj).1 hj;simpa using this
 unfold mx;rw[this]
def MT (z:Int)(w:w9)(e:Ending)(w':w9):Prop:=e = rT (iI z)/\Fq w w'
def OM {v:Value}(hE:t8 w 0 v es)(hl:es.length<=65535)(d p:Int)(h:Nat):cP 206 #[gH d p v,iU h] w (MT (mx es h) w):=by
 obtain⟨va,vc,rfl,-,-,-,-⟩:=A2 hE;obtain⟨n,hn⟩:=eX es.length
 obtain⟨w1,I0⟩:=eX (w.alloc (.cells #[iI d,iI p,sL va n vc] 220))
 have F1:=fA I0
 have b0:=fB I0
 have Z5:=oN hE F1;rw[hn] at Z5 hl ⊢;obtain⟨x0,x1,x2,xz,xl⟩:=cells3 b0;have HE:=hid Z5;have HN:=hid hn;have HF:=hid F1;have HW:=hid I0;clear hE Z5 hn F1 I0 b0;go_enter func206,ntmps206;go_upto_region 1 with fail
 rw[HW];go_wp2_with fail
 go_loopw [5] (fun i wr=>∃ k:Nat,k<=n/\i = iI k/\wr=w1/\∀ j y,j<k->es[j]?=some y->y.hash≠h) fun i _=>n-(intOf i).toNat
 case atStart=>exact⟨0,C3 _,rfl,rfl,fun j y hj=>oM⟩
 case round =>
  obtain⟨k,hk,rfl,rfl,hno⟩:=hrel;by_cases hlt:k<n
  .have hd:decide ((k:Int)<(n:Int))=true:=by simp;omega
   have cF:(k:Int)<(n:Int):=oM
   have fL:wrap64 ((k:Int)+1)=((k+1:Nat):Int):=rY oM;obtain⟨x,hx⟩:∃ x,es[k]?=some x:=⟨_,gE (by rw[HN.o];exact hlt)⟩
   obtain⟨g,rfl,hg,c0,-⟩:=qO HE.o hx;have HX:=hi2 hx hno;clear hx hno;by_cases he:x.hash=h
   .have gm:((x.hash:Int) == (h:Int))=true:=(by rw[he];simp);have HR:=hid (oC0 HX.1 he HX.2);clear he;go_wp2_with fail
    go_ret;refine⟨?_,HF.o⟩;rw[HR];rfl
   .have gm:((x.hash:Int) == (h:Int))=false:=by
     have:¬ (x.hash:Int)=(h:Int):=oM;simpa using this
    have Bb:=hid he;clear he;go_wp2_with fail
    go_roundw;case rel=>exact⟨k+1,hlt,by go_num,by first|rfl|trivial,fun j y hj hy=>by
     by_cases e:j=k
     .subst e;rw[HX.1] at hy;cases hy;exact Bb
     .exact HX.2 j y oM hy⟩
    case measure=>exact wM
  .obtain rfl:k=n:=by omega
   have hd:decide ((k:Int)<(k:Int))=false:=by simp
   have HR:=hid (oD0 (h:=h) (by rw[HN];exact hno));clear hno;go_wp2_with fail
   go_ret;refine⟨?_,HF.o⟩;rw[HR];rfl
