/- A pack of texts. Conditions: those that each names. -/
import Derived.Test.YtgdhaaokolfdoaaGreatDoorNAR
set_option maxHeartbeats 16000000
set_option maxRecDepth 100000
set_option linter.all false
namespace Go.Proofs.YtgdhaaokolfdoaaGreatDoor
open Go.RowKit Go.Sg Go.Sg.Bits Go.Sg.r4 CP SF Tryz
abbrev uo:D4:=fun _=>none
structure DL0 (y:Cs)(k:Nat)(bs:List Int):Prop where
 pages:y.pages=48
 room:y.room=77
 gen:y.gen=1
 places:y.places=8
 hand:y.hand=k % 48
 taken:∀ j,j<48->y.taken j=decide (j<k)
 cont:∀ j:Nat,j<k->y.cont j=some (1,bs++[(j:Int)])
def eQ:(prog.info? 35).map (fun i=>(i.zero,i.size,i.bytes))=some (some (.agg #[iI 0,iI 0]),2,16):=by kernel_rfl
end Go.Proofs.YtgdhaaokolfdoaaGreatDoor
namespace Go.Sg
def N7 (x:Int × Int):List Value:=[iI x.1,iI x.2]
def O6 {w:w9}{base n size e:Nat}{v:Value}{xs:List Value}(h:w.ownsRow base e size v n xs){g:Nat}(hg:some g=v.ownBlock):base<=g/\∃ c,w.heap[g]?=some (.cells c e):=by
 obtain⟨_,⟨rfl,_⟩|⟨g',cap,cur,rfl,hb,dK,_⟩⟩:=h
 .simp[Value.ownBlock] at hg
 .have:g=g':=by simpa[Value.ownBlock] using hg
  subst this;exact⟨hb,_,dK⟩
def Ou (l:List (Int × Int)):(l.flatMap N7).length=l.length*2:=by
 induction l with
 | nil=>rfl
 | cons x l ih=>simp only[dj,lA,lC,ih,N7];simp;omega
end Go.Sg
namespace Go.Proofs.YtgdhaaokolfdoaaGreatDoor
open Go.RowKit Go.Sg CP SF Tryz
abbrev aq (w:w9)(base:Nat)(v:Value)(l:List (Int × Int)):Prop:=w.ownsRow base 35 2 v l.length (l.flatMap N7)
def AO0 (l:List (Int × Int))(w:w9)(e:Ending)(w':w9):Prop:=∃ v,e = rT (tU #[v,iI 0])/\aq w' w.heap.size v l/\Fq w w'
def DA0 (r:Nat)(bs:List Int)(k:Nat)(w:w9)(e:Ending)(w':w9):Prop:=e = rT (iU (jM (bs.take k)))/\cA w' r (bs.drop k) false/\Fr (fun b=>b=r) w w'
variable {w:w9}{l:List (Int × Int)}
def YJ {r:Nat}{bs:List Int}(h:cA w r bs false)(O2:∀ x ∈ bs,0<=x/\x<256)(k:Nat)(kz:Int)(Ke:kz=k)(hk:k=1\/k=2\/k=4\/k=8)(hm:k<=bs.length) :
  cP 216 #[pO r,iI kz] w (DA0 r bs k w):=by
 subst Ke;exact yw0 h O2 k hk hm
def ut0 (x:Int × Int):∀ z ∈ Ea x,0<=z/\z<256:=fun z hz=>by
 rcases X5.1 hz with h|h <;> exact Sg.kV _ _ z h
def wS (l:List (Int × Int)):∀ z ∈ P3 l,0<=z/\z<256:=fun z hz=>by
 obtain⟨x,_,h⟩:=ui.1 hz;exact ut0 x z h
def TC {k p q:Nat}(h:l[k]?=some ((p:Int),(q:Int))):P3 (l.drop k)=Sg.leB p 4++(Sg.leB q 8++P3 (l.drop (k+1))):=by
 have hk:=(gI.1 h).1;have e:l[k]=((p:Int),(q:Int)):=(gI.1 h).2;rw[FT hk,e];simp[P3,Ea]
def Xo (n k:Nat)(t:List Int):(Sg.leB n k++t).take k=Sg.leB n k:=by
 rw[FK (by rw[e8];exact nR _),tL (by rw[e8];exact nR _)]
def Xb (n k:Nat)(t:List Int):(Sg.leB n k++t).drop k=t:=by
 rw[Xx (by rw[e8];exact nR _),XK (by rw[e8];exact nR _)];rfl
def xY0 (bs:List Int)(w:w9)(e:Ending)(w':w9):Prop:=∃ r,e = rT (pO (aP r 0))/\cA w' r bs false/\w.heap.size<=r/\Fq w w'
def WQ {a:Option Addr}{c n:Nat}(h:uN w a (12*n) c (P3 l))(hr:∀ x ∈ l,bh x)(hn:l.length=n)(ax:n<=64) :
  cP 181 #[sL a (12*n) c,iI n] w (AO0 l w):=by
 obtain⟨i0,A3,J1,M1,O1⟩:=info_parts eQ;have HR:=hi2 hr hn;have wm:=hid (show cP 215 #[sL a (12*n) c] w (xY0 (P3 l) w) from Tn h oM);clear h hr hn;go_enter func181,ntmps181;go_wp2_with (go_at_call 215;refine wm.mono ?_)
 rintro e w1 ⟨r,rfl,hW,PG,F1⟩;have R6:=hi2 hW F1;clear hW F1;go_wp2_with fail
 go_loopw [7,17] (fun v i wr=>∃ k:Nat,k<=n/\i = iI k/\cA wr r (P3 (l.drop k)) false/\aq wr w.heap.size v (l.take k)/\Fq w wr) fun _ i _=>n-(intOf i).toNat
 case atStart=>exact⟨0,C3 _,rfl,R6.1,World.ownsRow_nil _ _ _ _,R6.2⟩
 case round =>
  obtain⟨k,hk,rfl,hW,A0,F⟩:=hrel;have HW:=hi2 hW (aI A0 F);by_cases hlt:k<n
  .have hx:l[k]?=some (l[k]'(by rw[HR.2];exact hlt)):=gE _;generalize l[k]'(by rw[HR.2];exact hlt)=x at hx;have eC:=HR.1 x (gM hx);obtain⟨z1,z2⟩:=x;obtain⟨p,rfl⟩:=iZ eC.1;obtain⟨q,rfl⟩:=iZ eC.2.2.1;have fM:p<=2147483647:=by have:=eC.2.1;simp only at this;omega
   have mU:q<9223372036854775808:=by have:=eC.2.2.2;simp only at this;omega
   have hd:decide ((k:Int)<(n:Int))=true:=by simp;omega
   have Cj:=hW;rw[TC hx] at Cj;have aJ:=hid (YJ Cj (by rw[<- TC hx];exact wS _) 4 4 sP oM (by rw[lA,e8];omega));have HX:=hid hx;have HRX:=hid eC;clear hx hW Cj A0 F eC;go_wp2_with (go_at_call 216;refine aJ.mono ?_)
   rintro e W2 ⟨rfl,pB,F2⟩;rw[Xo,PU 4 p oM];rw[Xb] at pB;have bZ:=M0 (show wr.heap[r]?=some _ from HW.1.ex.choose_spec.choose_spec.1);have qE:=hid (YJ pB (fun z hz=>wS l z (by
    have:z ∈ P3 (l.drop k):=(by rw[TC HX];exact lK _ hz);obtain⟨y,hy,Y9⟩:=ui.1 this;exact ui.2 ⟨y,xZ hy,Y9⟩)) 8 8 sP oM (by rw[lA,e8];omega))
   have H2:=hid F2;have mN:IntKind.i64.wrap (p:Int)=(p:Int):=by rw[IntKind.wrap_i64];omega
   have JI:IntKind.i64.wrap (q:Int)=(q:Int):=by rw[IntKind.wrap_i64];omega
   clear pB F2 aJ;go_wp2_with (go_at_call 216;refine qE.mono ?_)
   rintro e W3 ⟨rfl,qX,F3⟩;rw[Xo,PU 8 q oM];rw[Xb] at qX;have J7:Fr (fun b=>b=r) wr W3:=H2.trans F3 nI;have K0:aq W3 w.heap.size u7 (l.take k):=K3 HW.2.1 J7 (fun g cs hg e=>by rw[e,HW.1.ex.choose_spec.choose_spec.1] at hg;cases hg);have H3:=hi2 qX (aI J7 K0);clear qX F3 J7 K0;go_upto_region 8 with fail
   obtain⟨W4,jA⟩:=eX (W3.alloc (.cells #[iI p,iI q] 35))
   rw[jA];have F4:=fA jA
   have j9:=fB jA
   have H4:=hi2 F4 j9;obtain⟨e0,e1,ez,el⟩:=cells2 j9;clear F4 j9 jA;have hrt:=Tl (p:Int) (q:Int) W4;unfold QA at hrt;rw[show si (p:Int) (q:Int)=true by simp[si];omega] at hrt;have yI:=hid hrt;clear hrt;go_wp2_with (go_at_call 117;refine yI.mono ?_)
   rintro e W5 ⟨rfl,F5⟩;have j9:=F5.heap H4.2 id;have H5:=hi2 (H4.1.trans F5 nI) j9;clear e0 e1 ez el;obtain⟨e0,e1,ez,el⟩:=cells2 j9;clear F5 j9;have J3:aq W5 w.heap.size u7 (l.take k):=K3 H3.2.2 H5.1 fun _ _ _ h=>h;have Je:cA W5 r (P3 (l.drop (k+1))) false:=H3.1.fr H5.1 id fun _ _ _ h=>h;have hlen:(l.take k).length=k:=by rw[lT,HR.2];omega
   have jo:Fq w W5:=(HW.2.2.trans H3.2.1 fun b hb e=>by subst e;omega).trans H5.1 nI;have H6:=hi2 J3 (aI Je jo);have En:=hid hlen;have hsz:w<=(W5:Nat):=jo.size;clear J3 Je jo hlen yI;go_wp2_with (at_builtin;refine wpList_append_own_at _ rfl (.tmp 29) (.tmp 31) 33 rfl w.heap.size 35 i0 _ 2 16 underlying33 A3 J1 M1 O1 rfl dC _ _ _ rfl (H6.1.alloc _) ⟨W5,0,none⟩ 1 1 [iI p,iI q] rfl rfl (World.news_of_block (cs:=#[iI p,iI q]) (t:=35) (fr:=(0,0)) (han _ _)) (by simp[Value.oneCell']) (by rw[En];simp[maxLen];omega) (by have:=En.o;omega) sO ?_)
   intro v2 W2 N0 Q0 U7 cW;have hF2:Fr (fun b=>some b=u7.ownBlock) W5 W2:=(fR.alloc _).trans (S':=fun b=>some b=u7.ownBlock) ⟨Q0.os,Q0.tape,Q0.output,Q0.size,fun b hb hn=>Q0.block b hb hn⟩ fun b hb h=>h;have hR7:cA W2 r (P3 (l.drop (k+1))) false:=H6.2.1.fr hF2 (fun e=>by
    obtain⟨_,c,hc⟩:=O6 H6.1 e;obtain⟨a,c',h1,_⟩:=H6.2.1.ex;rw[hc] at h1;cases h1) (fun b c hb e=>by
    obtain⟨_,c',hc⟩:=O6 H6.1 e;rw[hc] at hb;cases hb)
   have hF7:Fq w W2:=H6.2.2.trans hF2 (fun b hb e=>by have:=(O6 H6.1 e).1;omega);have H7:=hi2 N0 (aI hR7 hF7);clear N0 Q0 U7 cW hF2 hR7 hF7;go_wp2_with fail
   go_roundw;case rel =>
    refine⟨k+1,hlt,by go_num,H7.2.1,?_,H7.2.2⟩;have e1:l.take (k+1)=l.take k++[((p:Int),(q:Int))]:=(by rw[ea,HX];rfl);have e2:(l.take (k+1)).flatMap N7=(l.take k).flatMap N7++[iI p,iI q]:=(by rw[e1,dY];rfl);have e3:(l.take (k+1)).length=(l.take k).length+1:=(by rw[e1,lA];rfl);show W2.ownsRow _ 35 2 _ (l.take (k+1)).length ((l.take (k+1)).flatMap N7);rw[e2,e3,lT];exact H7.1
   case measure=>exact wM
  .obtain rfl:k=n:=by omega
   have hd:decide ((k:Int)<(k:Int))=false:=by simp
   clear hW A0 F;go_wp2_with fail
   go_ret2;have e1:l.take k=l:=tL (by rw[HR.2];exact nR _);have:=HW.2.1;rw[e1] at this;exact⟨_,rfl,this,HW.2.2⟩
end Go.Proofs.YtgdhaaokolfdoaaGreatDoor
namespace Go.Sg
abbrev Rf:=Int × Int
def chunk (l:List Rf)(per i:Nat):List Rf:=(l.drop (i*per)).take per
variable {l:List Rf}{i k per:Nat}{L:List Nat}
def EG (hk:k<per):(chunk l per i)[k]?=l[i*per+k]?:=by
 rw[chunk,gT,if_pos hk,jJ]
def sb (l:List Rf)(per i:Nat):(chunk l per i).length=min per (l.length-i*per):=by
 rw[chunk,lT,ed]
def R4 (l:List Rf)(L:List Nat)(r:Rf):List Rf:=L.foldl (fun l n=>l.set n r) l
def OH (L:List Nat)(r:Rf):∀ l:List Rf,(R4 l L r).length=l.length:=by
 induction L with
 | nil=>intro l;rfl
 | cons n L ih=>intro l;rw[R4,List.foldl_cons];exact (ih _).trans sP
def oW (L:List Nat)(r:Rf):∀ (l:List Rf) (i:Nat),(R4 l L r)[i]?=if i ∈ L then (l[i]?).map (fun _=>r) else l[i]?:=by
 induction L with
 | nil=>intro l i;simp[R4]
 | cons n L ih =>
  intro l i;have h1:(R4 l (n :: L) r)=R4 (l.set n r) L r:=rfl;have h2:(l.set n r)[i]?=if i=n then (l[i]?).map (fun _=>r) else l[i]?:=by
   rw[ug];by_cases e:n=i
   .subst e;rw[if_pos rfl,if_pos rfl];by_cases hl:n<l.length
    .rw[if_pos hl,gE hl];rfl
    .rw[if_neg hl,Al oM];rfl
   .rw[if_neg e,if_neg fun h=>e h.symm]
  rw[h1,ih,h2];by_cases hi:i ∈ L
  .rw[if_pos hi,if_pos (jH _ hi)];split
   .cases l[i]? <;> rfl
   .rfl
  .rw[if_neg hi];by_cases e:i=n
   .rw[if_pos e,if_pos (by simp[e])]
   .rw[if_neg e,if_neg (by simp[e,hi])]
def EO {l':List Rf}(h:∀ i:Nat,l[i]?=l'[i]?):l=l':=Am h
variable {r:Rf}
def ub0 {L':List Nat}(h:∀ n,n ∈ L↔n ∈ L'):R4 l L r=R4 l L' r:=
 EO fun i=>by rw[oW,oW];simp only[h]
def iF0 (l:List Rf)(L L':List Nat)(r:Rf):R4 l (L++L') r=R4 (R4 l L r) L' r:=by simp[R4]
def TL (h:∀ x ∈ l,bh x)(hr:bh r):∀ x ∈ R4 l L r,bh x:=by
 intro x hx;obtain⟨i,hi,rfl⟩:=List.mem_iff_getElem.1 hx;have h1:=oW L r l i;rw[gE hi] at h1;split at h1
 .cases hl:l[i]? with
  | none=>rw[hl] at h1;cases h1
  | some v=>rw[hl] at h1;rw[show (R4 l L r)[i]=r from Option.some.inj h1];exact hr
 .exact h _ (gM h1.symm)
def sm0 (h:∀ n ∈ L,n/per=i)(hp:0<per):chunk (R4 l L r) per i=R4 (chunk l per i) (L.map (· % per)) r:=by
 refine EO fun k=>?_
 rw[oW];by_cases hk:k<per
 .rw[EG hk,oW,EG hk];have e:i*per+k ∈ L↔k ∈ L.map (· % per):=by
   rw[N4];constructor
   .intro h1;exact⟨_,h1,by rw[dU,Nat.mul_add_mod];exact Nat.mod_eq_of_lt hk⟩
   .rintro⟨n,hn,rfl⟩;have h1:=h n hn;have h2:=Nat.div_add_mod n per;rw[h1,dU] at h2;rw[h2];exact hn
  simp only[e]
 .rw[chunk,gT,if_neg hk,chunk,gT,if_neg hk];simp
def nm0 {j:Nat}(h:∀ n ∈ L,n/per=i)(CW:j≠i):chunk (R4 l L r) per j=chunk l per j:=by
 refine EO fun k=>?_
 by_cases hk:k<per
 .rw[EG hk,EG hk,oW,if_neg];intro hm;have h1:=h _ hm;rw[dU,Nat.mul_add_div oM,DK hk] at h1;omega
 .rw[chunk,gT,if_neg hk,chunk,gT,if_neg hk]
def Oj {l:List Nat}(h:l.Nodup){n m:Nat}(hk:l[k]?=some n):l.map (sw n m)=l.set k m:=by
 refine Am fun j=>?_
 rw[gP,ug];by_cases e:k=j
 .subst e;rw[hk,if_pos rfl,if_pos (gI.1 hk).1];simp[sw]
 .rw[if_neg e];cases hj:l[j]? with
  | none=>rfl
  | some v =>
   have:v≠n:=by
    rintro rfl;exact e ((FM (gI.1 hk).1 h).1 (hk.trans hj.symm))
   simp[sw,this]
end Go.Sg
namespace Go.Proofs.YtgdhaaokolfdoaaGreatDoor
open Go.RowKit Go.Sg Go.Sg.Bits Go.Sg.r4 CP SF Tryz
def B2 (rp:Int)(E0:List Rf):List Nat:=rp.toNat :: E0.map fun r=>r.1.toNat
structure kM (y:Cs)(x:P1):Prop where
 most:x.depth<=x.most/\x.most<=20
 per:0<x.per/\12*x.per<=y.room
 fits:∀ d,d<=x.most->12*((2^d+x.per-1)/x.per)<=y.room
 room:y.room<=493
structure YG (c:Cont)(per:Nat)(E0 slots:List Rf):Prop where
 sr:∀ r ∈ slots,bh r
 tr:∀ r ∈ E0,bh r
 at_:∀ (i:Nat) r,E0[i]?=some r->c r.1=some (r.2.toNat,P3 (chunk slots per i))
structure dH (y:Cs)(x:P1)(E0 slots:List Rf):Prop where
 z:kM y x
 slen:slots.length=x.slots
 D7:E0.length=x.leaves
 leaf:YG y.cont x.per E0 slots
 rr:0<=x.rp/\0<=x.rs
 root:y.cont x.rp=some (x.rs.toNat,P3 E0)
variable {y:Cs}{x:P1}{N base bd e i k lc ll n size:Nat}{W w w':w9}{a:Bool}{v:Value}{xs:List Value}{la:Option Addr}{bs:List Int}{c:Array Value}
def kM.leaves (h:kM y x):12*x.leaves<=y.room:=h.fits x.depth h.most.1
def kM.ru (h:kM y x):x.leaves<=41/\x.per<=41:=by
 have h1:=h.leaves;have h2:=h.per.2;have h3:=h.room;omega
def kM.It (h:kM y x):x.slots<=x.leaves*x.per:=by
 unfold P1.leaves;have h1:=h.per.1;have h2:=Nat.div_add_mod (x.slots+x.per-1) x.per;have h3:=rm (x.slots+x.per-1) h1;rw[dU] at h2;omega
def kM.wm0 (h:kM y x)(hi:i<x.leaves):i*x.per<x.slots:=by
 unfold P1.leaves at hi;have h1:=h.per.1;have h2:(i+1)*x.per<=x.slots+x.per-1:=(Qh h1).1 hi;rw[nb] at h2;omega
variable {l slots E0:List Rf}
def Ty (h:∀ r ∈ l,bh r)(per i:Nat):∀ r ∈ chunk l per i,bh r:=fun r hr=>h r (xZ (ov hr))
def CN0 (p:R8)(w:w9)(e:Ending)(w':w9):Prop:=e = rT p.val/\Fq w w'
variable {B:P0}{P:J2}
def Yx (h:C1 w B y P a N):cP 33 #[B.ptr] w (CN0 y.plan w):=by
 obtain⟨⟨x,c,hS,rfl,hi⟩,hT,hb⟩:=h;have hs:=hS.s;clear hS hi hT hb;obtain⟨⟨a,b,c,d,f,dp,hh,s⟩,x1,x2,x3,x4,x5,x6,x7,x8,x9,x10,x11,x12⟩:=x;have c1:=G0 hs 1;have c2:=G0 hs 2;have c3:=G0 hs 3;have c4:=G0 hs 4;have c5:=G0 hs 5;have c6:=G0 hs 6;have c7:=G0 hs 7;have c8:=G0 hs 8;simp at c1 c2 c3 c4 c5 c6 c7 c8;have l:=M0 hs;have n:¬ w.heap.size=B.s:=oM
 clear hs;go_enter func33,ntmps33;go_wp2
 refine bodyPost_ret (v:=.agg #[iI a,iI b,iI c,iI d,iI f,iI dp,iI hh,iU s]) sR rfl ⟨rfl,?_⟩;repeat (with_reducible refine Fr.U2 ?_ oM _)
 exact fR.alloc _
def yS (p:R8):P1:=⟨(S6 p).per.toNat,p.depth.toNat,0,0,0⟩
def AtP (s:Nat)(p:R8)(w:w9)(e:Ending)(w':w9):Prop:=∃ bd,e = rT (A7 bd)/\N2 w' bd s (yS p)/\w.heap.size<=bd/\Fq w w'
def WZ {p:R8}(h:eS p=true):(6<=(S6 p).per/\(S6 p).per=(p.size-19)/12/\(S6 p).per<=41)/\(0<=p.depth/\p.depth<=8)/\(2:Int)^p.depth.toNat<=(S6 p).per*(S6 p).per:=by
 rw[eS,uh] at h;obtain⟨h1,h2⟩:=h;obtain⟨a1,a2,a3,a4,a5,a6,a7⟩:=of_decide_eq_true h1;obtain⟨b1,b2⟩:=of_decide_eq_true h2;refine⟨?_,a6,b1⟩;have e:(S6 p).per=(p.size-19)/12:=rfl;rw[e];omega
def yK0 (hf:eS y.plan=true)(hp:(x.per:Int)=(S6 y.plan).per)(hm:(x.most:Int)=y.plan.depth)(hr:(y.room:Int)+19=y.plan.size)(hd:x.depth<=x.most)(TT:y.room<=493):kM y x:=by
 obtain⟨⟨h1,h2,h3⟩,h4,h5⟩:=WZ hf;have e5:2^x.most<=x.per*x.per:=by
  have:y.plan.depth.toNat=x.most:=oM
  rw[this,<- hp] at h5;exact_mod_cast h5
 refine⟨⟨hd,oM⟩,⟨oM,oM⟩,fun d jB=>?_,TT⟩;have e1:2^d<=x.per*x.per:=nT (aZ dC jB) e5;have e2:(2^d+x.per-1)/x.per<=x.per:=by
  have h0:0<x.per:=oM
  refine Nat.le_of_lt_succ ((Nat.div_lt_iff_lt_mul h0).2 ?_);rw[nb];omega
 have:12*x.per<=y.room:=oM
 omega
def oH0 (h:C1 w B y P a N)(O3:eS y.plan=true):cP 118 #[B.ptr] w (AtP B.s y.plan w):=by
 obtain⟨⟨h6,-,TS⟩,h8,-⟩:=WZ O3;have ei:=hid fun W (F:Fq w W)=>Yx (h.J0 F);generalize y.plan=p at *
 have jP:=hid fun W=>Yq p W;rw[O3] at jP;have hz:yS p=⟨(S6 p).per.toNat,p.depth.toNat,0,0,0⟩:=rfl;obtain⟨pa,pb,pc,pd,pf,dp,ph,ps⟩:=p;have HL:=hid (show (S6 ⟨pa,pb,pc,pd,pf,dp,ph,ps⟩).per.toNat=(S6 ⟨pa,pb,pc,pd,pf,dp,ph,ps⟩).per by omega);generalize S6 ⟨pa,pb,pc,pd,pf,dp,ph,ps⟩=L at *
 obtain⟨l1,l2,l3,per,l5,l6,l7⟩:=L;have HZ:=hid hz;simp only at h6 TS h8;clear h O3 hz;go_enter func118,ntmps118;go_wp2_with (go_at_call 33;refine (ei _ fR).mono ?_)
 rintro e w1 ⟨rfl,F1⟩;have E1:=hid F1;clear F1;go_wp2_with (go_at_call 91;refine (jP _).mono ?_)
 rintro e w2 ⟨rfl,F2⟩;have Y0:=hid (E1.trans F2 nI);clear F2;simp only[if_true];go_upto_region 2 with fail
 obtain⟨W3,S5⟩:=eX (w2.alloc (.cells #[iI 2,iI l1,iI l2,iI l3,iI per,iI l5,iI l6,iI l7] 169))
 rw[S5];have F3:=fA S5
 have b3:=fB S5
 have N5:=hid (Y0.trans F3 nI);have c4:=G0 b3 4;simp at c4;have l3:=M0 b3;have hm:max per 1=per:=oM
 have lD:∀ W,(Instr.field 31 (.agg #[iI pa,iI pb,iI pc,iI pd,iI pf,iI dp,iI ph,iU ps]) 5).run prog W = .ok (iI dp) W:=fun W=>by kernel_rfl
 clear F3 b3 S5;go_region_held3 (fun W=>W.cell? (aA w2 4)=some (iI per)) (go_keep)
  (first
   | (go_at_call 33;refine (ei _ (by first|exact N5.o|exact N5.drew)).mono ?_;rintro e W4 ⟨he,F4⟩;obtain rfl:e = rT (.agg #[iI pa,iI pb,iI pc,iI pd,iI pf,iI dp,iI ph,iU ps]):=he;have c4:=(F4.cell (p:=⟨w2,4,none⟩) (by first|exact l3|(simp;omega)) id).trans c4;have p8:=hid (show Fq W3 W4 by first|exact F4|exact (fR.drew).trans F4 nI);clear F4))
 all_goals (go_wp2_with fail)
 all_goals go_ret
 all_goals (
  refine⟨_,rfl,?_,nT N5.size p8.size,(N5.trans p8 nI).alloc _⟩;rw[HZ];show _=some (Obj.cells #[_,iI (per.toNat:Int),iI (dp.toNat:Int),iI ((0:Nat):Int),iI 0,iI 0] 209);rw[HL,show (dp.toNat:Int)=dp by omega];exact han _ _)
def BE {base':Nat}(h:w.ownsRow base' e size v n xs)(hb:base<=base'):w.ownsRow base e size v n xs:=by
 obtain⟨hl,h0|⟨g,cap,cur,hv,hg,r⟩⟩:=h
 .exact⟨hl,.inl h0⟩
 .exact⟨hl,.inr ⟨g,cap,cur,hv,nT hb hg,r⟩⟩
def CK0 (B:P0)(y:Cs)(P:J2)(a:Bool)(N:Nat)(load:List Int)(w:w9)(e:Ending)(w':w9):Prop:=
 ∃ la ll lc err,e = rT (tU #[sL la ll lc,iI err])/\D0 B w w'/\((err=0/\ll=load.length/\T0 w' la load.length lc load/\C1 w' B y P a (N+1))\/(err=4/\a=true/\C5 w' B y P (N+1)))
def QE (h:C1 w B y P a N)(p stamp:Int)(hp:0<=p)(hs:0<=stamp){load:List Int}(hc:y.cont p=some (stamp.toNat,load))(hN:N+1<=90000) :
  cP 24 #[B.ptr,cV p stamp] w (CK0 B y P a N load w):=by
 obtain⟨p,rfl⟩:=iZ hp;obtain⟨s,rfl⟩:=iZ hs;refine (BQ0 h p s (by simpa using hc) hN).mono ?_;rintro e w' ⟨F,⟨la,lc,rfl,hb,hS⟩|⟨rfl,ha,hD⟩⟩
 .exact⟨_,_,_,_,rfl,F,.inl ⟨rfl,rfl,hb,hS⟩⟩
 .exact⟨_,_,_,_,rfl,F,.inr ⟨rfl,ha,hD⟩⟩
def Yl (B:P0)(y:Cs)(P:J2)(a:Bool)(N:Nat)(n:Nat)(bs:List Int)(w:w9)(e:Ending)(w':w9):Prop:=
 ∃ p s err,e = rT (tU #[cV p s,iI err])/\D0 B w w'/\((err=0/\(∃ m:Nat,p=m/\s=y.gen/\(y.fresh n=true/\m=n\/y.fresh n=false/\dF y.taken y.pages y.hand m)/\C1 w' B (y.put n m bs) P a (N+1)))\/(err=4/\a=true/\C5 w' B y P (N+1)))
def LU {P:D4}(h:C1 w B y P a N)(n:Nat)(st:Int)(T4:nx w B la ll lc bs)(O2:∀ b ∈ bs,0<=b/\b<256)(hl:ll<=y.room)
  (hp:n<y.pages) (ht:y.taken n=true) (hd:y.dead n=false) (hj:∃ j,j<y.pages/\y.taken j=false) (hN:N+1<=90000) :
  cP 26 #[B.ptr,cV n st,sL la ll lc] w (Yl B y P a N n bs w):=by
 refine (Au0 h n st T4 O2 hl hp ht hd hj hN).mono ?_;rintro e w' ⟨F,⟨m,hm,rfl,hS⟩|⟨p,s,rfl,ha,hD⟩⟩
 .exact⟨_,_,_,rfl,F,.inl ⟨rfl,m,rfl,rfl,hm,hS⟩⟩
 .exact⟨_,_,_,rfl,F,.inr ⟨rfl,ha,hD⟩⟩
def DB0 (B:P0)(y:Cs)(P:J2)(a:Bool)(N:Nat)(bs:List Int)(w:w9)(e:Ending)(w':w9):Prop:=
 ∃ p s err,e = rT (tU #[cV p s,iI err])/\D0 B w w'/\((err=0/\(∃ m:Nat,p=m/\s=y.gen/\dF y.taken y.pages y.hand m/\C1 w' B (y.new m bs) P a (N+1)))\/(err=4/\a=true/\C5 w' B y P (N+1)))
def FY {P:D4}(h:C1 w B y P a N)(T4:nx w B la ll lc bs)(O2:∀ b ∈ bs,0<=b/\b<256)(hl:ll<=y.room)
  (hj:∃ j,j<y.pages/\y.taken j=false) (hN:N+1<=90000):cP 22 #[B.ptr,sL la ll lc] w (DB0 B y P a N bs w):=by
 refine (Dm0 h T4 O2 hl hj hN).mono ?_;rintro e w' ⟨F,⟨m,hm,rfl,hS⟩|⟨p,s,rfl,ha,hD⟩⟩
 .exact⟨_,_,_,rfl,F,.inl ⟨rfl,m,rfl,rfl,hm,hS⟩⟩
 .exact⟨_,_,_,rfl,F,.inr ⟨rfl,ha,hD⟩⟩
def Zp (B:P0)(y:Cs)(P:J2)(a:Bool)(N:Nat)(l:List Rf)(w:w9)(e:Ending)(w':w9):Prop:=
 ∃ v err,e = rT (tU #[v,iI err])/\D0 B w w'/\((err=0/\aq w' w.heap.size v l/\C1 w' B y P a (N+1))\/(err=4/\a=true/\C5 w' B y P (N+1)))
def N2.T1 {s:Nat}(h:N2 w bd s x)(F:D0 B w w'):N2 w' bd s x:=F.heap h dC
def QD (h:C1 w B y P a N)(hD:N2 w bd B.s x)(hC:dH y x E0 slots)(hN:N+1<=90000) :
  cP 120 #[A7 bd] w (Zp B y P a N E0 w):=by
 have rO:=hid fun W (F:Fq w W)=>QE (h.J0 F) x.rp x.rs hC.rr.1 hC.rr.2 hC.root hN;have HD:=hid hD;have HC:=hid hC;obtain⟨c0,c1,c2,c3,c4,c5,cz,cl⟩:=z7 hD;clear h hD hC;go_enter func120,ntmps120;go_wp2_with fail
 go_region_held3 (fun W=>W.cell? bd=some (pO (aP B.s 0))/\W.cell? (aA bd 4)=some (iI x.rp)/\W.cell? (aA bd 5)=some (iI x.rs)) (go_keep)
  (first
   | (go_at_call 24;refine (rO _ (by first|exact fR|exact fR.drew)).mono ?_;rintro e W2 ⟨la,ll,lc,err,rfl,F2,hr⟩;replace F2:D0 B w W2:=D0.trans (D0.none (by first|exact fR|exact fR.drew)) F2;obtain⟨c0,c1,c2,c3,c4,c5,cz,cl⟩:=z7 (HD.T1 F2);have H2:=hi2 F2 hr;clear F2 hr))
 rcases H2.2 with⟨rfl,rfl,hb,hS⟩|⟨rfl,ha,U0⟩
 .have N8:(P3 E0).length=12*x.leaves:=by rw[EE,HC.D7]
  rw[N8] at hb;have wn:=hid (fun W (F:Fq W2 W)=>WQ (hb.fr F fun _ _ _ h=>h).slb HC.leaf.tr HC.D7 (by have:=HC.z.ru;omega));have HS:=hi2 hS H2.1;have GR:=hid (mo0 (HD.T1 H2.1) (by have:=HC.z.most;omega) HC.z.per.1 (by have:=HC.z.ru;omega));clear hb hS;rw[N8];go_wp2_with (go_at_call 182;refine GR.mono ?_)
  rintro e W3 ⟨rfl,m,rfl⟩;go_wp2_with (go_at_call 181;refine (wn _ (fR.drewN _)).mono ?_)
  rintro e W4 ⟨v,rfl,A0,F4⟩;have H4:=hi2 A0 F4;clear A0 F4;go_wp2_with fail
  go_ret2;have qt:Fq W2 W4:=(fR.drewN m).trans H4.2 nI;exact⟨v,0,rfl,D0.trans HS.2 (D0.none qt),.inl ⟨rfl,BE H4.1 (nT HS.2.size sP),HS.1.J0 qt⟩⟩
 .have HX:=hi2 ha (aI U0 H2.1);clear U0 ha;go_wp2_with fail
  go_ret2;exact⟨_,4,rfl,HX.2.2,.inr ⟨rfl,HX.1,HX.2.1⟩⟩
def om0 (h:aq w base v l):∃ a c,v = sL a l.length c/\vT w a l:=by
 obtain⟨hl,⟨h0,h1⟩|⟨g,cap,cur,hv,hb,hg,hc,hm,hs,ht⟩⟩:=h
 .refine⟨none,0,by rw[h0,h1],⟨fun i x hx=>?_⟩⟩;have:=(gI.1 hx).1;omega
 .refine⟨some ⟨g,0,none⟩,cap,hv,⟨fun i x hx=>?_⟩⟩;have hi:=(gI.1 hx).1;have key:∀ j,j<2->cur[i*2+j]?=(l.flatMap N7)[i*2+j]?:=fun j hj=>by
   have h2:(cur.toList.take (l.length*2))[i*2+j]?=(l.flatMap N7)[i*2+j]?:=by rw[ht]
   rw[gT,if_pos oM] at h2;simpa using h2
  have fm:∀ (l:List Rf) (i:Nat) (x:Rf),l[i]?=some x->(l.flatMap N7)[i*2]?=some (iI x.1)/\(l.flatMap N7)[i*2+1]?=some (iI x.2):=by
   intro l;induction l with
   | nil=>intro i x hx;simp at hx
   | cons y l ih =>
    intro i x hx;cases i with
    | zero=>simp at hx;subst hx;exact⟨rfl,rfl⟩
    | succ i =>
     rw[gS] at hx;obtain⟨h1,h2⟩:=ih i x hx;have e:(i+1)*2=i*2+2:=oM;rw[e];exact⟨h1,h2⟩
  obtain⟨f0,f1⟩:=fm l i x hx;refine⟨g,0,rfl,M0 hg,?_,?_⟩
  .rw[G0 hg,o8];exact (key 0 oM).trans f0
  .rw[G0 hg,o8];exact (key 1 oM).trans f1
structure iq (w:w9)(a:Option Addr)(l:List Rf):Prop where
 row:vT w a l
 ty:∀ b off,a=some ⟨b,off,none⟩->l≠[]->∃ c,w.heap[b]?=some (.cells c 35)
def iq.fr {S:Nat->Prop}{a:Option Addr}(h:iq w a l)(F:Fr S w w')(hS:∀ b c,w.heap[b]?=some (.cells c 35)->¬ S b):iq w' a l:=
 ⟨h.row.fr F fun b off e _ hne hs=>by
  obtain⟨c,hc⟩:=h.ty b off e hne;exact hS b c hc hs,fun b off e hne=>by
  obtain⟨c,hc⟩:=h.ty b off e hne;exact⟨c,F.heap hc (hS b c hc)⟩⟩
def iq.T1 {a:Option Addr}(h:iq w a l)(F:D0 B w w'):iq w' a l:=h.fr F fun b c hc hs=>absurd (hs.2.1 c 35 _ hc) dC
def iq.J0 {a:Option Addr}(h:iq w a l)(F:Fq w w'):iq w' a l:=h.fr F fun _ _ _ h=>h
def uQ (h:aq w base v l):∃ a c,v = sL a l.length c/\iq w a l:=by
 obtain⟨a,c,e,hr⟩:=om0 h;refine⟨a,c,e,hr,fun b off ha hne=>?_⟩;obtain⟨hl,⟨h0,h1⟩|⟨g,cap,cur,hv,hb,hg,_⟩⟩:=h
 .exact absurd (Qf.1 h1) hne
 .rw[e] at hv;cases hv;cases ha;exact⟨_,hg⟩
def Yd (h:C1 w B y P a N)(hD:N2 w bd B.s x)(hz:kM y x)(hL:YG y.cont x.per E0 slots)(X3:slots.length=x.slots)(r9:E0.length=x.leaves){ta:Option Addr}{tc:Nat}(hn:E0.length=n)(hT:iq w ta E0)(hi:i<n)(hN:N+1<=90000) :
  cP 121 #[A7 bd,sL ta n tc,iI i] w (Zp B y P a N (chunk slots x.per i) w):=by
 obtain⟨r,hr⟩:∃ r,E0[i]?=some r:=⟨_,gE oM⟩
 have ff:=hL.tr r (gM hr);obtain⟨b,off,rfl,hb,g0,g1⟩:=hT.row.at_ i r hr;have HT:=hid hT;have U1:∀ W2:World,D0 B w W2->W2.cell? (aA b (off+i*2))=w.cell? (aA b (off+i*2))/\W2.cell? (aA b (off+i*2+1))=w.cell? (aA b (off+i*2+1)):=fun W2 F=>by
  obtain⟨c,hc⟩:=hT.ty b off rfl (by rintro rfl;simp at hr);have hn:¬ (B.base<=b/\Az B w b):=fun hs=>absurd (hs.2.1 c 35 _ hc) dC
  exact⟨Fr.cell F (p:=⟨b,_,none⟩) hb hn,Fr.cell F (p:=⟨b,_,none⟩) hb hn⟩
 have AM:=hid U1;have rO:=hid fun W (F:Fq w W)=>QE (h.J0 F) r.1 r.2 ff.1 ff.2.2.1 (hL.at_ i r hr) hN;have HD:=hid hD;have HC:=hi2 hz (aI hL (aI X3 (aI hn r9)));have vr:(i:Int)<(n:Int):=oM
 obtain⟨c0,c1,c2,c3,c4,c5,cz,cl⟩:=z7 hD;clear h hD hz hL X3 r9 hn hT hr ff U1;go_enter func121,ntmps121;go_wp2_with fail
 go_region_held3 (fun W=>W.cell? bd=some (pO (aP B.s 0))/\W.cell? (aA b (off+i*2))=some (iI r.1)/\W.cell? (aA b (off+i*2+1))=some (iI r.2)) (go_keep)
  (first
   | (go_at_call 24;refine (rO _ (by first|exact fR|exact fR.drew)).mono ?_;rintro e W2 ⟨la,ll,lc,err,rfl,F2,hr⟩;replace F2:D0 B w W2:=D0.trans (D0.none (by first|exact fR|exact fR.drew)) F2;obtain⟨c0,c1,c2,c3,c4,c5,cz,cl⟩:=z7 (HD.T1 F2);have g0:=(AM.o W2 F2).1.trans g0;have g1:=(AM.o W2 F2).2.trans g1;have H2:=hi2 F2 hr;clear F2 hr))
 rcases H2.2 with⟨rfl,rfl,hb,hS⟩|⟨rfl,ha,U0⟩
 .have jD:x.leaves<=41/\x.per<=41:=HC.1.ru;have gn:i<x.leaves:=by have:=HC.2.2.2.1;have:=HC.2.2.2.2;omega
  have B6:(chunk slots x.per i).length=x.Ab i:=by rw[sb,HC.2.2.1];rfl
  have T4:x.Ab i<=41:=by unfold P1.Ab;omega
  have N8:(P3 (chunk slots x.per i)).length=12*x.Ab i:=by rw[EE,B6]
  rw[N8] at hb;have wn:=hid fun W (F:Fq W2 W)=>WQ (hb.fr F fun _ _ _ h=>h).slb (Ty HC.2.1.sr x.per i) B6 oM;have HS:=hi2 hS H2.1;have GR:=hid (tt0 (HD.T1 H2.1) (by have:=HC.1.most;omega) HC.1.per.1 oM i (by have:=HC.1.wm0 gn;omega));clear hb hS B6;rw[N8];go_wp2_with (go_at_call 183;refine GR.mono ?_)
  rintro e W3 ⟨rfl,m,rfl⟩;go_wp2_with (go_at_call 181;refine (wn _ (fR.drewN _)).mono ?_)
  rintro e W4 ⟨v,rfl,A0,F4⟩;have H4:=hi2 A0 F4;clear A0 F4;go_wp2_with fail
  go_ret2;have qt:Fq W2 W4:=(fR.drewN m).trans H4.2 nI;exact⟨v,0,rfl,D0.trans HS.2 (D0.none qt),.inl ⟨rfl,BE H4.1 (nT HS.2.size sP),HS.1.J0 qt⟩⟩
 .have HX:=hi2 ha (aI U0 H2.1);clear U0 ha;go_wp2_with fail
  go_ret2;exact⟨_,4,rfl,HX.2.2,.inr ⟨rfl,HX.1,HX.2.1⟩⟩
def Xg (F:D0 B w W)(x y:Value):D0 B w ((W.setCell w x).setCell (aA w 1) y):=
 Fr.setCell (Fr.setCell F (fun h=>absurd h (gG _)) _) (fun h=>absurd h (gG _)) _
def sr0 (x y:Value):Fr (fun b=>b=k) W ((W.setCell k x).setCell (aA k 1) y):=
 Fr.setCell (S:=fun b=>b=k) (Fr.setCell (S:=fun b=>b=k) fR (fun _=>rfl) _) (fun _=>rfl) _
def jd0 (h:C5 W B y P N)(hk:W.heap[k]?=some (.cells c 35))(x z:Value):C5 ((W.setCell k x).setCell (aA k 1) z) B y P N:=
 h.M3 (sr0 x z) hk dC
def ve0 (h:C1 W B y P a N)(hk:W.heap[k]?=some (.cells c 35))(h0:0<k)(x z:Value):C1 ((W.setCell k x).setCell (aA k 1) z) B y P a N:=
 h.M3 (sr0 x z) hk dC h0
def DK0 (B:P0)(y:Cs)(P:J2)(a:Bool)(N:Nat)(slots:List Rf)(k:Nat)(w:w9)(e:Ending)(w':w9):Prop:=
 ∃ p s err,e = rT (tU #[cV p s,iI err])/\D0 B w w'/\((err=0/\slots[k]?=some (p,s)/\C1 w' B y P a (N+2))\/(err=4/\a=true/\C5 w' B y P (N+2)))
def Bk0 (h:C1 w B y P a N)(hD:N2 w bd B.s x)(hC:dH y x E0 slots)(k:Nat)(hk:k<x.slots)(hN:N+2<=90000) :
  cP 54 #[A7 bd,iI k] w (DK0 B y P a N slots k w):=by
 have kS:=hid (fun W (F:Fq w W)=>OF (F.heap hD id:N2 W bd B.s x) (by have:=hC.z.most;omega));have iE:=hid fun W (F:Fq w W)=>QD (h.J0 F) (F.heap hD id:N2 W bd B.s x) hC oM;have d1:decide ((k:Int)<0)=false:=decide_eq_false oM;have d2:decide ((x.slots:Int)<=(k:Int))=false:=decide_eq_false oM;have HD:=hid hD;have HC:=hid hC;have HS:=hid h;obtain⟨w1,I0⟩:=eX (w.alloc (.cells #[iI 0,iI 0] 35))
 have b1:=fB I0
 have E1:=hid (show Fq w w1 by rw[<- I0];exact fR.alloc _);have I3:=hid b1;have R6:=hid I0;have gn:k/x.per<x.leaves:=by
  have h1:=hC.z.It;exact (Nat.div_lt_iff_lt_mul hC.z.per.1).2 oM
 have bY:=hC.z.ru;have eB:=hC.z.per.1;clear h hD hC I0 b1;go_enter func54,ntmps54;go_wp2_with (rw[R6];go_at_call 125;refine (kS _ E1.o).mono ?_)
 rintro e W2 ⟨rfl,m,rfl⟩;go_wp2_with (go_at_call 120;refine (iE _ (E1.drewN _)).mono ?_)
 rintro e W3 ⟨v,err,rfl,F3,⟨rfl,A0,hS⟩|⟨rfl,ha,U0⟩⟩
 .obtain⟨ta,tc,rfl,hT⟩:=uQ A0;have gJ:D0 B w W3:=D0.trans (D0.none (E1.drewN m)) F3;have nw:=hid (Yd hS (HD.T1 gJ) HC.z HC.leaf HC.slen HC.D7 (tc:=tc) rfl hT (by rw[HC.D7];exact gn) oM);have cN:=hid (F3.heap (show (w1.drewN m).heap[w.heap.size]?=_ from I3.o) dC);have N5:=hid gJ;obtain⟨c0,c1,c2,c3,c4,c5,cz,cl⟩:=z7 (HD.T1 gJ);have e2:wrap64 ((k:Int)/(x.per:Int))=((k/x.per:Nat):Int):=by
   have h1:(k:Int)/(x.per:Int)=((k/x.per:Nat):Int):=by simp
   have h2:=Mn k x.per;have h3:=(NZ (x:=x) (by have:=HC.z.most;omega)).1;rw[h1];generalize k/x.per=q at *;simp only[wrap64];omega
  have e3:(k:Int) % (x.per:Int)=((k % x.per:Nat):Int):=by simp
  have HE:=hi2 e2 e3;clear A0 hS F3 gJ hT e2 e3;go_wp2_with (rw[HE.1];go_at_call 121;refine (nw.o).mono ?_)
  rintro e W4 ⟨v4,err,rfl,F4,⟨rfl,A0,hS⟩|⟨rfl,ha,U0⟩⟩
  .obtain⟨pa,pc,rfl,hT⟩:=uQ A0;obtain⟨n4,vB⟩:=eX ((chunk slots x.per (k/x.per)).length)
   have jB:=Nat.div_add_mod k x.per;have vy:=rm k eB;have Q8:slots.length=x.slots:=HC.slen;have hlt:k % x.per<n4:=by
    rw[<- vB,sb,Q8];rw[dU] at jB;omega
   obtain⟨r,hr⟩:∃ r,slots[k]?=some r:=⟨_,gE oM⟩
   have KR:(chunk slots x.per (k/x.per))[k % x.per]?=some r:=by
    rw[EG vy,dU,jB];exact hr
   obtain⟨b,off,rfl,hb,g0,g1⟩:=hT.row.at_ _ r KR;have e3:=HE.2;have Dd:((k % x.per:Nat):Int)<(n4:Int):=oM
   have b4:=F4.heap cN dC;obtain⟨e0,e1,ez,el⟩:=cells2 b4;obtain⟨c0,c1,c2,c3,c4,c5,cz,cl⟩:=z7 (HD.T1 (D0.trans N5 F4));have HX:=hi2 hS (aI b4 (aI (D0.trans N5 F4) hr));have h0:0<w.heap.size:=by obtain⟨-,-,-,B6⟩:=cells2 I3.o;have:=HS.base;have:=HS.jr;omega
   rw[vB];generalize k % x.per=q at *
   clear A0 hS F4 b4 hT vB jB vy Q8 hr KR;go_wp2_with fail
   refine bodyPost_ret (v:=tU #[cV r.1 r.2,iI 0]) sR rfl ?_;exact⟨_,_,0,rfl,Xg HX.2.2.1 _ _,.inl ⟨rfl,HX.2.2.2,ve0 HX.1 HX.2.1 h0 _ _⟩⟩
  .have HX:=hi2 ha (aI U0 (D0.trans N5 F4));have b4:=F4.heap cN dC;obtain⟨e0,e1,ez,el⟩:=cells2 b4;have T5:=hid b4;clear U0 ha F4 b4 c0 c1 c2 c3 c4 c5 cz cl;go_wp2_with fail
   refine bodyPost_ret (v:=tU #[cV 0 0,iI 4]) sR rfl ?_;refine⟨_,_,4,rfl,Xg HX.2.2 _ _,.inr ⟨rfl,HX.1,jd0 HX.2.1 T5 _ _⟩⟩
 .have HX:=hi2 ha (aI U0 (D0.trans (D0.none (E1.drewN m)) F3));have hsz:=F3.size;have VZ:w.heap.size<w1.heap.size:=M0 I3.o;have b3:=F3.heap (show (w1.drewN m).heap[w.heap.size]?=_ from I3.o) dC;obtain⟨e0,e1,ez,el⟩:=cells2 b3;have cN:=hid b3;clear U0 ha F3 b3;go_wp2_with fail
  refine bodyPost_ret (v:=tU #[cV 0 0,iI 4]) sR rfl ?_;refine⟨_,_,4,rfl,Xg HX.2.2 _ _,.inr ⟨rfl,HX.1,jd0 (HX.2.1.mono oM) cN _ _⟩⟩
def C1.Yn (h:C1 w B y P a N)(A0:w.ownsRow base e size v n xs)(he:e ∉ 5 :: aR)(h0:0<base)(hg:w.grownBy w' v.ownBlock):C1 w' B y P a N:=by
 cases hv:v.ownBlock with
 | none =>
  rw[hv] at hg;exact h.J0 ⟨hg.os,hg.tape,hg.output,hg.size,fun b hb _=>hg.block b hb sP⟩
 | some g =>
  obtain⟨hb,c,hc⟩:=O6 A0 hv.symm;rw[hv] at hg;exact h.M3 (k:=g) ⟨hg.os,hg.tape,hg.output,hg.size,fun b hb hn=>hg.block b hb fun e=>hn (by cases e;rfl)⟩ hc he oM
def my0 {w0:w9}(F:D0 B w0 w)(A0:w.ownsRow base e size v n xs)(hb:w0<=base)(hg:w.grownBy w' v.ownBlock):D0 B w0 w':=
 Fr.trans F (S':=fun b=>some b=v.ownBlock) ⟨hg.os,hg.tape,hg.output,hg.size,fun b hb hn=>hg.block b hb hn⟩ (fun b P4 e=>by have:=(O6 A0 e).1;omega)
def Ra (B:P0)(y:Cs)(P:J2)(a:Bool)(N:Nat)(l:List Rf)(w:w9)(e:Ending)(w':w9):Prop:=
 ∃ v err,e = rT (tU #[v,iI err])/\D0 B w w'/\((err=0/\aq w' w.heap.size v l/\C1 w' B y P a N)\/(err=4/\a=true/\C5 w' B y P N))
def jI0 (l:List Rf):∀ u ∈ l.flatMap N7,u.oneCell'=true:=by
 intro u hu;obtain⟨x,_,h⟩:=ui.1 hu;simp[N7] at h;rcases h with rfl|rfl <;> rfl
def rd0 (l:List Rf)(per k:Nat):l.take ((k+1)*per)=l.take (k*per)++chunk l per k:=by
 rw[chunk,nb,List.take_add]
def WR (w:w9)(p s:Int):(w.alloc (.cells #[iI p,iI s] 35)).ownsRow w 35 2 (sL w 1 1) 1 [iI p,iI s]:=
 ⟨rfl,.inr ⟨w.heap.size,1,#[iI p,iI s],rfl,nR _,han _ _,nR _,dC,rfl,rfl⟩⟩
def Yk (h:C1 w B y P a N)(hD:N2 w bd B.s x)(hC:dH y x E0 slots)(hN:N+1+x.leaves<=90000) :
  cP 48 #[A7 bd] w (Ra B y P a (N+1+x.leaves) slots w):=by
 obtain⟨i0,A3,J1,M1,O1⟩:=info_parts eQ;have iE:=hid (QD h hD hC oM);have HD:=hid hD;have HC:=hid hC;have h0:0<w.heap.size:=by have:=h.base;have:=h.jr;omega
 have bY:=hC.z.ru;clear h hD hC;go_enter func48,ntmps48;go_wp2_with (go_at_call 120;refine (iE.o).mono ?_)
 rintro e W3 ⟨v,err,rfl,F3,⟨rfl,A0,hS⟩|⟨rfl,ha,U0⟩⟩
 .obtain⟨ta,tc,rfl,hT⟩:=uQ A0;have Dw:0<W3.heap.size:=E4 h0 F3.size;obtain⟨n,hn⟩:=eX E0.length
  have GS:=hid (show n=x.leaves by rw[<- hn];exact HC.D7);have hn41:n<=41:=by rw[GS];exact bY.1
  have hNn:N+1+n<=90000:=by rw[GS];exact hN
  rw[hn];have H3:=hi2 hS (aI hT (aI F3 hn));clear A0 hS F3 hT hn;go_wp2_with fail
  go_loopw [6,22] (fun v i wr=>∃ k:Nat,k<=n/\i = iI k/\aq wr W3.heap.size v (slots.take (k*x.per))/\C1 wr B y P a (N+1+k)/\D0 B W3 wr) fun _ i _=>n-(intOf i).toNat
  case atStart=>exact⟨0,C3 _,rfl,by rw[uk];exact World.ownsRow_nil _ _ _ _,H3.1,D0.refl _ _⟩
  case round =>
   obtain⟨k,hk,rfl,A0,hS,F⟩:=hrel;have HR:=hi2 A0 (aI hS F);clear A0 hS F;by_cases hlt:k<n
   .have hd:decide ((k:Int)<(n:Int))=true:=sO;have nw:=hid (Yd HR.2.1 (HD.T1 (D0.trans H3.2.2.1 HR.2.2)) HC.z HC.leaf HC.slen HC.D7 (tc:=tc) H3.2.2.2 (H3.2.1.T1 HR.2.2) hlt oM);go_wp2_with (go_at_call 121;refine (nw.o).mono ?_)
    rintro e W4 ⟨v4,err,rfl,F4,⟨rfl,C2,vf⟩|⟨rfl,ha,U0⟩⟩
    .have X3:=HC.slen;have jD:=HC.z.It;have B6:(chunk slots x.per k).length<=41:=(by rw[sb];omega);have r9:(slots.take (k*x.per)).length<=1681:=by
      rw[lT];have:k*x.per<=41*41:=Nat.mul_le_mul oM bY.2;omega
     obtain⟨m4,re⟩:=eX ((chunk slots x.per k).length)
     have H4:=hi2 (wT C2) (aI vf (aI F4 (K3 HR.1 F4 fun g c hg hs=>absurd (hs.2.1 c 35 _ hg) dC)));have Lk:W3<=(W4:Nat):=nT HR.2.2.size F4.size;have HM:=hid re;clear C2 vf F4 X3 jD;go_wp2_with (at_builtin;refine mq rfl (.tmp 35) (.tmp 36) 33 rfl W3.heap.size 35 i0 _ 2 16 underlying33 A3 J1 M1 O1 rfl dC _ _ _ rfl H4.2.2.2 _ _ _ rfl H4.1 (Ou _) (jI0 _) (by simp only[maxLen];omega) oM Lk ?_)
     intro v5 W5 J3 mQ xH;have F5:D0 B W3 W5:=my0 (D0.trans HR.2.2 H4.2.2.1) H4.2.2.2 (nR _) mQ;have J5:=H4.2.1.Yn H4.2.2.2 dC Dw mQ;have H5:=hi2 J3 (aI J5 F5);clear J3 mQ xH F5 J5;go_wp2_with fail
     go_roundw;case rel =>
      refine⟨k+1,hlt,by go_num,?_,H5.2.1,H5.2.2⟩;have ho:=H5.1;rw[<- HM,<- lT,<- lA,<- dY,<- rd0] at ho;exact ho
     case measure=>exact wM
    .have HX:=hi2 ha (aI U0 (D0.trans (D0.trans H3.2.2.1 HR.2.2) F4));clear U0 ha F4;go_wp2_with fail
     go_ret2;exact⟨_,4,rfl,HX.2.2,.inr ⟨rfl,HX.1,HX.2.1.mono (by have:=GS.o;omega)⟩⟩
   .obtain rfl:k=n:=by omega
    have hd:decide ((k:Int)<(k:Int))=false:=sP;go_wp2_with fail
    go_ret2;have e1:slots.take (k*x.per)=slots:=tL (by rw[HC.slen,GS];exact HC.z.It);have ho:=HR.1;rw[e1] at ho;exact⟨_,0,rfl,D0.trans H3.2.2.1 HR.2.2,.inl ⟨rfl,BE ho H3.2.2.1.size,by rw[<- GS];exact HR.2.1⟩⟩
 .have HX:=hi2 ha (aI U0 F3);clear U0 ha F3;go_wp2_with fail
  go_ret2;exact⟨_,4,rfl,HX.2.2,.inr ⟨rfl,HX.1,HX.2.1.mono oM⟩⟩
def pf0 (h:C1 w B y P a N)(hD:N2 w bd B.s x)(hC:dH y x E0 slots)(hN:N+1<=90000) :
  cP 55 #[A7 bd] w (Ra B y P a (N+1) ((x.rp,x.rs) :: E0) w):=by
 obtain⟨i0,A3,J1,M1,O1⟩:=info_parts eQ;have iE:=hid (QD h hD hC oM);have HD:=hid hD;have HC:=hid hC;have h0:0<w.heap.size:=by have:=h.base;have:=h.jr;omega
 have bY:=hC.z.ru;have r9:E0.length<=41:=by rw[hC.D7];exact bY.1
 clear h hD hC;go_enter func55,ntmps55;go_wp2_with (go_at_call 120;refine (iE.o).mono ?_)
 rintro e W3 ⟨v,err,rfl,F3,⟨rfl,A0,hS⟩|⟨rfl,ha,U0⟩⟩
 .have Dw:0<W3.heap.size:=E4 h0 F3.size;obtain⟨c0,c1,c2,c3,c4,c5,cz,cl⟩:=z7 (HD.T1 F3);have F4:Fq W3 (W3.alloc (.cells #[iI x.rp,iI x.rs] 35)):=fR.alloc _;have H4:=hi2 (wT (K3 A0 F4 fun _ _ _ h=>h)) (aI (hS.J0 F4) (aI (D0.trans F3 (D0.none F4)) (F3.size)));clear A0 hS F3 F4;go_wp2_with (at_builtin;refine mq rfl (.tmp 20) (.tmp 21) 33 rfl W3.heap.size 35 i0 _ 2 16 underlying33 A3 J1 M1 O1 rfl dC _ _ _ rfl (WR W3 x.rp x.rs) _ _ _ rfl H4.1 (Ou _) (jI0 _) (by simp only[maxLen];omega) oM sP ?_)
  intro v5 W5 J3 mQ xH;have F5:=my0 H4.2.2.1 (WR W3 x.rp x.rs) H4.2.2.2 mQ;have J5:=H4.2.1.Yn (WR W3 x.rp x.rs) dC Dw mQ;have H5:=hi2 J3 (aI J5 F5);clear J3 mQ xH F5 J5;go_wp2_with fail
  go_ret2;refine⟨v5,0,rfl,H5.2.2,.inl ⟨rfl,BE ?_ H4.2.2.2,H5.2.1⟩⟩;have ho:=H5.1;rw[Nat.add_comm] at ho;exact ho
 .have HX:=hi2 ha (aI U0 F3);clear U0 ha F3;go_wp2_with fail
  go_ret2;exact⟨_,4,rfl,HX.2.2,.inr ⟨rfl,HX.1,HX.2.1⟩⟩
