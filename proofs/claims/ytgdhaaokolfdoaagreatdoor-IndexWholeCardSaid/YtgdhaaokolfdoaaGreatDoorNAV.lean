/- A pack of texts. Conditions: those that each names. -/
import Derived.Test.YtgdhaaokolfdoaaGreatDoorNAU
import Derived.Lib.OwnBridge
import Derived.StillTail
set_option maxHeartbeats 16000000
set_option maxRecDepth 100000
set_option linter.all false
namespace Go.Proofs.YtgdhaaokolfdoaaGreatDoor
open Tryz
section
open Go.RowKit Go.Sg Go.Sg.Bits Go.Sg.r4 CP SF
def ep (l:List Rf):List Rf:=l.flatMap fun r=>[r,r]
def Xd (l:List Rf):(ep l).length=2*l.length:=by
 induction l with
 | nil=>rfl
 | cons x l ih=>simp only[ep,dj,lA] at ih ⊢;rw[ih];simp;omega
variable {l:List Rf}{w:w9}
def lL0 {k:Nat}{r:Rf}(h:l[k]?=some r):ep (l.take (k+1))=ep (l.take k)++[r,r]:=by
 rw[ea,h];simp[ep]
def qj0 (h:∀ r ∈ l,bh r):∀ r ∈ ep l,bh r:=fun r hr=>by
 obtain⟨x,hx,h1⟩:=ui.1 hr;simp at h1;subst h1;exact h _ hx
variable {B:P0}
def O0.cut {X Y:Nat->Prop}{w1 w2:w9}(h:O0 B Y w w1)(k:O0 B (fun b=>X b\/Y b) w1 w2)(hX:∀ b,X b->w.heap.size<=b):O0 B Y w w2:=
 (O0.trans (h.mono fun _ _ h=>h.imp id .inr) k).mono fun b hb hs=>by
  rcases hs with hs|hs|hs
  .exact .inl hs
  .exact absurd hb (vI.2 (hX b hs))
  .exact .inr hs
def Gf (B:P0)(bd:Nat)(x:P1)(y:Cs)(P:J2)(a:Bool)(N:Nat)(rest:List Nat)(M:Nat)(K:Prop)(c0:Cont)(all:List Rf)(w:w9)(e:Ending)(w':w9):Prop:=
 ∃ err,e = rT (iI err)/\O0 B (fun b=>b=bd) w w'/\((err=0/\∃ (y':Cs) (tk:List Rf) (m:Nat),N2 w' bd B.s { x with rp:=m,rs:=y.gen }/\C1 w' B y' P a N/\dH y' { x with rp:=m,rs:=y.gen } tk all/\Live y' (B2 m tk++rest) M /\
  (K->oX y' (B2 m tk++rest))/\(∀ k ∈ rest,y'.cont k=c0 k)/\(Like y y'/\y'.gen=y.gen/\y'.dead=y.dead))\/(err=4/\a=true/\C5 w' B y P N))
def sW0 {y:Cs}{P:D4}{a:Bool}{N M bd:Nat}{x:P1}{E0 slots:List Rf}{rest:List Nat}{K:Prop}{c0:Cont}(h:C1 w B y P a N)(hD:N2 w bd B.s x)(hC:dH y x E0 slots)(jB:x.depth<x.most)(X4:y.pages<=2147483647)(hL:Live y (B2 x.rp E0++rest) M)(hK:K->oX y (B2 x.rp E0++rest))(hc:∀ k ∈ rest,y.cont k=c0 k)
  (hM:1+({ x with depth:=x.depth+1 }:P1).leaves+rest.length+2*M<y.pages) (hN:N+100<=90000) :
  cP 49 #[A7 bd] w (Gf B bd { x with depth:=x.depth+1 } y P a (N+100) rest M K c0 (ep slots) w):=by
 obtain⟨i0,A3,J1,M1,O1⟩:=info_parts eQ;have bY:=hC.z.ru;have X3:slots.length<=1681:=by
  have h1:=hC.z.It;have h2:x.leaves*x.per<=41*41:=Nat.mul_le_mul bY.1 bY.2;rw[hC.slen];omega
 have h0:0<w.heap.size:=by have:=h.base;have:=h.jr;omega
 have iE:=hid fun W (F:Fq w W)=>QD (h.J0 F) (F.heap hD id:N2 W bd B.s x) hC oM;have HD:=hid hD;have HC:=hid hC;have HL:=hi2 hL (aI hK hc);have Fd:decide ((x.most:Int)<=(x.depth:Int))=false:=by simp;omega
 obtain⟨c0',c1,c2,c3,c4,c5,cz,cl⟩:=z7 hD;clear h hD hC hL hK hc;go_enter func49,ntmps49;go_wp2_with fail
 go_quiet (fail)
 go_wp2_with (go_at_call 120;refine (iE _ (fR.drewN _)).mono ?_)
 rintro e W1 ⟨v1,err,rfl,F1,⟨rfl,K1,du⟩|⟨rfl,ha,U0⟩⟩
 .replace F1:D0 B w W1:=D0.trans (D0.none (fR.drewN _)) F1
  have lS:=hid (Yk du (HD.T1 F1) HC oM);have H1:=hi2 (show aq W1 w.heap.size v1 E0 from K1) F1;clear K1 du F1 c0' c1 c2 c3 c4 c5 cz cl;go_wp2_with (go_at_call 48;refine (lS.o).mono ?_)
  rintro e W2 ⟨v2,err,rfl,F2,⟨rfl,N0,cB⟩|⟨rfl,ha,U0⟩⟩
  .have tK:aq W2 w.heap.size v1 E0:=K3 H1.1 F2 fun g c hg hs=>absurd (hs.2.1 c 35 _ hg) dC;obtain⟨sa,sc,rfl,hT⟩:=uQ N0;obtain⟨n,hn⟩:=eX slots.length
   have ax:n<=1681:=oM
   rw[hn];have H2:=hi2 cB (aI hT (aI (D0.trans H1.2 F2) (aI tK hn)));have xK:w<=(W2:Nat):=nT H1.2.size F2.size;clear N0 cB F2 hT tK hn X3;go_wp2_with fail
   go_loopw [6,40] (fun v i wr=>∃ k:Nat,k<=n/\i = iI k/\aq wr W2.heap.size v (ep (slots.take k))/\Fq W2 wr) fun _ i _=>n-(intOf i).toNat
   case atStart=>exact⟨0,C3 _,rfl,World.ownsRow_nil _ _ _ _,fR⟩
   case round =>
    obtain⟨k,hk,rfl,A0,hF⟩:=hrel;have HR:=hi2 A0 hF;by_cases hlt:k<n
    .have hd:decide ((k:Int)<(n:Int))=true:=sO;obtain⟨r,hr⟩:∃ r,slots[k]?=some r:=⟨_,gE (by rw[H2.2.2.2.2];exact hlt)⟩
     obtain⟨b,off,rfl,hb,g0,g1⟩:=(H2.2.1.J0 hF).row.at_ k r hr;have cF:(k:Int)<(n:Int):=oM;have HRk:=hid hr;have T6:(ep (slots.take k)).length=2*k:=(by rw[Xd,lT,H2.2.2.2.2];omega);have ZJ:=hid T6;have hsz:W2<=(wr:Nat):=hF.size;clear A0 hF hr T6;go_upto_region 15 with fail
     obtain⟨W4,jA⟩:=eX (wr.alloc (.cells #[iI r.1,iI r.2] 35))
     rw[jA];have b4:W4.heap[wr.heap.size]?=some (.cells #[iI r.1,iI r.2] 35):=(fB jA);have F4:Fq wr W4:=(by rw[<- jA];exact fR.alloc _);obtain⟨e0,e1,ez,el⟩:=cells2 b4;have H4:=hi2 (K3 HR.1 F4 fun _ _ _ h=>h) F4;clear b4 F4 jA g0 g1;go_wp2_with (at_builtin;refine wpList_append_own_at _ rfl (.tmp 44) (.tmp 47) 33 rfl W2.heap.size 35 i0 _ 2 16 underlying33 A3 J1 M1 O1 rfl dC _ _ _ rfl (H4.1.alloc _) ⟨W4,0,none⟩ 2 2 [iI r.1,iI r.2,iI r.1,iI r.2] rfl rfl (World.news_of_block (cs:=#[iI r.1,iI r.2,iI r.1,iI r.2]) (t:=35) (fr:=(0,0)) (han _ _)) (by simp[Value.oneCell']) (by rw[ZJ];simp only[maxLen];omega) (by rw[ZJ];omega) (by have:=H4.2.size;simp;omega) ?_)
     intro v5 W5 J3 mQ Ky Us;have F5:Fq W2 W5:=(HR.2.trans (H4.2.alloc (.cells #[iI r.1,iI r.2,iI r.1,iI r.2] 35)) nI).trans (Bz (H4.1.alloc _) mQ) fun b hb h=>oM;have H5:=hi2 J3 F5;clear J3 mQ Ky Us F5;go_wp2_with fail
     go_roundw;case rel =>
      refine⟨k+1,hlt,by go_num,?_,H5.2⟩;have e2:(ep (slots.take (k+1))).flatMap N7=(ep (slots.take k)).flatMap N7++[iI r.1,iI r.2,iI r.1,iI r.2]:=(by rw[lL0 HRk,dY];rfl);have e3:(ep (slots.take (k+1))).length=(ep (slots.take k)).length+2:=(by rw[lL0 HRk,lA];rfl);show W5.ownsRow _ 35 2 _ (ep (slots.take (k+1))).length ((ep (slots.take (k+1))).flatMap N7);rw[e2,e3];exact H5.1
     case measure=>exact wM
    .obtain rfl:k=n:=by omega
     have hd:decide ((k:Int)<(k:Int))=false:=sP;have Fm:slots.take k=slots:=tL (by rw[H2.2.2.2.2];exact nR _);rw[Fm] at A0;have T6:(ep slots).length=2*k:=(by rw[Xd,H2.2.2.2.2]);have M4:0<k:=by
      have h1:slots.length=x.slots:=HC.slen;have h2:0<x.slots:=iu dC;have h3:=H2.2.2.2.2;omega
     obtain⟨r0,hr0⟩:∃ r0,(ep slots)[0]?=some r0:=⟨_,gE oM⟩
     obtain⟨da,dc,rfl,xq,-⟩:=A2 A0;obtain⟨gb,rfl,bz,-⟩:=EV A0 hr0;obtain⟨ta,tc,rfl,-⟩:=A2 H2.2.2.2.1;have fG:Fr (fun b=>b=bd) wr (wr.setCell (aA bd 3) (iI ((x.depth+1:Nat):Int))):=Fr.setCell (S:=fun b=>b=bd) fR (fun _=>rfl) _;have iK:N2 wr bd B.s x:=hF.heap (HD.T1 H2.2.2.1) id;have uY:N2 (wr.setCell (aA bd 3) (iI ((x.depth+1:Nat):Int))) bd B.s { x with depth:=x.depth+1 }:=by
      unfold N2 at iK ⊢;rw[hsc _ _ _ _ iK];rfl
     have eA:∀ g c,wr.heap[g]?=some (.cells c 35)->¬ g=bd:=fun g c hg e=>by
      unfold N2 at iK;rw[e,iK] at hg;cases hg
     have xm:=Yi (H2.1.J0 hF) iK;have J5:C1 (wr.setCell (aA bd 3) (iI ((x.depth+1:Nat):Int))) B y P a (N+1+1+x.leaves):=(H2.1.J0 hF).M3 fG iK dC xm;have hot:aq wr w.heap.size (sL ta E0.length tc) E0:=K3 H2.2.2.2.1 hF fun _ _ _ h=>h;have KE:=K3 hot fG fun g c hg=>eA g c hg;have KA:aq (wr.setCell (aA bd 3) (iI ((x.depth+1:Nat):Int))) W2.heap.size (.slice gb (ep slots).length dc) (ep slots):=K3 A0 fG fun g c hg=>eA g c hg;obtain⟨a2,c2',Lj,Y2⟩:=uQ KA;obtain⟨rfl,rfl⟩:a2=some ⟨gb,0,none⟩/\c2'=dc:=by cases Lj;exact⟨rfl,rfl⟩
     have Y9:kM y { x with depth:=x.depth+1 }:=⟨⟨jB,HC.z.most.2⟩,HC.z.per,HC.z.fits,HC.z.room⟩;have pM:x.leaves<=({ x with depth:=x.depth+1 }:P1).leaves:=by
      unfold P1.leaves P1.slots;have h1:2^x.depth<=2^(x.depth+1):=aZ dC (Nat.le_succ _);exact Nat.div_le_div_right (by simp only;omega)
     have h41':=Y9.ru.1;have sH:kL y x.rp E0 rest M K c0 (fun _=>none):=by
      have ht:=HC.E0 HL.1 HL.2.1 HL.2.2;exact⟨ht.live,ht.right,ht.rr,fun j r bs hj hC=>(by cases hC),ht.calm,ht.keep⟩
     have Fg:∀ g,ta=some ⟨g,0,none⟩->w.heap.size<=g/\g<W2.heap.size:=fun g e=>by
      obtain⟨h1,c,hc⟩:=O6 H2.2.2.2.1 (g:=g) (by rw[e];rfl);exact⟨h1,M0 hc⟩
     have hgb2:W2<=gb:=(O6 A0 (g:=gb) rfl).1;have Ch:=Bf0 (x:={ x with depth:=x.depth+1 }) J5 uY Y9 HC.rr.2 X4 sH (by rw[HC.D7];exact pM) (by rw[Xd,HC.slen];unfold P1.slots;simp only;rw[dB];omega) (qj0 HC.leaf.sr) hM KE h0 (by have:=hF.size;simp;omega) Y2 (fun g e=>by have:=Fg g e;omega) xq oM;have bU:((x.depth+1:Nat):Int)=(x.depth:Int)+1:=sP;rw[bU] at Ch;have Sl:=hid Ch;have BZ:O0 B (fun b=>b=bd) w (wr.setCell (aA bd 3) (iI ((x.depth+1:Nat):Int))):=Fr.setCell (show O0 B (fun b=>b=bd) w wr from O0.trans (O0.of H2.2.2.1) (O0.none hF)) (fun _=>Or.inr rfl) _;rw[bU] at BZ;have fT:=hi2 BZ Fg;have hd20:x.depth<=20:=(by have:=HC.z.most;omega);obtain⟨c0',c1,c2,c3,c4,c5,cz,cl⟩:=z7 iK;clear A0 hF fG iK uY eA J5 hot KE KA Lj Y2 Y9 sH Fg Ch BZ hr0 Fm bU T6;go_wp2_with (go_at_call 122;refine Sl.mono ?_)
     rintro e W9 ⟨err,rfl,F9,M6⟩;have HX:=hi2 F9 M6;clear F9 M6 c0' c1 c2 c3 c4 c5 cz cl;go_wp2_with fail
     go_ret;refine⟨err,rfl,O0.cut fT.1 HX.1 fun b hb=>(fT.2 b hb).1,?_⟩;rcases HX.2 with⟨rfl,y',tk,m',e1,e2,e3⟩|⟨rfl,e1,e2⟩
     .exact .inl ⟨rfl,y',tk,m',e1,e2.mono oM hN,e3⟩
     .exact .inr ⟨rfl,e1,e2.mono oM⟩
  .have HX:=hi2 ha (aI U0 (D0.trans H1.2 F2));clear U0 ha F2;go_wp2_with fail
   go_ret;exact⟨4,rfl,O0.of HX.2.2,.inr ⟨rfl,HX.1,HX.2.1.mono oM⟩⟩
 .have HX:=hi2 ha (aI U0 (D0.trans (D0.none (fR.drewN _)) F1));clear U0 ha F1;go_wp2_with fail
  go_ret;exact⟨4,rfl,O0.of HX.2.2,.inr ⟨rfl,HX.1,HX.2.1.mono oM⟩⟩
end
section
open Go.Proofs Go.RowKit Go.Sg CP SF
structure eO (w:w9)(a:Option Addr)(n c:Nat)(l:List Int):Prop where
 len:l.length=n
 at_:∀ (i:Nat) (k:Int),l[i]?=some k->∃ b off,a=some ⟨b,off,none⟩/\b<w.heap.size/\w.cell? (aA b (off+i))=some (iI k)
 nil:a=none->n=0/\c=0
variable {w w':w9}{a:Option Addr}{b3 bd c n s:Nat}{l:List Int}
def eO.fr {S:Nat->Prop}(h:eO w a n c l)(F:Fr S w w')(hS:∀ b off,a=some ⟨b,off,none⟩->b<w.heap.size->l≠[]->¬ S b):eO w' a n c l:=
 ⟨h.len,fun i k hk=>by
  obtain⟨b,off,e,hb,h1⟩:=h.at_ i k hk;have hn:l≠[]:=by rintro rfl;simp at hk
  exact⟨b,off,e,E4 hb F.size,(F.cell (p:=⟨b,off+i,none⟩) hb (hS b off e hb hn)).trans h1⟩,h.nil⟩
def eO.J0 (h:eO w a n c l)(F:Fq w w'):eO w' a n c l:=h.fr F fun _ _ _ _ _ h=>h
def eO.src (h:eO w a n c l):rx w (sL a n c) n (l.map (Value.int .i64)):=by
 refine⟨a,c,rfl,?_⟩;cases a with
 | none =>
  obtain⟨rfl,rfl⟩:=h.nil rfl;exact .inl ⟨rfl,rfl,rfl,by have:=h.len;rw[Qf.1 this];rfl⟩
 | some ad =>
  refine .inr ⟨_,rfl,fun j u hj=>?_⟩;rw[gP] at hj;cases hl:l[j]? with
  | none=>rw[hl] at hj;cases hj
  | some k =>
   rw[hl] at hj;cases hj;obtain⟨b,off,e,_,hc⟩:=h.at_ j k hl;cases e;rw[kU];exact hc
abbrev Ay (w:w9)(base:Nat)(v:Value)(l:List Int):Prop:=w.ownsRow base 3 1 v l.length (l.map (Value.int .i64))
def Ai0 (l:List Int)(w:w9)(e:Ending)(w':w9):Prop:=∃ v,e = rT v/\Ay w' w.heap.size v l/\Fq w w'
def si0 (h:eO w a n c l)(hn:n<=100000):cP 187 #[sL a n c] w (Ai0 l w):=by
 obtain⟨i0,A3,J1,M1,O1⟩:=info_parts bJ;have q52:∀ (w:w9) (a:Option Addr) (n c n' c':Nat),(binOp .eql 52 (sL a n c) (sL none n' c')).run prog w = .ok (bO a.isNone) w:=fun w a n c n' c'=>Lib.run_eql_slice_nil w _ _ a n c n' c' underlying52
 cases a with
 | none =>
  obtain⟨rfl,rfl⟩:=h.nil rfl;have hl:l=[]:=Qf.1 h.len;subst hl;clear h;go_enter func187,ntmps187;go_wp2_with fail
  go_ret;exact⟨_,rfl,World.ownsRow_nil _ _ _ _,fR⟩
 | some ad =>
  have H:=hid h;have N8:=h.len;clear h;subst N8;go_enter func187,ntmps187;go_wp2_with (at_builtin;refine mq rfl (.tmp 5) (.tmp 6) 52 rfl w.heap.size 3 i0 _ 1 8 underlying52 A3 J1 M1 O1 rfl dC _ _ _ rfl (IA _ _ (nR _) _ _ _ (by simp[go_sem])) _ l.length _ rfl ((H.J0 (fR.alloc _)).src) sP (by intro u hu;obtain⟨x,_,rfl⟩:=N4.1 hu;rfl) (by simp[maxLen];omega) oM sP ?_)
  intro v2 W2 N0 db gq;have iw:Fr (fun b=>b=w.heap.size) w W2:=((Fr.refl (fun b=>b=w.heap.size) _).alloc _).trans (Fr.of_grownBy db) fun b _ h=>h;have F1:Fq w W2:=iw.mono fun b hb h=>oM;have HO:=hi2 N0 F1;clear N0 db gq iw F1;go_wp2_with fail
  go_ret;have ho:=HO.1;try simp only[C7,o8] at ho
  exact⟨_,rfl,ho,HO.2⟩
def CG0 (base:Nat)(v:Value)(l:List Int)(w:w9)(e:Ending)(w':w9):Prop:=
 e = rT (tU #[])/\Ay w' base v (l.mergeSort fun x y=>decide (x<=y))/\Fr (fun b=>some b=v.ownBlock) w w'
def pM0 {base:Nat}{v:Value}(h:Ay w base v l)(hn:l.length<=100000):cP 141 #[v] w (CG0 base v l w):=by
 by_cases hv:v = sL none 0 0
 .subst hv;have hl:l=[]:=by
   obtain⟨_,⟨_,h1⟩|⟨g,cap,cur,h1,_⟩⟩:=h
   .exact Qf.1 h1
   .cases h1
  subst hl;refine (AnyM.slices_Sort_int_none ek none 0 w).mono ?_;rintro e w' ⟨rfl,rfl⟩;exact⟨rfl,by rw[List.mergeSort_nil];exact World.ownsRow_nil _ _ _ _,fR⟩
 .obtain⟨g,cap,rfl,hb,hg,xG,hcm,hl,hH⟩:=Go.Lib.holds_of_ownsRow (enc:=Value.int .i64) h hv;refine (AnyM.slices_Sort_int ek g 0 cap l w hH hg oM).mono ?_;rintro e w' ⟨rfl,q,os,rfl⟩;have hlen:(l.mergeSort fun x y=>decide (x<=y)).length=l.length:=List.length_mergeSort _;have h1:=Go.Lib.ownsRow_putRow (q:=q) (k:=l.length) (ys:=l.mergeSort fun x y=>decide (x<=y)) h hlen (nR _);rw[tL (by rw[hlen];exact nR _)] at h1;have F1:Fr (fun b=>some b=(sL g l.length cap).ownBlock) w (Go.Sort.putRow (Value.int .i64) (Go.Sort.ahead w q) g 0 (l.mergeSort fun x y=>decide (x<=y)).toArray):=
   ⟨rfl,rfl,rfl,by simp[Go.Sort.putRow,Go.Sort.mapBlock,Go.Sort.ahead],fun b hb hn=>by
    have:g≠b:=fun e=>hn (by rw[e];rfl)
    simp[Go.Sort.putRow,Go.Sort.mapBlock,Go.Sort.ahead,Array.getElem?_modify,this]⟩
  have F2:∀ W:World,Fq W (Go.Sort.grow W os):=fun W =>
   ⟨rfl,rfl,rfl,by simp[Go.Sort.grow],fun b hb _=>by simp[Go.Sort.grow,Array.getElem?_append_left hb]⟩
  refine⟨rfl,?_,F1.trans (F2 _) nE⟩;have h2:=K3 h1 (F2 _) fun _ _ _ h=>h;show World.ownsRow _ base 3 1 _ (l.mergeSort fun x y=>decide (x<=y)).length _;rw[hlen];exact h2
def gD (n:Nat)(k:Int):Bool:=decide (k<0) || decide ((n:Int)<=k)
variable {x:P1}
def zH0 (hD:N2 w bd s x)(hb:w.heap[b3]?=some (.cells #[A7 bd] 83))(hd:x.depth<=20)(k:Int):cP 124 #[iI k,pO b3] w (BT (bO (gD x.slots k)) w):=by
 have kS:=hid (OF hD hd);have cb:=G0 hb 0;simp at cb;clear hD hb;by_cases h0:k<0
 .have d1:decide (k<0)=true:=decide_eq_true h0;go_enter func124,ntmps124;go_wp2_with fail
  go_ret;exact⟨by simp[gD,d1],0,rfl⟩
 .have d1:decide (k<0)=false:=decide_eq_false h0;go_enter func124,ntmps124;go_wp2_with (go_at_call 125;refine kS.mono ?_)
  rintro e W2 ⟨rfl,m,rfl⟩;go_wp2_with fail
  refine bodyPost_ret (v:=bO (gD x.slots k)) (by simp[results,go_sem,gD, *]) rfl ⟨rfl,m,rfl⟩
def DI0 (n:Nat)(l:List Int)(w:w9)(e:Ending)(w':w9):Prop:=∃ z:Int,e = rT (iI z)/\decide (0<=z)=l.any (gD n)/\∃ m,w'=w.drewN m
def vA0 (hD:N2 w bd s x)(hb:w.heap[b3]?=some (.cells #[A7 bd] 83))(hd:x.depth<=20)(h:eO w a n c l)(hn:n<=100000) :
  cP 185 #[sL a n c,.func (.func 124) #[] #[pO b3]] w (DI0 x.slots l w):=by
 have H:=hid h;have HB:=hi2 hD hb;clear h hD hb;go_enter func185,ntmps185;go_wp2_with fail
 go_loopw [8] (fun i wr=>∃ k:Nat,k<=n/\i = iI k/\(∃ m,wr=w.drewN m)/\(l.take k).any (gD x.slots)=false) fun i _=>n-(intOf i).toNat
 case atStart=>exact⟨0,C3 _,rfl,⟨0,rfl⟩,rfl⟩
 case round =>
  obtain⟨k,hk,rfl,⟨m,rfl⟩,Y2⟩:=hrel;have HA:=hid Y2;clear Y2;by_cases hlt:k<n
  .have T6:decide ((k:Int)<(n:Int))=true:=by simp;omega
   obtain⟨z,hz⟩:∃ z,l[k]?=some z:=⟨_,gE (by have:=H.len;omega)⟩
   obtain⟨b,off,rfl,J6,hc⟩:=(H.J0 (fR.drewN m)).at_ k z hz;have cF:(k:Int)<(n:Int):=oM
   have jR:=hid (zH0 (w:=w.drewN m) (show N2 (w.drewN m) bd s x from HB.1) (show (w.drewN m).heap[b3]?=_ from HB.2) hd z);have Z3:(l.take (k+1)).any (gD x.slots)=gD x.slots z:=by rw[ea,hz,List.any_append,HA];simp
   have HT:=hi2 Z3 hz;clear hz Z3;generalize rh:gD x.slots z=ob at *
   have No:=hid rh;clear rh;go_wp2_with (go_at_call 124;refine jR.mono ?_)
   rintro e W2 ⟨rfl,m2,rfl⟩;cases ob with
   | true =>
    go_wp2_with fail
    go_ret;refine⟨_,rfl,?_,_,rfl⟩;have h1:l.any (gD x.slots)=true:=vK.2 ⟨z,gM HT.2,No.o⟩;rw[h1];simp
   | false =>
    go_wp2_with fail
    go_roundw;case rel=>exact⟨k+1,hlt,by go_num,⟨m+m2,by simp[World.drewN,qg]⟩,HT.1⟩
    case measure=>exact wM
  .obtain rfl:k=n:=by omega
   have T6:decide ((k:Int)<(k:Int))=false:=by simp
   go_wp2_with fail
   go_ret;refine⟨_,rfl,?_,_,rfl⟩;have:=HA.o;rw[tL (by rw[H.len];exact nR _)] at this;rw[this];rfl
def nj0 (hD:N2 w bd s x)(hb:w.heap[b3]?=some (.cells #[A7 bd] 83))(hd:x.depth<=20)(h:eO w a n c l)(hn:n<=100000) :
  cP 123 #[sL a n c,.func (.func 124) #[] #[pO b3]] w (BT (bO (l.any (gD x.slots))) w):=by
 have HI:=hid (vA0 hD hb hd h hn);clear hD hb h;go_enter func123,ntmps123;go_wp2_with (go_at_call 185;refine HI.mono ?_)
 rintro e W2 ⟨z,rfl,hz,m,rfl⟩;have HZ:=hid hz;clear hz;go_wp2_with fail
 refine bodyPost_ret (v:=bO (decide (0<=z))) (by simp[results,go_sem]) rfl ⟨by rw[HZ],m,rfl⟩
end
section
open Go.RowKit Go.Sg
variable {P:Program}{o:Oper}{a:Act}{w:w9}{K:Act->World->Prop}{Q:Exit->Act->World->Prop}{b cap e g n size:Nat}{xs:List Value}
def mO0 {ops:Array Oper}{E:Prop}(lF:o.guard=none)(s x:Operand)(t:TypeId)
  (ho:o.op = .call { callee:=.builtin .append,args:=#[s,x],argTypes:=#[t,t] }) (base:Nat) (e:TypeId) (i:TypeInfo) (z:Value) (size bytes:Nat) (ht:P.underlying t=some (.slice e)) (hi:P.info? e=some i) (hz:i.zero=some z)
  (fh:i.size=size) (O2:i.bytes=bytes) (dA:z.cells.size=size) (hsz:0<size) (v:Value) (n:Nat) (xs:List Value) (hs:a.eval s=v) (A0:w.ownsRow base e size v n xs)
  (vx:Value) (m:Nat) (news:List Value) (hx:a.eval x=vx) (df:rx w vx m news) (hl:news.length=m*size) (h1:∀ u ∈ news,u.oneCell'=true) (BU:n+m<=maxLen) (aV:(n+m)*bytes<=140737488355328) (Z0:base<=w)
  (h:∀ v' w',w'.ownsRow base e size v' (n+m) (xs++news)->w.grownBy w' v.ownBlock->K (a.put o.dst v') w') :
  if Region.wanted o (yielded ops a.tmps)=true then Oper.wp P o a w K Q else E:=by
 have hw:Region.wanted o (yielded ops a.tmps)=true:=by simp[Region.wanted,lF]
 rw[if_pos hw];obtain⟨a',c,rfl,⟨rfl,rfl,rfl,rfl⟩|⟨ad,rfl,hc⟩⟩:=df
 .have hrun:=run_append_owned_none (P:=P) (w:=w) base t o.type e i size ht hi v n xs A0;unfold Oper.wp;simp[execOp,ho,resolve,invoke,builtin,hs,hx,hrun,Result.andThen];exact h v w (by simpa using A0) ⟨rfl,rfl,rfl,nR _,fun _ _ _=>rfl⟩
 .obtain⟨v',w',hr,h2,h3,h4,h5⟩:=run_append_own_at (P:=P) w base t o.type e i z size bytes ht hi hz fh O2 dA hsz v n xs A0 ad m c news hl hc h1 BU aV Z0;unfold Oper.wp execOp;simp only[ho,resolve,invoke,builtin,Sem.run_bind,Sem.run_pure,Result.andThen_ok,Qu,qf,xX,hs,hx,hr];exact h v' w' h2 h3
def Of (lF:o.guard=none)(s x:Operand)(t:TypeId)
  (ho:o.op = .call { callee:=.builtin .append,args:=#[s,x],argTypes:=#[t,t] }) (base:Nat) (e:TypeId) (i:TypeInfo) (z:Value) (size bytes:Nat) (ht:P.underlying t=some (.slice e)) (hi:P.info? e=some i) (hz:i.zero=some z)
  (fh:i.size=size) (O2:i.bytes=bytes) (dA:z.cells.size=size) (hsz:0<size) (v:Value) (n:Nat) (xs:List Value) (hs:a.eval s=v) (A0:w.ownsRow base e size v n xs)
  (vx:Value) (m:Nat) (news:List Value) (hx:a.eval x=vx) (df:rx w vx m news) (hl:news.length=m*size) (h1:∀ u ∈ news,u.oneCell'=true) (BU:n+m<=maxLen) (aV:(n+m)*bytes<=140737488355328) (Z0:base<=w)
  (h:∀ v' w',w'.ownsRow base e size v' (n+m) (xs++news)->w.grownBy w' v.ownBlock->K (a.put o.dst v') w'):Oper.wp P o a w K Q:=by
 have hw:Region.wanted o (yielded #[] a.tmps)=true:=by simp[Region.wanted,lF]
 have:=mO0 (ops:=#[]) (E:=True) lF s x t ho base e i z size bytes ht hi hz fh O2 dA hsz v n xs hs A0 vx m news hx df hl h1 BU aV Z0 (K:=K) (Q:=Q) h;rwa [if_pos hw] at this
def ao {b':Nat}{v:Value}(h:w.ownsRow b e size v n xs)(hb:b'<=b):w.ownsRow b' e size v n xs:=by
 obtain⟨hl,h0|⟨g,cap,cur,hv,hg,r⟩⟩:=h
 .exact⟨hl,.inl h0⟩
 .exact⟨hl,.inr ⟨g,cap,cur,hv,nT hb hg,r⟩⟩
def za0 {n':Nat}(h:w.ownsRow b e size (sL g n' cap) n xs):b<=g:=by
 obtain⟨_,⟨h0,_⟩|⟨g',cap',cur',hv,hb,I1,_⟩⟩:=h
 .cases h0
 .cases hv;exact hb
def Qz {V W:w9}(F:Fq w V)(h:V.grownBy W (sL g n cap).ownBlock)(hg:w<=g):Fq w W:=
 (F.trans (Fr.of_grownBy h) (fun b hb e=>by
  have e':b=g:=e;omega))
def jF0 {c:Nat}{a:Option Addr}{l:List Int}(h:w.ownsRow b 3 1 (sL a n c) n (l.map (Value.int .i64)))(hl:l.length=n):eO w a n c l:=by
 subst hl;obtain⟨a',c',e,-,-,Y4,-⟩:=A2 h;cases e;refine⟨rfl,fun i k hk=>?_,Y4⟩;obtain⟨g,e',hg,h1⟩:=d8 h (j:=i) (u:=iI k) (by rw[gP,hk];rfl);exact⟨g,0,e',hg,by rw[o8];exact h1⟩
end
section
open Go.RowKit Go.Sg CP SF
def U4 (oldest:Int)(x:Bt):Bool:=decide (oldest<=x.rg)
variable {w:w9}{b3 bits h:Nat}{v:Value}
def qu0 {oldest:Int}(hb:w.heap[b3]?=some (.cells #[iI oldest] 3))(x:Bt) :
  cP 194 #[E8 x,pO b3] w (bt (bO (U4 oldest x)) w):=by
 obtain⟨w1,I0⟩:=eX (w.alloc (.cells #[iU x.hash,iI x.rg,iI x.at_,iI x.sz] 118))
 have b1:=fB I0
 have F1:=fA I0
 have HF:=hid F1;obtain⟨t0,t1,t2,t3,tz,tl⟩:=D8 b1;have c0:=G0 (F1.heap hb id) 0;simp at c0;obtain⟨bb,cY⟩:∃ bb,decide (oldest<=x.rg)=bb:=⟨_,rfl⟩
 have JR:U4 oldest x=bb:=cY;have HB:=hid JR;have HW:=hid I0;clear I0 b1 F1 hb JR;go_enter func194,ntmps194;go_upto_region 1 with fail
 rw[HW];go_wp2_with fail
 go_ret;exact⟨by rw[HB];rfl,HF.o⟩
def Za (d p:Int)(es:List Bt)(w:w9)(e:Ending)(w':w9):Prop:=∃ a c,e = rT (E9 d p (sL a es.length c))/\Y3 w' w.heap.size (sL a es.length c) es/\Fq w w'
variable {es:List Bt}
def lX0 (hE:Y3 w 0 v es)(hl:es.length<=255)(d p oldest:Int) :
  cP 132 #[E9 d p v,iI oldest] w (Za d p (es.filter (U4 oldest)) w):=by
 obtain⟨va,vc,rfl,-,-,-,-⟩:=A2 hE;obtain⟨n,hn⟩:=eX es.length
 obtain⟨w1,I0⟩:=eX (((w.alloc (.cells #[iI d,iI p,sL va n vc] 129)).alloc (.cells #[iI oldest] 3)).alloc (.cells #[iI 0,iI 0,sL none 0 0] 129))
 obtain⟨b0,b1,b2,F1⟩:=nC I0;have HB:=hid fun W (F:Fq w1 W)=>aI (cells3 (F.heap b0 id)) (cells3 (F.heap b2 id));have Z5:=oN hE F1;have gQ:=hid (md0 Z5 hl ⟨w+1,0,none⟩ (U4 oldest) fun x _ W F=>qu0 (F.heap b1 id) x);have E1:=hid F1;have HN:=hid hn;have hsz:w1.heap.size=w.heap.size+3:=by rw[<- I0];simp
 have eL:=hid hsz;obtain⟨⟨x0,x1,x2,xz,xl⟩,⟨y0,y1,y2,yz,yl⟩⟩:=HB.o _ fR;have HW:=hid I0;rw[hn] at gQ ⊢;clear I0 b0 b1 b2 F1 hE hl hn hsz Z5;go_enter func132,ntmps132;go_upto_region 1 with fail
 rw[HW];go_wp2_with fail
 refine gQ.mono ?_;rintro e w2 ⟨v1,v2,rfl,⟨h1,-⟩,-,F2⟩;obtain⟨a1,c1,rfl,-,-,-,-⟩:=A2 h1;have H2:=hi2 h1 F2;clear h1 F2 x0 x1 x2 xz xl y0 y1 y2 yz yl;obtain⟨⟨x0,x1,x2,xz,xl⟩,⟨y0,y1,y2,yz,yl⟩⟩:=HB.o _ H2.2;go_wp2_with fail
 refine (LW d p va n vc a1 (es.filter (U4 oldest)).length c1 w2).mono ?_;rintro e w3 ⟨rfl,F3⟩;have N5:=hid F3;have Fw:w.heap.size+2<w3.heap.size:=E4 yl F3.size;clear F3 x0 x1 x2 xz xl y0 y1 y2 yz yl;obtain⟨⟨x0,x1,x2,xz,xl⟩,⟨y0,y1,y2,yz,yl⟩⟩:=HB.o _ (H2.2.trans N5 nI);go_wp2_with fail
 have FS:∀ (W:w9) (o:Nat) (u:Value),Fr (fun b=>b=w.heap.size+2) W (W.setCell (aA (w+2) o) u):=fun W o u=>(Fr.refl (fun b=>b=w.heap.size+2) _).setCell (a:=⟨w+2,o,none⟩) (fun _=>rfl) u
 refine bodyPost_ret (v:=E9 d p (.slice a1 (es.filter (U4 oldest)).length c1)) sR rfl ⟨a1,c1,rfl,?_,?_⟩
 .have hs:=eL.o;exact bi (ao (oN H2.1 N5.o) oM) (((FS _ _ _).trans (FS _ _ _) nI).trans (FS _ _ _) nI) (fun g hg e=>by
   have:=(bK H2.1 hg).1;omega)
 .exact ((((E1.trans H2.2 nI).trans N5 nI).U2 oM _).U2 oM _).U2 oM _
def X0 (h bits:Nat):Nat:=if bits<1\/30<bits then 0 else h/2^(64-bits)
def BU0 (hh:h<18446744073709551616)(hb:bits<=20):X0 h bits<1048576:=by
 unfold X0;split
 .omega
 .have h1:h/2^(64-bits)<=h/2^44:=Nat.div_le_div_left (aZ dC oM) dC;have h2:h/2^44<1048576:=by
   rw[show (2:Nat)^44=17592186044416 by decide];omega
  omega
def wS0 (hh:h<18446744073709551616)(hb:bits<=20)(h0:¬ bits<1):wrap64 ((h:Int)/2^(64-bits))=(X0 h bits:Int):=by
 have h1:=BU0 hh hb;have e:(h:Int)/2^(64-bits)=(X0 h bits:Int):=by
  unfold X0;rw[if_neg oM];simp
 rw[e];generalize X0 h bits=z at *
 simp only[wrap64];omega
def WB (h bits:Nat)(hh:h<18446744073709551616)(hb:bits<=20)(w:w9):cP 191 #[iU h,iI bits] w (AA (X0 h bits) w):=by
 by_cases h0:bits<1
 .have d0:decide (bits<1)=true:=by simp;omega
  have hp:X0 h bits=0:=by unfold X0;rw[if_pos (.inl h0)]
  rw[hp];obtain rfl:bits=0:=oM
  go_enter func191,ntmps191;go_wp2_with fail
  go_ret;exact⟨rfl,rfl⟩
 .have d0:decide ((bits:Int)<1)=false:=by simp;omega
  have d1:decide ((30:Int)<(bits:Int))=false:=by simp;omega
  have hp:X0 h bits=h/2^(64-bits):=by unfold X0;rw[if_neg oM]
  have HP:=hid hp;clear hp;go_enter func191,ntmps191;go_wp2_with fail
  go_ret;exact⟨by rw[<- wS0 hh hb h0];rfl,rfl⟩
def ac (d:Nat)(x:Bt):Bool:=decide (X0 x.hash (d+1) % 2=1)
def uR0 {d:Nat}{p:Int}(hb:w.heap[b3]?=some (.cells #[iI d,iI p,v] 129))(hd:d<20)(x:Bt)(hx:x.hash<18446744073709551616) :
  cP 247 #[E8 x,pO b3] w (bt (bO (ac d x)) w):=by
 obtain⟨w1,I0⟩:=eX (w.alloc (.cells #[iU x.hash,iI x.rg,iI x.at_,iI x.sz] 118))
 have b1:=fB I0
 have F1:=fA I0
 have HF:=hid F1;obtain⟨t0,t1,t2,t3,tz,tl⟩:=D8 b1;obtain⟨c0,c1,c2,cz,cl⟩:=cells3 (F1.heap hb id);have HP:=hid (WB x.hash (d+1) hx oM w1);obtain⟨q,hq⟩:=eX (X0 x.hash (d+1))
 obtain⟨bb,cY⟩:=eX (decide (q % 2=1))
 have ku:((q:Int) % 2 == 1)=bb:=by
  rw[<- cY,Bool.eq_iff_iff];simp;omega
 have hbt:((q:Int).tmod 2 == 1)=bb:=by
  rw[Int.tmod_eq_emod_of_nonneg oM];exact ku
 have HB:=hid (show ac d x=bb by unfold ac;rw[hq];exact cY);rw[hq] at HP;have HW:=hid I0;clear I0 b1 F1 hb hq cY;go_enter func247,ntmps247;go_upto_region 1 with fail
 rw[HW];go_wp2_with fail
 refine HP.mono ?_;rintro e _ ⟨rfl,rfl⟩;go_wp2_with fail
 go_ret;exact⟨by rw[HB];rfl,HF.o⟩
def AC0 (d p:Nat)(es:List Bt)(w:w9)(e:Ending)(w':w9):Prop:=
 ∃ a0 c0 a1 c1,e = rT (.agg #[iI ((d+1:Nat):Int),iI ((2*p:Nat):Int),.slice a0 (es.filter fun x=>!ac d x).length c0,iI ((d+1:Nat):Int),iI ((2*p+1:Nat):Int),.slice a1 (es.filter (ac d)).length c1]) /\
  Y3 w' w.heap.size (.slice a0 (es.filter fun x=>!ac d x).length c0) (es.filter fun x=>!ac d x)/\Y3 w' w.heap.size (.slice a1 (es.filter (ac d)).length c1) (es.filter (ac d))/\Fq w w'
def lU0 (hE:Y3 w 0 v es)(hl:es.length<=255)(hx:∀ x ∈ es,x.hash<18446744073709551616)(d p:Nat)(hd:d<20)(hp:p<1048576) :
  cP 196 #[E9 d p v] w (AC0 d p es w):=by
 obtain⟨va,vc,rfl,-,-,-,-⟩:=A2 hE;obtain⟨n,hn⟩:=eX es.length
 obtain⟨w1,I0⟩:=eX ((w.alloc (.cells #[iI d,iI p,sL va n vc] 129)).alloc (.cells #[iI 0,iI 0,sL none 0 0,iI 0,iI 0,sL none 0 0] 301))
 obtain⟨b0,b1,F1⟩:=n9 I0;have HB:=hid fun W (F:Fq w1 W)=>aI (cells3 (F.heap b0 id)) (z7 (F.heap b1 id));have Z5:=oN hE F1;have gQ:=hid (mc0 Z5 hl ⟨w,0,none⟩ (ac d) fun x Ly W F=>uR0 (F.heap b0 id) hd x (hx x Ly));have E1:=hid F1;have HN:=hid hn;have hsz:w1.heap.size=w.heap.size+2:=by rw[<- I0];simp
 have eL:=hid hsz;obtain⟨⟨x0,x1,x2,xz,xl⟩,⟨y0,y1,y2,y3,y4,y5,yz,yl⟩⟩:=HB.o _ fR;have HW:=hid I0;rw[hn] at gQ ⊢;clear I0 b0 b1 F1 hE hl hn hsz Z5 hx;go_enter func196,ntmps196;go_upto_region 1 with fail
 rw[HW];go_wp2_with fail
 refine gQ.mono ?_;rintro e w2 ⟨v1,v2,rfl,⟨h1,h2⟩,-,F2⟩;obtain⟨a1,c1,rfl,-,-,-,-⟩:=A2 h1;obtain⟨a0,c0,rfl,-,-,-,-⟩:=A2 h2;have H2:=hi2 h1 (aI h2 F2);clear h1 h2 F2 x0 x1 x2 xz xl y0 y1 y2 y3 y4 y5 yz yl;obtain⟨⟨x0,x1,x2,xz,xl⟩,⟨y0,y1,y2,y3,y4,y5,yz,yl⟩⟩:=HB.o _ H2.2.2;go_wp2_with fail
 have FS:∀ (W:w9) (o:Nat) (u:Value),Fr (fun b=>b=w.heap.size+1) W (W.setCell (aA (w+1) o) u):=fun W o u=>(Fr.refl (fun b=>b=w.heap.size+1) _).setCell (a:=⟨w+1,o,none⟩) (fun _=>rfl) u
 have hs:=eL.o;have F6:∀ u0 u1 u2 u3 u4 u5:Value,Fr (fun b=>b=w.heap.size+1) w2 ((((((w2.setCell (aA (w+1) 0) u0).setCell (aA (w+1) 1) u1).setCell (aA (w+1) 2) u2).setCell (aA (w+1) 3) u3).setCell (aA (w+1) 4) u4).setCell (aA (w+1) 5) u5):=fun u0 u1 u2 u3 u4 u5 =>
  ((((((FS _ _ _).trans (FS _ _ _) nI).trans (FS _ _ _) nI).trans (FS _ _ _) nI).trans (FS _ _ _) nI).trans (FS _ _ _) nI)
 have F0:=E1.trans H2.2.2 nI;have HO:=hid (fun (v:Value) (l:List Bt) (h:Y3 w2 w1.heap.size v l) (u0 u1 u2 u3 u4 u5:Value)=>(bi (ao h oM) (F6 u0 u1 u2 u3 u4 u5) (fun g hg e=>by
   have:=(bK h hg).1;omega):Y3 _ w.heap.size v l))
 have HA:=hid H2.1;have bD:=hid H2.2.1;have wg:=hid fun u0 u1 u2 u3 u4 u5=>F0.trans (F6 u0 u1 u2 u3 u4 u5) fun b hb e=>oM;clear FS F6 F0 hs;refine bodyPost_ret (v:=.agg #[iI ((d:Int)+1),iI (2*(p:Int)),.slice a0 (es.filter fun x=>!ac d x).length c0,iI ((d:Int)+1),iI (2*(p:Int)+1),.slice a1 (es.filter (ac d)).length c1]) sR rfl ⟨a0,c0,a1,c1,by simp,HO _ _ bD _ _ _ _ _ _,HO _ _ HA _ _ _ _ _ _,wg _ _ _ _ _ _⟩
end
end Go.Proofs.YtgdhaaokolfdoaaGreatDoor
namespace Go.Sg
open Go.RowKit
section
variable {n:Nat}{P:Program}{ops:Array Oper}{Q:Exit->Act->World->Prop}{lp:Nat}
def IB (ops:Array Oper):Bool:=ops.toList.all fun o=>match o.op with
 | .defer _=>false
 | _=>true
def ry0 (h:IB ops=true)(i:Nat)(o:Oper)(hi:ops[i]?=some o)(c:Call):o.op≠.defer c:=by
 intro e;have h1:=Qr.1 h o (by
  have:=gM (l:=ops.toList) (i:=i) (a:=o) (by simpa using hi);exact this)
 rw[e] at h1;cases h1
variable {w:w9}{a:Act}{K:Act->World->Prop}{i id:Nat}
def rl0 {row:String}{args:Array Value}{R:Value->World->Prop}(h:Rows P row args w R):RowsIn (Fence.wide.inRound lp) n P row args w R:=fun c cs _=>by
 obtain⟨v,w',r,s⟩:=h c cs;exact⟨v,w',r,stepsIn_wide.2 s⟩
def pF0 (f:FuncId):(Fence.wide.inRound lp).fn f:=trivial
def ru0 {o:Oper}(hd:∀ c,o.op≠.defer c){K':Act->World->Prop}(hK:∀ a w,K a w->K' a w)(h:o.wp P a w K Q):o.wpIn (Fence.wide.inRound lp) n P a w K' Q:=by
 unfold Oper.wp at h;unfold Oper.wpIn;refine⟨fun f _=>pF0 f,?_⟩;rw[Oper.semAt_eq _ _ _ hd];generalize (execOp a.eval o).run P w=r at *
 cases r with
 | ok x w' =>
  cases x <;> simp only[Oper.upon] at h <;> simp only[Oper.uponIn]
  case value u=>exact hK _ _ h
  case skip=>exact hK _ _ h
  case defer d=>exact hK _ _ h
  case enter f args =>
   refine⟨fun h=>(by cases h),CallsIn.inRound lp (callsIn_wide.2 (h.mono fun e w'' he=>?_))⟩;cases e with
   | returned v=>exact hK _ _ he
   | panicked c=>exact he
   | outgrown=>exact he
  case row row args=>exact⟨fun h=>(by cases h),(rl0 h).mono fun v w'' he=>hK _ _ he⟩
 | halt x w'=>cases x <;> simp only[Oper.upon] at h <;> simp only[Oper.uponIn] <;> exact h
def Oz (hd:IB ops=true)(hl:¬ LetsOut Q):∀ (l:List Nat) (a:Act) (w:w9),wpOps P ops Q l a w->wpOpsIn (Fence.wide.inRound lp) n P ops Q l a w
 | [],_,_,h=>h
 | i :: rest,a,w,h=>by
  simp only[wpOps] at h;simp only[wpOpsIn];cases ho:ops[i]? with
  | none=>simp only[ho] at h ⊢;exact Oz hd hl rest a w h
  | some o =>
   simp only[ho] at h ⊢;by_cases hw:Region.wanted o (yielded ops a.tmps)=true
   .simp only[hw,if_true] at h ⊢;rcases h with h|⟨_,h⟩
    .exact ru0 (ry0 hd i o ho) (fun a w h=>Oz hd hl rest a w h) h
    .exact absurd h hl
   .simp only[hw] at h ⊢;exact⟨fun f _=>pF0 f,Oz hd hl rest _ _ h⟩
def gf0 (hm:P.follows .mixedOrders=true)(hd:IB ops=true)(hl:¬ LetsOut Q)
  (h:wpAny P .any ops Q ops.size (Array.replicate ops.size false) a { w with drawn:=w.drawn+1 }):(Code.region id ops true).wpIn (Fence.wide.inRound lp) n P Q a w:=
 wpIn_region_draw fun t=>by
  simp only[Region.schedule,hm,Bool.true_or,if_true];exact Oz hd hl _ _ _ (wpAny_sound ops.size t _ a _ h)
def gv0 {l:List Oper}(n':Nat)(hm:P.follows .mixedOrders=true)(hd:IB l.toArray=true)(hl:¬ LetsOut Q)(hB:Region.lexTailB .any l.toArray n'=true)
  (h:wpStill P l.toArray w.drew (fun a'=>wpList P l.toArray Q (l.drop n') a' w.drew) (l.take n') a):(Code.region id l.toArray true).wpIn (Fence.wide.inRound lp) n P Q a w:=by
 simp only[Region.lexTailB,uh,decide_eq_true_eq] at hB;obtain⟨⟨⟨⟨VV,hn⟩,hs⟩,hc⟩,Vr⟩:=hB;have Kq:n'<l.length:=by simpa using hn
 have r9:(l.take n').length=n':=by simp;omega
 have T6:(l.drop n').length=l.toArray.size-n':=by simp
 have inv0:HeadInv .any l.toArray n' (Array.replicate l.toArray.size false):=
  ⟨by simp,fun j oj _ hl=>(by rw[getD_replicate_false] at hl;cases hl),fun t _ ht=>getD_in (by simpa using ht) (getD_replicate_false _ _)⟩
 have H:=wpAnyL_lex (md:=.any) (g:=l.toArray.size-n') VV hs hc hn (l.take n') 0 _ a (fun j hj=>by
  have hj':j<n':=by rw[r9] at hj;exact hj
  simp[hj']) (by simpa using r9) inv0 (by rw[r9];exact Vr) h
 refine gf0 hm hd hl ?_;have:=wpAny_of_head (Q':=Q) (g:=l.toArray.size-n') (fun listed a' hL=>by
  have:=wpAny_of_seq (md:=.any) (Q':=Q) (l.drop n') n' listed a' { w with drawn:=w.drawn+1 } (fun j=>by simp[jJ]) (by rw[T6];exact hL.1) hL.2;rwa [T6] at this) _ _ _ H
 rw[r9,show n'+(l.toArray.size-n')=l.toArray.size by omega] at this;exact this
variable {md:Region.Mode}{S:World->Prop}
inductive Pl where
 | done
 | rd (i:Nat) (p:Pl)
 | op (i:Nat) (p:Pl)
 | two (i j:Nat) (p q:Pl)
def bP (P:Program)(md:Region.Mode)(ops:Array Oper)(Q:Exit->Act->World->Prop)(S:World->Prop):Pl->Act->World->Prop
 | .done,a,w=>Q .normal a w
 | .rd i p,a,w=>∃ v o,ops[i]?=some o/\YieldsIf P ops S o v a/\bP P md ops Q S p (a.put o.dst v) w
 | .op i p,a,w=>wpOp P ops Q i (fun a' w'=>S w'/\bP P md ops Q S p a' w') a w
 | .two i j p q,a,w=>wpOp P ops Q i (fun a' w'=>S w'/\bP P md ops Q S p a' w') a w/\wpOp P ops Q j (fun a' w'=>S w'/\bP P md ops Q S q a' w') a w
def nM (md:Region.Mode)(ops:Array Oper):Nat->Pl->Array Bool->Bool
 | _,.done,listed=>(Region.ready md ops listed).isEmpty
 | n+1,.rd i p,listed=>Region.free md ops listed i && (Region.ready md ops listed).contains i && nM md ops n p (listed.setIfInBounds i true)
 | n+1,.op i p,listed=>decide (Region.ready md ops listed=[i]) && nM md ops n p (listed.setIfInBounds i true)
 | n+1,.two i j p q,listed=>decide (Region.ready md ops listed=[i,j]) && nM md ops n p (listed.setIfInBounds i true) && nM md ops n q (listed.setIfInBounds j true)
 | 0,_,_=>false
def EA (hs:Region.noSelect ops=true)(hQ:∀ c a d v w,Q (.panic c) (Act.put a d v) w->Q (.panic c) a w):∀ (n:Nat) (l:Pl) (listed:Array Bool) (a:Act) (w:w9),nM md ops n l listed=true->S w->bP P md ops Q S l a w->wpAnyH P md ops Q S n listed a w
 | _,.done,listed,a,w,hB,_,h=>wpAnyH_done (by simpa[nM] using hB) h _
 | 0,.rd _ _,_,_,_,hB,_,_=>by simp[nM] at hB
 | 0,.op _ _,_,_,_,hB,_,_=>by simp[nM] at hB
 | 0,.two _ _ _ _,_,_,_,hB,_,_=>by simp[nM] at hB
 | n+1,.rd i p,listed,a,w,hB,hS,h=>by
  simp only[nM,uh] at hB;obtain⟨v,o,ho,hy,hr⟩:=h;exact wpAnyH_take ho hs hB.1.1 hB.1.2 (fun c a w=>hQ c a _ _ w) hy hS (EA hs hQ n p _ _ _ hB.2 hS hr)
 | n+1,.op i p,listed,a,w,hB,hS,h=>by
  simp only[nM,uh,decide_eq_true_eq] at hB;refine wpAnyH_all (rs:=[i]) hB.1 sP fun j hj=>?_
  have e:j=i:=by simpa using hj
  subst e;exact wpOp_mono (fun a' w' h'=>⟨h'.1,EA hs hQ n p _ _ _ hB.2 h'.1 h'.2⟩) h
 | n+1,.two i j p q,listed,a,w,hB,hS,h=>by
  simp only[nM,uh,decide_eq_true_eq] at hB;refine wpAnyH_all (rs:=[i,j]) hB.1.1 sP fun k hk=>?_
  have e:k=i\/k=j:=by simpa using hk
  rcases e with rfl|rfl
  .exact wpOp_mono (fun a' w' h'=>⟨h'.1,EA hs hQ n p _ _ _ hB.1.2 h'.1 h'.2⟩) h.1
  .exact wpOp_mono (fun a' w' h'=>⟨h'.1,EA hs hQ n q _ _ _ hB.2 h'.1 h'.2⟩) h.2
def cA0 (S:World->Prop)(l:Pl)(hm:P.follows .mixedOrders=true)(hd:IB ops=true)(hs:Region.noSelect ops=true)(hB:nM .any ops ops.size l (Array.replicate ops.size false)=true)
  (hl:¬ LetsOut Q) (hQ:∀ c a d v w,Q (.panic c) (Act.put a d v) w->Q (.panic c) a w) (hS:S w.drew) (h:bP P .any ops Q S l a w.drew):(Code.region id ops true).wpIn (Fence.wide.inRound lp) n P Q a w:=
 gf0 hm hd hl (wpAny_of_held (S:=S) _ _ _ _ (EA hs hQ _ l _ _ _ hB hS h))
def q8 (S:World->Prop)(l:Pl)(hm:P.follows .mixedOrders=true)(hs:Region.noSelect ops=true)(hB:nM .any ops ops.size l (Array.replicate ops.size false)=true)
  (hQ:∀ c a d v w,Q (.panic c) (Act.put a d v) w->Q (.panic c) a w) (hS:S w.drew) (h:bP P .any ops Q S l a w.drew):(Code.region id ops true).wp P Q a w:=
 wp_region_any hm (wpAny_of_held (S:=S) _ _ _ _ (EA hs hQ _ l _ _ _ hB hS h))
def o5 (h:Q .normal a w):bP P md ops Q S .done a w:=h
variable {p:Pl}
def Te (o:Oper)(v:Value)(ho:ops[i]?=some o)(hw:Region.wanted o (yielded ops a.tmps)=true)(hr:∀ w,S w->(execOp a.eval o).run P w = .ok (.value v) w)(h:bP P md ops Q S p (a.put o.dst v) w):bP P md ops Q S (.rd i p) a w:=
 ⟨v,o,ho,.inl ⟨hw,hr⟩,h⟩
def tU0 (o:Oper)(ho:ops[i]?=some o)(hw:Region.wanted o (yielded ops a.tmps)=true)
  (h:∀ K':Act->World->Prop,(∀ a' w',K a' w'->K' a' w')->Oper.wp P o a w K' Q):wpOp P ops Q i K a w:=by
 unfold wpOp;simp only[ho,hw,if_true];exact .inl (h _ fun a' w' h1=>h1)
def fF (o:Oper)(ho:ops[i]?=some o)(hw:Region.wanted o (yielded ops a.tmps)=true)
  (h:∀ K:Act->World->Prop,(∀ a' w',S w'->bP P md ops Q S p a' w'->K a' w')->Oper.wp P o a w K Q):bP P md ops Q S (.op i p) a w:=
 tU0 o ho hw fun K hK=>h K fun a' w' h1 h2=>hK a' w' ⟨h1,h2⟩
def mu {j:Nat}{q:Pl}(h1:bP P md ops Q S (.op i p) a w)(h2:bP P md ops Q S (.op j q) a w):bP P md ops Q S (.two i j p q) a w:=⟨h1,h2⟩
variable {g:Prop}
def oP {o:Oper}(v:Value)(hr:∀ w,S w->(execOp a.eval o).run P w=.ok (.value v) w)(h:bP P md ops Q S p (a.put o.dst v) w)(k:bP P md ops Q S (.rd i p) a w->g:=by intro k;(try simp only[Act.put,sI,sZ,sS]);exact k)(ho:ops[i]?=some o:=by simp only[gA,gZ,gS];rfl)(hw:Region.wanted o (yielded ops a.tmps)=true:=by rfl):g:=k (Te o v ho hw hr h)
def oR {o:Oper}{v:Value}(h:bP P md ops Q S p (a.put o.dst v) w)(k:bP P md ops Q S (.rd i p) a w->g:=by intro k;(try simp only[Act.put,sI,sZ,sS]);exact k)(ho:ops[i]?=some o:=by simp only[gA,gZ,gS];rfl)(hw:Region.wanted o (yielded ops a.tmps)=true:=by rfl)(hr:∀ w,S w->(execOp a.eval o).run P w=.ok (.value v) w:=by intro V hV;go_simp;try with_reducible rfl):g:=k (Te o v ho hw hr h)
def rP {o:Oper}(h:∀ K:Act->World->Prop,(∀ a' w',S w'->bP P md ops Q S p a' w'->K a' w')->Oper.wp P o a w K Q)(k:bP P md ops Q S (.op i p) a w->g:=by intro k;(try simp only[Act.put,sI,sZ,sS]);exact k)(ho:ops[i]?=some o:=by simp only[gA,gZ,gS];rfl)(hw:Region.wanted o (yielded ops a.tmps)=true:=by rfl):g:=k (fF o ho hw h)
def rQ {o:Oper}{q:Prop}(h:q)(k:bP P md ops Q S (.op i p) a w->g:=by intro k;(try simp only[Act.put,sI,sZ,sS]);exact k)(ho:ops[i]?=some o:=by simp only[gA,gZ,gS];rfl)(hw:Region.wanted o (yielded ops a.tmps)=true:=by rfl)(j:q->∀ K:Act->World->Prop,(∀ a' w',S w'->bP P md ops Q S p a' w'->K a' w')->Oper.wp P o a w K Q:=by intro j K hK;go_simp;revert K;exact j):g:=k (fF o ho hw (j h))
end
end Go.Sg
namespace Go.Proofs.YtgdhaaokolfdoaaGreatDoor
open Go.RowKit Go.Sg CP SF Tryz
def pn0 (n:Int)(w:w9):cP 276 #[iI n] w (Af false w):=by
 go_enter func276,ntmps276;go_wp2_with fail
 go_ret;exact⟨rfl,rfl⟩
def oB (x y:Int):Int:=if x<y then -1 else if y<x then 1 else 0
def oN0 (x y:Int)(w:w9):cP 249 #[iI x,iI y] w (AA (oB x y) w):=by
 have key:(decide (x<y)=true/\oB x y = -1)\/(decide (x<y)=false/\decide (y<x)=true/\oB x y=1)\/(decide (x<y)=false/\decide (y<x)=false/\oB x y=0):=by
  unfold oB;by_cases h1:x<y
  .left;rw[if_pos h1];exact⟨by simp;omega,rfl⟩
  .right;by_cases h2:y<x
   .left;rw[if_neg h1,if_pos h2];exact⟨by simp;omega,by simp;omega,rfl⟩
   .right;rw[if_neg h1,if_neg h2];exact⟨by simp;omega,by simp;omega,rfl⟩
 rcases key with⟨d1,e⟩|⟨d1,d2,e⟩|⟨d1,d2,e⟩
 all_goals
  rw[e];clear e;go_enter func249,ntmps249;go_wp2_with fail
  refine (pn0 x w).mono ?_;rintro e _ ⟨rfl,rfl⟩;go_wp2_with fail
  refine (pn0 y w).mono ?_;rintro e _ ⟨rfl,rfl⟩;go_wp2_with fail
  go_ret;exact⟨rfl,rfl⟩
def ym (x y:Int):Int:=if x=0 then y else x
variable {w:w9}{b bd bx most s sl:Nat}{v:Value}{sp:Int}
def Dk0 {c:Nat}{x y:Int}(hb:w.heap[b]?=some (.cells #[iI x,iI y] 3)):cP 248 #[sL b 2 c] w (AA (ym x y) w):=by
 obtain⟨c0,c1,cz,cl⟩:=cells2 hb;clear hb;by_cases h0:x=0
 .have hx:(x == 0)=true:=by simp[h0]
  have C6:(x != 0)=false:=by simp[h0]
  by_cases h1:y=0
  .have hy:(y == 0)=true:=by simp[h1]
   have hy':(y != 0)=false:=by simp[h1]
   have e:ym x y=0:=by unfold ym;rw[if_pos h0,h1]
   rw[e];clear h0 h1 e;go_enter func248,ntmps248;go_wp2_with fail
   refine wp_loop_rounds 3 ?_;rw[rounds_succ];go_wp2_with fail
   rw[rounds_succ];go_wp2_with fail
   rw[rounds_succ];go_wp2_with fail
   go_ret;exact⟨rfl,rfl⟩
  .have hy:(y == 0)=false:=by simp[h1]
   have hy':(y != 0)=true:=by simp[h1]
   have e:ym x y=y:=by unfold ym;rw[if_pos h0]
   rw[e];clear h0 h1 e;go_enter func248,ntmps248;go_wp2_with fail
   refine wp_loop_rounds 2 ?_;rw[rounds_succ];go_wp2_with fail
   rw[rounds_succ];go_wp2_with fail
   go_ret;exact⟨rfl,rfl⟩
 .have hx:(x == 0)=false:=by simp[h0]
  have C6:(x != 0)=true:=by simp[h0]
  have e:ym x y=x:=by unfold ym;rw[if_neg h0]
  rw[e];clear h0 e;go_enter func248,ntmps248;go_wp2_with fail
  refine wp_loop_rounds 1 ?_;rw[rounds_succ];go_wp2_with fail
  go_ret;exact⟨rfl,rfl⟩
def wU (x y:Bt):Bool:=decide (ym (oB x.rg y.rg) (oB x.at_ y.at_)<0)
def vP0 (x y:Bt)(w:w9):cP 198 #[E8 x,E8 y] w (bt (bO (wU x y)) w):=by
 obtain⟨w1,I0⟩:=eX ((w.alloc (.cells #[iU x.hash,iI x.rg,iI x.at_,iI x.sz] 118)).alloc (.cells #[iU y.hash,iI y.rg,iI y.at_,iI y.sz] 118))
 obtain⟨b0,b1,F1⟩:=n9 I0;have HB:=hid fun W (F:Fq w1 W)=>aI (D8 (F.heap b0 id)) (D8 (F.heap b1 id));have HF:=hid F1;have HW:=hid I0;have FG:Fq w1 w1.drew:=fR.drew;clear I0 b0 b1 F1;go_enter func198,ntmps198;go_upto_region 1 with fail
 rw[HW];refine wp_region_noPanic ?_;refine q8 (fun V=>Fq w1 V) (.rd 0 (.rd 1 (.rd 2 (.rd 3 (.rd 4 (.rd 5 (.rd 7 (.rd 8 (.rd 9 (.rd 10 (.rd 11 (.rd 12 (.op 6 (.op 13 (.op 14 (.op 15 (.rd 16 (.rd 17 .done)))))))))))))))))) kF kF kF (fun _ _ _ _ _ h=>h) FG ?_;iterate 12
  refine oP ?_ ?_ ?_;rotate_left
  .intro V hV;obtain⟨⟨t0,t1,t2,t3,tz,tl⟩,⟨u0,u1,u2,u3,uz,ul⟩⟩:=HB.o V hV;go_simp;try with_reducible rfl
 refine rQ fun K hK=>?_;refine (oN0 x.rg y.rg _).mono ?_;rintro _ _ ⟨rfl,rfl⟩;try go_simp
 refine hK _ _ FG ?_;clear hK K;refine rQ fun K hK=>?_;refine (oN0 x.at_ y.at_ _).mono ?_;rintro _ _ ⟨rfl,rfl⟩;try go_simp
 refine hK _ _ FG ?_;clear hK K;refine rQ fun K hK=>?_;have hb:=han w1.drew (.cells #[iI (oB x.rg y.rg),iI (oB x.at_ y.at_)] 3);have FG:=FG.alloc (.cells #[iI (oB x.rg y.rg),iI (oB x.at_ y.at_)] 3);refine hK _ _ FG ?_;clear hK K;refine rQ fun K hK=>?_;refine (Dk0 hb).mono ?_;rintro _ _ ⟨rfl,rfl⟩;try go_simp
 refine hK _ _ FG ?_;clear hK K;iterate 2
  try simp only[Act.put,sI,sZ,sS]
 iterate 2
  refine Te _ ?_ gF rF ?_ ?_;rotate_left
  .intro V hV;obtain⟨⟨t0,t1,t2,t3,tz,tl⟩,⟨u0,u1,u2,u3,uz,ul⟩⟩:=HB.o V hV;go_simp;try with_reducible rfl
  try simp only[Act.put,sI,sZ,sS]
 refine o5 ?_;refine NoPanic.normal ?_;go_wp2_with fail
 go_ret;exact⟨rfl,HF.trans FG nI⟩
def yy0 (a b c d e f:Int)(w:w9):(binOp .neq 116 (.agg #[iI a,iI b,iI c]) (.agg #[iI d,iI e,iI f])).run prog w = .ok (bO (!(decide (a=d) && (decide (b=e) && decide (c=f))))) w:=by
 have h:prog.underlying 116=_:=underlying116;go_simp;by_cases h1:a=d <;> by_cases h2:b=e <;> by_cases h3:c=f <;> simp[h1,h2,h3]
variable {x y:Bt}
def qd0 (h1:x.rg=y.rg)(h2:x.at_=y.at_):wU x y=false:=by
 unfold wU;rw[h1,h2];have e:∀ z,oB z z=0:=fun z=>by unfold oB;simp
 rw[e,e];decide
def LR (es:List Bt)(b k:Nat):Nat:=match es[b]?,es[k]? with
 | some y,some x=>if wU x y=true then k else b
 | _,_=>b
def vS (es:List Bt):Nat->Nat
 | 0=>0
 | k+1=>LR es (vS es k) (k+1)
def PW (es:List Bt):∀ k,vS es k<=k
 | 0=>nR _
 | k+1=>by
  have:=PW es k;show LR es (vS es k) (k+1)<=k+1;unfold LR;split
  .split
   .exact nR _
   .omega
  .omega
def jx (es:List Bt):Nat->Int
 | 0=>-1
 | k+1=>(vS es k:Int)
variable {es:List Bt}
def jf0 {k:Nat}(hk:0<k)(hx:es[k]?=some x)(hy:es[vS es (k-1)]?=some y):jx es (k+1)=if wU x y=true then (k:Int) else jx es k:=by
 obtain⟨j,rfl⟩:∃ j,k=j+1:=⟨k-1,oM⟩
 simp only[vJ] at hy;show (LR es (vS es j) (j+1):Int)=_;unfold LR;rw[hx,hy];simp only[jx];split <;> rfl
def Ac0 (es:List Bt)(w:w9)(e:Ending)(w':w9):Prop:=e = rT (iI (jx es es.length))/\Fq w w'
def rA0 (hE:Y3 w 0 v es)(hl:es.length<=255)(d p:Int) :
  cP 134 #[E9 d p v] w (Ac0 es w):=by
 obtain⟨va,vc,rfl,-,-,-,-⟩:=A2 hE;obtain⟨n,hn⟩:=eX es.length
 have pP:n<=255:=oM
 obtain⟨w1,I0⟩:=eX (w.alloc (.cells #[iI d,iI p,sL va n vc] 129))
 have b1:=fB I0
 have F1:=fA I0
 have HB:=hid fun W (F:Fq w1 W)=>cells3 (F.heap b1 id);have HE:=hid fun W (F:Fq w1 W)=>oN (oN hE F1) F;have E1:=hid F1;have HN:=hid hn;have HW:=hid I0;obtain⟨x0,x1,x2,xz,xl⟩:=HB.o _ fR;rw[hn];clear hE hl hn I0 b1 F1;go_enter func134,ntmps134;go_upto_region 2 with fail
 rw[HW];go_wp2_with fail
 clear x0 x1 x2 xz xl;go_loopw [3,9] (fun bv iv wr=>∃ k:Nat,k<=n/\iv = iI k/\bv = iI (jx es k)/\Fq w1 wr) fun _ iv _=>n-(intOf iv).toNat
 case atStart=>exact⟨0,C3 _,rfl,rfl,fR⟩
 case round =>
  obtain⟨k,hk,rfl,rfl,hF⟩:=hrel;by_cases hlt:k<n
  .have hd:decide (k<n)=true:=by simp[hlt]
   have cF:(k:Int)<(n:Int):=oM
   obtain⟨x,hx⟩:∃ x,es[k]?=some x:=⟨_,gE (by rw[HN.o];exact hlt)⟩
   obtain⟨g,rfl,hg,u0,u1,u2,u3⟩:=pj (HE _ hF) hx;obtain⟨W,hW⟩:=eX (wr.alloc (.cells #[iU x.hash,iI x.rg,iI x.at_,iI x.sz] 118))
   have bW:=fB hW
   have FW:=fA hW
   have fU:=hid (hF.trans FW nI);have nu:=hid fun V (F:Fq W V)=>D8 (F.heap bW id);have HX:=hid hx;have fw:=hid hW;clear hx hW bW FW hF;go_upto_region 5 with fail
   rw[fw];clear u0 u1 u2 u3;obtain⟨t0,t1,t2,t3,tz,tl⟩:=nu.o _ fR;by_cases iX:k=0
   .subst iX;have hb:jx es 0 = -1:=rfl;rw[hb];clear hb;go_quiet (fail)
    go_wp2_with fail
    go_roundw;case rel=>exact⟨1,hlt,by go_num,rfl,fU.drewN _⟩
    case measure=>exact wM
   .have M4:0<k:=oM;obtain⟨b,ku⟩:=eX (vS es (k-1))
    have dw:b<k:=(by rw[<- ku];have:=PW es (k-1);omega);have zJ:jx es k=(b:Int):=by
     obtain⟨j,rfl⟩:∃ j,k=j+1:=⟨k-1,oM⟩
     rw[<- ku];rfl
    obtain⟨y,hy⟩:∃ y,es[b]?=some y:=⟨_,gE (by rw[HN.o];omega)⟩
    have tS:=jf0 M4 HX (by rw[ku];exact hy);rw[zJ] at tS ⊢;have HSu:=hid tS;have hbn:(b:Int)<(n:Int):=oM;have d7:decide ((b:Int)<0)=false:=sP;have HC:=hid (fun V (F:Fq W V)=>show (V.cell? wr=some (iU x.hash)/\V.cell? (aA wr 1)=some (iI x.rg)/\V.cell? (aA wr 2)=some (iI x.at_)/\V.cell? (aA wr 3)=some (iI x.sz))/\(V.cell? (aA g (b*4))=some (iU y.hash)/\V.cell? (aA g (b*4+1))=some (iI y.rg)/\V.cell? (aA g (b*4+2))=some (iI y.at_)/\V.cell? (aA g (b*4+3))=some (iI y.sz))/\V.cell? (aA w 2)=some (sL g n vc) by
     obtain⟨t0,t1,t2,t3,tz,tl⟩:=nu.o V F;obtain⟨g',e',I1,u0,u1,u2,u3⟩:=pj (HE V (fU.trans F nI)) hy;cases e';exact⟨⟨t0,t1,t2,t3⟩,⟨u0,u1,u2,u3⟩,(HB V (fU.trans F nI)).2.2.1⟩)
    obtain⟨-,⟨u0,u1,u2,u3⟩,z2⟩:=HC.o _ fR;have hgW:=World.block_lt_of_cell? _ _ u0;clear ku zJ tS hy;by_cases dN:x.rg=y.rg/\x.at_=y.at_/\x.sz=y.sz
    .have Kt:∀ W,(binOp .neq 116 (.agg #[iI x.rg,iI x.at_,iI x.sz]) (.agg #[iI y.rg,iI y.at_,iI y.sz])).run prog W = .ok (bO false) W:=fun W=>by rw[yy0];simp[dN.1,dN.2.1,dN.2.2]
     have he:=qd0 dN.1 dN.2.1;have HS:=hid (show jx es (k+1)=(b:Int) by rw[HSu,he];rfl);clear dN he;go_quiet (fail)
     go_wp2_with fail
     go_roundw;case rel=>exact⟨k+1,hlt,by go_num,by rw[HS],fU.drewN _⟩
     case measure=>exact wM
    .have Kt:∀ W,(binOp .neq 116 (.agg #[iI x.rg,iI x.at_,iI x.sz]) (.agg #[iI y.rg,iI y.at_,iI y.sz])).run prog W = .ok (bO true) W:=fun W=>by
      rw[yy0];congr 2
      simp only[Qp,Bool.and_eq_false_iff,decide_eq_false_iff_not];by_cases h1:x.rg=y.rg
      .by_cases h2:x.at_=y.at_
       .exact .inr (.inr fun h3=>dN ⟨h1,h2,h3⟩)
       .exact .inr (.inl h2)
      .exact .inl h1
     obtain⟨eb,gm⟩:=eX (wU x y)
     have HS:=hid (show jx es (k+1)=if eb=true then (k:Int) else (b:Int) by rw[HSu,gm]);have uF:=hid (fun V=>show cP 198 #[E8 x,E8 y] V (bt (bO eb) V) by rw[<- gm];exact vP0 x y V);have FG:Fq W W.drew:=fR.drew;clear dN gm;go_region_held3 (fun V=>(V.cell? wr=some (iU x.hash)/\V.cell? (aA wr 1)=some (iI x.rg)/\V.cell? (aA wr 2)=some (iI x.at_)/\V.cell? (aA wr 3)=some (iI x.sz))/\(V.cell? (aA g (b*4))=some (iU y.hash)/\V.cell? (aA g (b*4+1))=some (iI y.rg)/\V.cell? (aA g (b*4+2))=some (iI y.at_)/\V.cell? (aA g (b*4+3))=some (iI y.sz))/\V.cell? (aA w 2)=some (sL g n vc)) (go_keep) (first
      | (go_at_call 198;refine (uF _).mono ?_;rintro _ V1 ⟨rfl,G1⟩;have FG:=FG.trans G1 nI;obtain⟨⟨t0,t1,t2,t3⟩,⟨u0,u1,u2,u3⟩,z2⟩:=HC.o _ FG;clear G1))
     cases eb;all_goals
      go_wp2_with fail
      go_roundw;case rel=>exact⟨k+1,hlt,by go_num,by rw[HS];rfl,fU.trans FG nI⟩
      case measure=>exact wM
  .obtain rfl:k=n:=by omega
   have hd:decide (k<k)=false:=by simp
   have HFk:=hid hF;clear hF;go_wp2_with fail
   go_ret;exact⟨by rw[HN];rfl,E1.trans HFk nI⟩
def dG (w:w9)(bx s bd sl most:Nat)(sp:Int):Prop:=w.heap[bx]?=some (.cells #[pO s,pO bd,iI sl,iI most,iI sp] 227)
def cells5 {x0 x1 x2 x3 x4:Value}{t:TypeId}(h:w.heap[b]?=some (.cells #[x0,x1,x2,x3,x4] t)) :
  w.cell? b=some x0/\w.cell? (aA b 1)=some x1/\w.cell? (aA b 2)=some x2/\w.cell? (aA b 3)=some x3/\w.cell? (aA b 4)=some x4/\(∀ o,w.frozen? ⟨b,o,none⟩=false)/\b<w:=
 ⟨by simpa using G0 h 0,by simpa using G0 h 1,by simpa using G0 h 2,by simpa using G0 h 3,by simpa using G0 h 4,fun o=>X2 h o,M0 h⟩
abbrev O7 (bx:Nat):Value:=pO bx
def mI0 {x:P1}(h:dG w bx s bd sl most sp)(hD:N2 w bd s x):cP 67 #[O7 bx] w (AA x.depth w):=by
 obtain⟨c0,c1,c2,c3,c4,cz,cl⟩:=cells5 h;have HD:=hid (In hD);clear h hD;go_enter func67,ntmps67;go_wp2_with fail
 refine HD.mono ?_;rintro e _ ⟨rfl,rfl⟩;go_wp2_with fail
 go_ret;exact⟨rfl,rfl⟩
def rX0 (h:dG w bx s bd sl most sp):cP 68 #[O7 bx] w (AA sp w):=by
 obtain⟨c0,c1,c2,c3,c4,cz,cl⟩:=cells5 h;clear h;go_enter func68,ntmps68;go_wp2_with fail
 go_ret;exact⟨rfl,rfl⟩
def cy (es:List Bt)(h sl:Nat):Bool:=hasB es h || decide (es.length<sl)
def Ip (hI:dG w bx s bd sl most sp)(hE:Y3 w 0 v es)(hs:m9 es)(hl:es.length<=255)(d p:Int)(h:Nat) :
  cP 131 #[O7 bx,E9 d p v,iU h] w (bt (bO (cy es h sl)) w):=by
 obtain⟨va,vc,rfl,-,-,-,-⟩:=A2 hE;obtain⟨n,hn⟩:=eX es.length
 obtain⟨w1,I0⟩:=eX (w.alloc (.cells #[iI d,iI p,sL va n vc] 129))
 have b1:=fB I0
 have F1:=fA I0
 have HB:=hid fun W (F:Fq w1 W)=>aI (cells3 (F.heap b1 id)) (cells5 (F.heap (F1.heap hI id) id));have HF:=hid (find_ok (oN hE F1) hs hl d p h);have E1:=hid F1;have HN:=hid hn;have HW:=hid I0;obtain⟨⟨x0,x1,x2,xz,xl⟩,-⟩:=HB.o _ fR;rw[hn] at HF ⊢;clear hI hE hs hl hn I0 b1 F1;obtain⟨lv,lH⟩:∃ e:Option Bt,qI es h=e:=⟨_,rfl⟩
 obtain⟨hb,hhb⟩:=eX (hasB es h)
 have HR:=hid (show cy es h sl=(hb || decide (n<sl)) by unfold cy;rw[hhb,HN]);have ZN:=hid (show cP 138 #[E9 d p (sL va n vc),iU h] w1 (fun e w'=>e = rT (tU #[vQ lv,bO hb])/\Fq w1 w') from HF.mono fun e w' hp=>⟨by rw[<- lH,<- hhb];exact hp.1,hp.2⟩);clear lH hhb HF;obtain⟨r0,r1,r2,hr⟩:∃ r0 r1 r2:Int,vQ lv = .agg #[iI r0,iI r1,iI r2]:=by
  cases lv with
  | none=>exact⟨0,0,0,rfl⟩
  | some e=>exact⟨_,_,_,rfl⟩
 rw[hr] at ZN;clear hr;obtain⟨bl,J6⟩:∃ b,decide (n<sl)=b:=⟨_,rfl⟩
 rw[J6] at HR;go_enter func131,ntmps131;go_upto_region 1 with fail
 rw[HW];go_wp2_with fail
 refine ZN.mono ?_;rintro e w2 ⟨rfl,F2⟩;have Y0:=hid F2;clear F2 x0 x1 x2 xz xl;obtain⟨⟨x0,x1,x2,xz,xl⟩,⟨y0,y1,y2,y3,y4,yz,yl⟩⟩:=HB.o _ Y0.o;go_upto_region 2 with fail
 cases hb;all_goals
  go_quiet (fail)
  go_wp2_with fail
  go_ret;refine⟨by rw[HR];first|rfl|simp,?_⟩;exact (E1.trans Y0 nI).trans (((Fr.refl (fun _=>False) _).alloc _).drewN _) nI
