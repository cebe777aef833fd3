/- A pack of texts. Conditions: those that each names. -/
import Derived.Test.YtgdhaaokolfdoaaGreatDoorNAD
set_option maxHeartbeats 16000000
set_option maxRecDepth 100000
set_option linter.all false
namespace Go.Proofs.YtgdhaaokolfdoaaGreatDoor
open Go.RowKit Go.Sg Go.Shelf Tryz
attribute [local go_sem] Oper.semAt_some
def vk0 (a:Option Addr)(n c:Nat)(w:w9) :
  cP 290 #[sL a n c] w fun e w'=>e = rT (.func (.func 291) #[] #[pO w])/\w.alloc (.cells #[sL a n c] 203)=w':=by
 go_enter func290,ntmps290;go_wp2
 go_ret;exact⟨rfl,rfl⟩
abbrev Byte:={ x:Int // 0<=x/\x<256 }
abbrev Zj (x:Byte):Array Value:=#[.int .u8 x.1]
def Tc (a:Option Addr)(W W':w9):Prop:=∀ b off,a=some ⟨b,off,none⟩->W'.heap[b]?=W.heap[b]?
variable {w:w9}{c g n s:Nat}{a:Option Addr}{bs:List Byte}
def qx0 {bx:Nat}(hx:w.heap[bx]?=some (.cells #[sL g 1 1] 203))(hg:w.heap[g]?=some (.cells #[sL a n c] 22))(hb:jm w a n (bs.map (·.1)))(hn:n<=65536) :
  SeqStopsK Fence.wide 9 prog 291 #[pO bx] Zj (Tc a) (fun xs=>xs=bs) (fun pre=>pre <+: bs) bs.length w:=fun l J Jx W hW hJ _ hY h0=>by
 have cx:=G0 ((hW.block bx (M0 hx)).trans hx) 0;have cg:=G0 ((hW.block g (M0 hg)).trans hg) 0;simp at cx cg;have hlen:bs.length=n:=by have:=hb.len;simpa using this
 have B6:∀ (i:Nat) (x:Byte),bs[i]?=some x->∃ b off,a=some ⟨b,off,none⟩/\W.cell? (aA b (off+i))=some (.int .u8 x.1):=fun i x hi=>by
  obtain⟨b,off,e,hlt,hc⟩:=hb.at_ i x.1 (by rw[gP,hi];rfl);exact⟨b,off,e,(hW.cell (p:=⟨b,off+i,none⟩) hlt).trans hc⟩
 have oK:=hid B6;have eK:=hid hlen;clear hx hg hb hW B6 hlen;refine callsIn_of_wp func291 rfl trivial ?_ rfl;simp only[ntmps291,zA,lC,cJ,Nat.reduceAdd,Nat.reduceSub,dV,dW,dZ,dX,C7,ak];gi_wp2
 gi_loopw [9] (fun i wr=>(i = iI 0/\J [] wr/\wr=W)\/(i = iI 1/\J bs wr)) fun i _=>(1-intOf i).toNat
 case atStart=>exact .inl ⟨rfl,h0,rfl⟩
 case round =>
  rcases hrel with⟨rfl,gY,rfl⟩|⟨rfl,gY⟩
  .gi_wp2
   obtain⟨wo,rfl⟩:∃ wo:World,wo=wr:=⟨_,rfl⟩
   gi_loopw [15] (fun i wr=>∃ k:Nat,k<=n/\i = iI k/\J (bs.take k) wr/\Tc a wo wr) fun i _=>n-(intOf i).toNat
   case atStart=>exact⟨0,C3 _,rfl,gY,fun _ _ _=>rfl⟩
   case round =>
    obtain⟨k,hk,rfl,xd,M4⟩:=hrel;by_cases hlt:k<n
    .obtain⟨x,hx⟩:∃ x,bs[k]?=some x:=⟨bs[k]'(by rw[eK.o];exact hlt),gE _⟩
     obtain⟨b,off,rfl,hc⟩:=oK.o k x hx;have cb:=(World.cell?_of_block (a:=⟨b,off+k,none⟩) (M4 b off rfl)).trans hc;have hs:bs.take (k+1)=bs.take k++[x]:=(by rw[ea,hx];rfl);have lG:(bs.take k).length=k:=(by rw[lT];have:=eK.o;omega);have HS:=hid hs;have HK:=hid M4;have Fl:decide (k<n)=true:=(by simpa using hlt);have Vm:decide ((k:Int)<(n:Int))=true:=(by simpa using hlt);clear hs M4 hx hc;obtain⟨fn,tmps,assign,body,hy,hR⟩:=hY _ x wr xd (by rw[lG,eK.o];exact hlt);dsimp only[Zj] at hy;clear lG;gi_wp2
     refine hR.mono ?_;rintro e W3 (⟨rfl,o6,Q2⟩|⟨rfl,N3⟩)
     .have rJ:=hid o6;have lY:=hid Q2;clear o6 Q2;gi_wp2
      go_roundw;case rel=>exact⟨k+1,oM,by go_num,by rw[HS];exact rJ.o,fun b' off' e=>(lY b' off' e).trans (HK b' off' e)⟩
      case measure=>exact wM
     .have fV:=hid N3;clear N3;gi_wp2
      refine bodyPost_ret (results_none rfl _ _ _) rfl ?_;exact⟨⟨_,rfl⟩,.inr ⟨_,⟨bs.drop (k+1),by rw[<- HS];exact Mb _ _⟩,fV.o⟩⟩
    .obtain rfl:k=n:=by omega
     have e:bs.take k=bs:=tL (by rw[eK];exact nR _);rw[e] at xd;gi_wp2
     go_roundw;case rel=>exact .inr ⟨rfl,xd⟩
     case measure=>simp[intOf]
  .gi_wp2
   go_end0
   exact⟨⟨_,rfl⟩,.inl ⟨_,rfl,gY⟩⟩
def ka0 {b:Nat}{t:TypeId}(vs:List Value):∀ (o:Nat) (w:w9) (c:Array Value),w.heap[b]?=some (.cells c t)->∃ c',(w.setCells b o vs).heap[b]?=some (.cells c' t):=by
 induction vs with
 | nil=>intro o w c h;exact⟨c,h⟩
 | cons v vs ih=>intro o w c h;exact ih (o+1) _ _ (hsc _ _ _ _ h)
def fT0 {F:Fence}{P:Program}{ops:Array Oper}{rest:List Oper}{op:Oper}{a:Act}{Q:Exit->Act->World->Prop}(lF:op.guard=none)(ty:TypeId)(x y:Operand)(ho:op.op = .store ty x y)
  (b o:Nat) (cells:Array Value) (hx:a.eval x = pO (aP b o)) (hy:a.eval y = .agg cells)
  (ht:w.there b o cells.size) (hi:(P.info? ty).map (·.size)=some cells.size) (h1:cells.all (·.oneCell')=true)
  (h:wpListIn F n P ops Q rest (a.put op.dst undef) (w.setCells b o cells.toList)):wpListIn F n P ops Q (op :: rest) a w:=by
 refine wpListIn_plain lF fun K hK=>?_
 unfold Oper.wpIn;refine⟨?_,?_⟩
 .simp[Oper.about,ho]
 .rw[Oper.semAt_plain F _ _ (by rw[ho];intro c hc;cases hc)];unfold execOp;simp only[ho,hx,hy,Instr.storeAt,Instr.sureAddr,Sem.run_bind,Sem.run_pure,Result.andThen_ok,run_storeVar_mid w b o ty cells ht hi h1];exact hK _ _ h
def qP (s:Nat)(bs:List Int):Nat:=bs.foldl LS s
def nh0 (s:Nat)(l:List Int)(x:Int):qP s (l++[x])=LS (qP s l) x:=by simp[qP]
def ql0 (hn:n<4294967296){x:Int}(h0:0<=x)(h1:x<256):LS n x<4294967296:=by
 unfold LS;refine DP (n:=32) oM (lM0 ?_);exact DP (n:=8) oM oM
def WH (bs:List Byte)(hs:s<4294967296):qP s (bs.map (·.1))<4294967296:=by
 induction bs generalizing s with
 | nil=>exact hs
 | cons x l ih=>exact ih (ql0 hs x.2.1 x.2.2)
def zg0 (hs:s<4294967296)(hg:w.heap[g]?=some (.cells #[sL a n c] 22))(hb:jm w a n (bs.map (·.1)))(mI:∀ b off,a=some ⟨b,off,none⟩->b<w.heap.size)(hn:n<=65536) :
  cP 288 #[.int .u32 s,sL g 1 1] w fun e w'=>e = rT (.int .u32 ((4294967295 ^^^ qP (4294967295 ^^^ s) (bs.map (·.1)):Nat):Int))/\Fq w w':=by
 refine (callsIn_wide (n:=10)).1 ?_;have HG:=hid hg;have HB:=hid hb;clear hg hb;obtain⟨tab,dh⟩:∃ tab:Array Value,(aO 256).toArray=tab:=⟨_,rfl⟩
 have hT:=xq0 w;rw[dh] at hT;have hsz:(prog.info? 396).map (·.size)=some tab.size:=by rw[<- dh,zA,yV];kernel_rfl
 have wW:tab.all (·.oneCell')=true:=by rw[<- dh];simp[aO,Value.oneCell']
 have xL:tab.size=256:=by rw[<- dh,zA,yV]
 have Lm:∀ i,i<256->tab[i]?=some (.int .u32 (nG i:Nat)):=fun i hi=>by rw[<- dh];simp[aO,hi]
 obtain⟨zs,dA⟩:∃ zs:Array Value,Tryz.zeroCells396=zs:=⟨_,rfl⟩
 have xR:zs.size=256:=by rw[<- dA,mN0,zA,yV]
 have HT:=hid hT;have Hj:=hid Lm;have Hk:=hid xL;have HZS:=hid dA;clear dh hT Lm xL dA;refine callsIn_of_wp_marks func288 rfl trivial ?_ rfl;simp only[ntmps288,zA,lC,cJ,Nat.reduceAdd,Nat.reduceSub,dV,dW,dZ,dX,C7,ak];gi_wp2_with (fail)
 refine (callsIn_wide.2 HT.o).mono ?_;rintro e w1 ⟨rfl,F1⟩;obtain⟨w2,A9⟩:=eX (w1.alloc (.cells zs 396))
 have h2:=fB A9
 have F2:=fA A9
 have ht:w2.there w1.heap.size 0 tab.size:=by
  intro j hj;refine⟨?_,X2 h2 _⟩;rw[G0 h2];rw[Hk] at hj;simp;omega
 have Bm:=hid ht;have fw:=hid A9;have H2:=hi2 h2 F2;clear ht A9 h2 F2;dsimp only;iterate 8 (first|(rw[HZS,fw])|(refine fT0 rF 396 (.tmp 5) (.tmp 8) rF w1.heap.size 0 tab rF rF Bm hsz wW ?_)|gi_step|gi_upon|skip)
 obtain⟨w3,K7⟩:=eX (w2.setCells w1.heap.size 0 tab.toList)
 rw[K7];have ht3:∃ c3,w3.heap[w1.heap.size]?=some (.cells c3 396)/\∀ i,i<256->c3[i]?=some (.int .u32 (nG i:Nat)):=by
  obtain⟨c3,h3⟩:=ka0 (b:=w1.heap.size) tab.toList 0 w2 _ H2.1;rw[K7] at h3;refine⟨c3,h3,fun i hi=>?_⟩;have hr:=World.rangeAt_setCells_same w2 w1.heap.size 0 tab.toList (by simpa using Bm.o);rw[K7] at hr;have:=hr i (.int .u32 (nG i:Nat)) (by simpa using Hj.o i hi);rw[G0 h3,o8] at this;exact this
 obtain⟨c3,h3,ia⟩:=ht3;have F3:Fq w w3:=by
  rw[<- K7];exact Fr.setCells F1.size _ _ _ (F1.trans H2.2 nI)
 have AO:=hid ia;have H3:=hi2 h3 F3;have l3:=M0 h3;clear K7 h3 F3 ia H2 Bm fw HZS Hj Hk hsz wW HT;have eF:bits BinOp.xor IntKind.u32 IntKind.u32.max (s:Int)=((4294967295 ^^^ s:Nat):Int):=by
  rw[show IntKind.u32.max=((4294967295:Nat):Int) from rfl,u32_xor_nat _ _ dC hs]
 obtain⟨s0,eD⟩:=eX (4294967295 ^^^ s)
 have Lc:s0<4294967296:=by rw[<- eD];exact DP (n:=32) dC hs
 rw[eD] at eF;have HX0:=hid eF;have yL:=hid eD;clear eF eD;gi_wp2_with (fail)
 rw[HX0];refine (callsIn_wide.2 (vk0 _ _ _ _)).mono ?_;rintro e w' ⟨rfl,rfl⟩;gi_wp2_with (fail)
 obtain⟨W0,B4⟩:=eX ((w3.alloc (.cells #[.int .u32 s0] 373)).alloc (.cells #[sL g 1 1] 203))
 have bu:Fq w3 W0:=by rw[<- B4];exact ((Fr.refl _ w3).alloc _).alloc _
 have hsz:W0.heap.size=w3.heap.size+1+1:=by rw[<- B4];simp
 have ay:W0.heap[w3.heap.size]?=some (.cells #[.int .u32 s0] 373):=by rw[<- B4];exact (fE _ _ _ sP).trans (han _ _)
 have U3:W0.heap[w3.heap.size+1]?=some (.cells #[sL g 1 1] 203):=by rw[<- B4];have:=han (w3.alloc (.cells #[.int .u32 s0] 373)) (.cells #[sL g 1 1] 203);simpa using this
 have lg:=H3.2.trans bu nI;have sH:=bu.heap H3.1 id;have vm:=lg.heap HG id;have d7:=HB.fr lg fun _ _ _ _ h=>h;have Wi:=H3.2.size;have ha:=d7.len;have J6:bs.length=n:=by simpa using ha
 simp only[World.size_alloc,B4];refine wpIn_rangeFunc_ownG (F:=Fence.wide) rfl oM (gf:=291) (lb:=#[pO (aP (w3+1) 0)]) rfl trivial (enters_of func291 kF rfl)
  (qx0 U3 vm d7 hn) (fun h k b off e=>(k b off e).trans (h b off e)) (fun W l o o' hl _ _ _ b off e=>aC _ _ _ _ (by have:=mI b off e;omega)) (Below.refl _ _) (fun _=>rfl)
  (fun pre W=>(W.heap[w3.heap.size]?=some (.cells #[.int .u32 ((qP s0 (pre.map (·.1)):Nat):Int)] 373)/\W.heap[w1.heap.size]?=some (.cells c3 396))/\Fq w W)
  (fun _ _ _=>False)
  (U6 (U6 (gU _ _ _ fun _=>.inl rfl) (gU _ _ _ fun _=>.inl rfl)) (oY oM))
  (fun _ _ _ _ _ h=>h.elim)
  ⟨⟨ay,sH⟩,lg⟩
  (fun x=>{ tmps:=#[.int .u32 s,sL g 1 1,undef,undef,.int .u32 0,pO w1,pO w3,.int .u8 x.1,.agg tab,.int .u32 s,.int .u32 s0,sL g 1 1,.func (.func 291) #[] #[pO (aP (w3+1) 0)],.int .u8 x.1,undef,undef,undef,undef,undef,undef,undef,undef,undef,undef,undef],defers:=[] }) ?assign ?body ?done ?stop
 case assign =>
  intro l x W K hK;gi_wp2
  exact hK
 case body =>
  rintro l pre x W ⟨⟨h1,h2⟩,hF⟩ hlen;have Ph:=WH pre Lc;have hmx:prog.follows .mixedOrders=true:=by kernel_rfl
  generalize sK:qP s0 (pre.map (·.1))=acc at h1 Ph;have k0:=G0 h1 0;have kz:=X2 h1 0;simp at k0;have CV:((acc % 256) ^^^ x.1.toNat)<256:=DP (n:=8) oM (by have:=x.2;omega);have kt:=(G0 h2 ((acc % 256) ^^^ x.1.toNat)).trans (AO _ CV);obtain⟨ix,Fi⟩:∃ ix:Nat,(acc % 256) ^^^ x.1.toNat=ix:=⟨_,rfl⟩
  rw[Fi] at kt CV;have hxr:bits BinOp.xor IntKind.u8 ((acc:Int) % 256) x.1=(ix:Int):=by
   obtain⟨y,hy⟩:=iZ x.2.1;have:=x.2.2;rw[hy] at this Fi ⊢;rw[show ((acc:Int) % 256)=((acc % 256:Nat):Int) by simp,u8_xor_nat _ _ oM oM];simp at Fi;rw[Fi]
  have hxr2:bits BinOp.xor IntKind.u8 (IntKind.u8.wrap (acc:Int)) x.1=(ix:Int):=by
   rw[IntKind.wrap_u8'];exact hxr
  have HIX:=hid Fi;clear Fi;have HA:=hid sK;have Q9:=hi2 h1 (aI h2 hF);clear sK h1 h2 hF;gi_wp2
  have fin:KeepsFrom W0.heap.size W (W.setCell w3 (.int .u32 (bits BinOp.xor IntKind.u32 ((acc:Int)/256) ((nG ix:Nat):Int)))).drew /\
    Tc a W (W.setCell w3 (.int .u32 (bits BinOp.xor IntKind.u32 ((acc:Int)/256) ((nG ix:Nat):Int)))).drew /\
    (((W.setCell w3 (.int .u32 (bits BinOp.xor IntKind.u32 ((acc:Int)/256) ((nG ix:Nat):Int)))).drew.heap[w3.heap.size]?=some (.cells #[.int .u32 ((qP s0 ((pre++[x]).map (·.1)):Nat):Int)] 373) /\
     (W.setCell w3 (.int .u32 (bits BinOp.xor IntKind.u32 ((acc:Int)/256) ((nG ix:Nat):Int)))).drew.heap[w1.heap.size]?=some (.cells c3 396)) /\
     Fq w (W.setCell w3 (.int .u32 (bits BinOp.xor IntKind.u32 ((acc:Int)/256) ((nG ix:Nat):Int)))).drew):=by
   obtain⟨h1,h2,hF⟩:=Q9.o;have hnw:bits BinOp.xor IntKind.u32 ((acc:Int)/256) ((nG ix:Nat):Int)=((qP s0 ((pre++[x]).map (·.1)):Nat):Int):=by
    rw[show (acc:Int)/256=((acc/256:Nat):Int) by simp,u32_xor_nat _ _ oM (lM0 CV)];rw[B9,show List.map (fun y:Byte=>y.1) [x]=[x.1] from rfl,nh0,HA.o,<- HIX.o];rfl
   rw[hnw];refine⟨((KeepsOthers.setCell _ _ _).trans (KeepsOthers.drew _)).from _,fun b off e=>fY _ _ _ _ (by have:=mI b off e;simp;omega),⟨?_,(fY _ _ _ _ sO).trans h2⟩,(hF.U2 oM _).drew⟩;rw[show (W.setCell w3 (.int .u32 ((qP s0 ((pre++[x]).map (·.1)):Nat):Int))).drew.heap=(W.setCell w3 (.int .u32 ((qP s0 ((pre++[x]).map (·.1)):Nat):Int))).heap from rfl,hsc _ _ _ _ h1];rfl
  gi_region_with_o (fail)
  all_goals exact fin
 case done =>
  rintro D ys W hD rfl ⟨⟨h1,h2⟩,hF⟩ hK;have Ph:=WH ys Lc;generalize sK:qP s0 (ys.map (·.1))=acc at h1 Ph;have k0:=G0 h1 0;simp at k0;have hx1:bits BinOp.xor IntKind.u32 IntKind.u32.max (acc:Int)=((4294967295 ^^^ acc:Nat):Int):=by
   rw[show IntKind.u32.max=((4294967295:Nat):Int) from rfl,u32_xor_nat _ _ dC Ph]
  have HA:=hi2 sK hx1;have HF:=hid hF;clear sK hx1 h1 h2 hF;gi_wp2
  rw[HA.2];refine wR (t:=4) rfl hK ⟨by rw[yL,HA.1];rfl,HF.putObj (fun hh=>oM) _⟩
 case stop=>exact fun _ _ _ _ _ _ h=>h.elim
def lS0 {bs:List Int}(h:∀ x ∈ bs,0<=x/\x<256):∃ l:List Byte,l.map (·.1)=bs:=by
 induction bs with
 | nil=>exact⟨[],rfl⟩
 | cons x r ih =>
  obtain⟨l,hl⟩:=ih fun y hy=>h y (by simp[hy])
  exact⟨⟨x,h x sP⟩ :: l,by simp[hl]⟩
def BG0 {bs:List Int}(hb:T0 w a n c bs)(O2:∀ x ∈ bs,0<=x/\x<256)(hn:n<=65536) :
  cP 267 #[sL a n c] w fun e w'=>e = rT (.int .u32 ((yr bs:Nat):Int))/\Fq w w':=by
 obtain⟨l,rfl⟩:=lS0 O2
 obtain⟨w1,I0⟩:=eX (w.alloc (.cells #[sL a n c] 22))
 have F1:=fA I0
 have b1:=fB I0
 have mI:∀ b off,a=some ⟨b,off,none⟩->b<w1.heap.size:=fun b off e=>by
  have hs:=F1.size;rcases hb.at_ with⟨h0,_⟩|⟨b',off',cs,h1,h2⟩
  .rw[h0] at e;cases e
  .rw[h1] at e;cases e;have:=M0 h2;omega
 have HM:=hid (zg0 (s:=0) dC b1 (hb.Y6.fr F1 fun _ _ _ _ h=>h) mI hn);have HW:=hid I0;have E1:=hid F1;clear I0 F1 b1 hb O2 mI;have HA:cP 285 #[.int .u32 0,sL a n c] w fun e w'=>e = rT (.int .u32 ((yr (l.map (·.1)):Nat):Int))/\Fq w w':=by
  go_enter func285,ntmps285;go_wp2_with fail
  rw[HW];refine HM.mono ?_;rintro e w2 ⟨rfl,F2⟩;have Y0:=hid F2;clear F2;go_wp2
  go_ret;refine⟨?_,E1.trans Y0 nI⟩;rw[yr,Nat.xor_comm];rfl
 have HA:=hid HA;clear HM HW E1;go_enter func267,ntmps267;go_wp2_with fail
 refine HA.mono ?_;rintro e w2 ⟨rfl,F2⟩;have Y0:=hid F2;clear F2;go_wp2
 go_ret;exact⟨rfl,Y0.o⟩
