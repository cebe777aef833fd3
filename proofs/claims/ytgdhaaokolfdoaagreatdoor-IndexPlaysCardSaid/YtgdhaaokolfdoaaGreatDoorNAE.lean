/- A pack of texts. Conditions: those that each names. -/
import Derived.Test.YtgdhaaokolfdoaaGreatDoorNAD
set_option maxHeartbeats 16000000
set_option maxRecDepth 100000
set_option linter.all false
namespace Go.Proofs.YtgdhaaokolfdoaaGreatDoor
open Go.RowKit Go.Sg Go.Shelf
attribute [local go_sem] Oper.semAt_some
theorem tg0 (a:Option Addr)(n c:Nat)(w:World) :
  Calls Tryz.prog 290 #[.slice a n c] w fun e w'=>e = .returned (.func (.func 291) #[] #[.pointer (some ⟨w.heap.size,0,none⟩)])/\w.alloc (.cells #[.slice a n c] 203)=w':=by
 go_enter Tryz.func290,Tryz.ntmps290;go_wp2
 go_ret;exact⟨rfl,rfl⟩
abbrev Byte:={ x:Int // 0<=x/\x<256 }
abbrev AE0 (x:Byte):Array Value:=#[.int .u8 x.1]
def KpY (a:Option Addr)(W W':World):Prop:=∀ b off,a=some ⟨b,off,none⟩->W'.heap[b]?=W.heap[b]?
variable {w:World}{c g n s:Nat}{a:Option Addr}{bs:List Byte}
theorem oR0 {bx:Nat}(hx:w.heap[bx]?=some (.cells #[.slice (some ⟨g,0,none⟩) 1 1] 203))(hg:w.heap[g]?=some (.cells #[.slice a n c] 22))(hb:lI0 w a n (bs.map (·.1)))(hn:n<=65536) :
  SeqStopsK Fence.wide 9 Tryz.prog 291 #[.pointer (some ⟨bx,0,none⟩)] AE0 (KpY a) (fun xs=>xs=bs) (fun pre=>pre <+: bs) bs.length w:=fun l J Jx W hW hJ _ hY h0=>by
 have cx:=coh ((hW.block bx (loh hx)).trans hx) 0;have cg:=coh ((hW.block g (loh hg)).trans hg) 0;simp at cx cg;have hlen:bs.length=n:=by have:=hb.len;simpa using this
 have hcl:∀ (i:Nat) (x:Byte),bs[i]?=some x->∃ b off,a=some ⟨b,off,none⟩/\W.cell? ⟨b,off+i,none⟩=some (.int .u8 x.1):=fun i x hi=>by
  obtain⟨b,off,e,hlt,hc⟩:=hb.at_ i x.1 (by rw[gP,hi];rfl);exact⟨b,off,e,(hW.cell (p:=⟨b,off+i,none⟩) hlt).trans hc⟩
 have HCL:=hid hcl;have HLEN:=hid hlen;clear hx hg hb hW hcl hlen;refine callsIn_of_wp Tryz.func291 rfl trivial ?_ rfl;simp only[Tryz.ntmps291,zA,lC,lz9,Nat.reduceAdd,Nat.reduceSub,lq9,lr9,ly9,ls9,le9,lo9];gi_wp2
 gi_loopw [9] (fun i wr=>(i = .int .i64 0/\J [] wr/\wr=W)\/(i = .int .i64 1/\J bs wr)) (fun i _=>(1-intOf i).toNat)
 case atStart=>exact .inl ⟨rfl,h0,rfl⟩
 case round =>
  rcases hrel with⟨rfl,hJs,rfl⟩|⟨rfl,hJs⟩
  ·gi_wp2
   obtain⟨wo,rfl⟩:∃ wo:World,wo=wr:=⟨_,rfl⟩
   gi_loopw [15] (fun i wr=>∃ k:Nat,k<=n/\i = .int .i64 k/\J (bs.take k) wr/\KpY a wo wr) (fun i _=>n-(intOf i).toNat)
   case atStart=>exact⟨0,la9 _,rfl,hJs,fun _ _ _=>rfl⟩
   case round =>
    obtain⟨k,hk,rfl,hJ2,hkp⟩:=hrel;by_cases hlt:k<n
    ·obtain⟨x,hx⟩:∃ x,bs[k]?=some x:=⟨bs[k]'(by rw[HLEN.out];exact hlt),gE _⟩
     obtain⟨b,off,rfl,hc⟩:=HCL.out k x hx;have cb:=(World.cell?_of_block (a:=⟨b,off+k,none⟩) (hkp b off rfl)).trans hc;have hs:bs.take (k+1)=bs.take k++[x]:=(by rw[lw9,hx];rfl);have hkl:(bs.take k).length=k:=(by rw[lT];have:=HLEN.out;omega);have HS:=hid hs;have HK:=hid hkp;have hkd:decide (k<n)=true:=(by simpa using hlt);have hkd2:decide ((k:Int)<(n:Int))=true:=(by simpa using hlt);clear hs hkp hx hc;obtain⟨fn,tmps,assign,body,hy,hR⟩:=hY _ x wr hJ2 (by rw[hkl,HLEN.out];exact hlt);dsimp only[AE0] at hy;clear hkl;gi_wp2
     refine hR.mono ?_;rintro e W3 (⟨rfl,hJ3,hk3⟩|⟨rfl,hJx3⟩)
     ·have HJ3:=hid hJ3;have HK3:=hid hk3;clear hJ3 hk3;gi_wp2
      go_roundw;case rel=>exact⟨k+1,oM,by go_num,by rw[HS.out];exact HJ3.out,fun b' off' e=>(HK3.out b' off' e).trans (HK.out b' off' e)⟩
      case measure=>simp[intOf];omega
     ·have HJX:=hid hJx3;clear hJx3;gi_wp2
      refine bodyPost_ret (results_none rfl _ _ _) rfl ?_;exact⟨⟨_,rfl⟩,.inr ⟨_,⟨bs.drop (k+1),by rw[<- HS.out];exact my9 _ _⟩,HJX.out⟩⟩
    ·obtain rfl:k=n:=by omega
     have e:bs.take k=bs:=tL (by rw[HLEN.out];exact nR _);rw[e] at hJ2;gi_wp2
     go_roundw;case rel=>exact .inr ⟨rfl,hJ2⟩
     case measure=>simp[intOf]
  ·gi_wp2
   go_end0
   exact⟨⟨_,rfl⟩,.inl ⟨_,rfl,hJs⟩⟩
theorem jF0 {b:Nat}{t:TypeId}(vs:List Value):∀ (o:Nat) (w:World) (c:Array Value),w.heap[b]?=some (.cells c t)->∃ c',(w.setCells b o vs).heap[b]?=some (.cells c' t):=by
 induction vs with
 | nil=>intro o w c h;exact⟨c,h⟩
 | cons v vs ih=>intro o w c h;exact ih (o+1) _ _ (hsc _ _ _ _ h)
theorem fs0 {F:Fence}{P:Program}{ops:Array Oper}{rest:List Oper}{op:Oper}{a:Act}{Q:Exit->Act->World->Prop}(hgd:op.guard=none)(ty:TypeId)(x y:Operand)(ho:op.op = .store ty x y)
  (b o:Nat) (cells:Array Value) (hx:a.eval x = .pointer (some ⟨b,o,none⟩)) (hy:a.eval y = .agg cells)
  (ht:w.there b o cells.size) (hi:(P.info? ty).map (·.size)=some cells.size) (h1:cells.all (·.oneCell')=true)
  (h:wpListIn F n P ops Q rest (a.put op.dst undef) (w.setCells b o cells.toList)):wpListIn F n P ops Q (op :: rest) a w:=by
 refine wpListIn_plain hgd fun K hK=>?_
 unfold Oper.wpIn;refine⟨?_,?_⟩
 ·simp[Oper.about,ho]
 ·rw[Oper.semAt_plain F _ _ (by rw[ho];intro c hc;cases hc)];unfold execOp;simp only[ho,hx,hy,Instr.storeAt,Instr.sureAddr,Sem.run_bind,Sem.run_pure,Result.andThen_ok,run_storeVar_mid w b o ty cells ht hi h1];exact hK _ _ h
def do0 (s:Nat)(bs:List Int):Nat:=bs.foldl gK0 s
theorem mj0 (s:Nat)(l:List Int)(x:Int):do0 s (l++[x])=gK0 (do0 s l) x:=by simp[do0]
theorem oH0 (hn:n<4294967296){x:Int}(h0:0<=x)(h1:x<256):gK0 n x<4294967296:=by
 unfold gK0;refine mo9 (n:=32) oM (kD0 ?_);exact mo9 (n:=8) oM oM
theorem gL0 (bs:List Byte)(hs:s<4294967296):do0 s (bs.map (·.1))<4294967296:=by
 induction bs generalizing s with
 | nil=>exact hs
 | cons x l ih=>exact ih (oH0 hs x.2.1 x.2.2)
theorem xy0 (hs:s<4294967296)(hg:w.heap[g]?=some (.cells #[.slice a n c] 22))(hb:lI0 w a n (bs.map (·.1)))(hal:∀ b off,a=some ⟨b,off,none⟩->b<w.heap.size)(hn:n<=65536) :
  Calls Tryz.prog 288 #[.int .u32 s,.slice (some ⟨g,0,none⟩) 1 1] w fun e w'=>e = .returned (.int .u32 ((4294967295 ^^^ do0 (4294967295 ^^^ s) (bs.map (·.1)):Nat):Int))/\Fq w w':=by
 refine (callsIn_wide (n:=10)).1 ?_;have HG:=hid hg;have HB:=hid hb;clear hg hb;obtain⟨tab,htab⟩:∃ tab:Array Value,(ef0 256).toArray=tab:=⟨_,rfl⟩
 have hT:=vr0 w;rw[htab] at hT;have hsz:(Tryz.prog.info? 396).map (·.size)=some tab.size:=by rw[<- htab,zA,cT0];kernel_rfl
 have h1c:tab.all (·.oneCell')=true:=by rw[<- htab];simp[ef0,Value.oneCell']
 have hts:tab.size=256:=by rw[<- htab,zA,cT0]
 have htg:∀ i,i<256->tab[i]?=some (.int .u32 (cY0 i:Nat)):=fun i hi=>by rw[<- htab];simp[ef0,hi]
 obtain⟨zs,hzs⟩:∃ zs:Array Value,Tryz.zeroCells396=zs:=⟨_,rfl⟩
 have hzl:zs.size=256:=by rw[<- hzs,lN0,zA,cT0]
 have HT:=hid hT;have HTG:=hid htg;have HTS:=hid hts;have HZS:=hid hzs;clear htab hT htg hts hzs;refine callsIn_of_wp_marks Tryz.func288 rfl trivial ?_ rfl;simp only[Tryz.ntmps288,zA,lC,lz9,Nat.reduceAdd,Nat.reduceSub,lq9,lr9,ly9,ls9,le9,lo9];gi_wp2_with (fail)
 refine (callsIn_wide.2 HT.out).mono ?_;rintro e w1 ⟨rfl,F1⟩;obtain⟨w2,hw2⟩:=eX (w1.alloc (.cells zs 396))
 have h2:w2.heap[w1.heap.size]?=some (.cells zs 396):=by rw[<- hw2];exact han _ _
 have F2:Fq w1 w2:=by rw[<- hw2];exact (Fr.refl _ _).alloc _
 have ht:w2.there w1.heap.size 0 tab.size:=by
  intro j hj;refine⟨?_,foh h2 _⟩;rw[coh h2];rw[HTS.out] at hj;simp;omega
 have HTH:=hid ht;have HW2:=hid hw2;have H2:=hi2 h2 F2;clear ht hw2 h2 F2;dsimp only;iterate 8 (first|(rw[HZS.out,HW2.out])|(refine fs0 rF 396 (.tmp 5) (.tmp 8) rF w1.heap.size 0 tab rF rF HTH.out hsz h1c ?_)|gi_step|gi_upon|skip)
 obtain⟨w3,hw3⟩:=eX (w2.setCells w1.heap.size 0 tab.toList)
 rw[hw3];have ht3:∃ c3,w3.heap[w1.heap.size]?=some (.cells c3 396)/\∀ i,i<256->c3[i]?=some (.int .u32 (cY0 i:Nat)):=by
  obtain⟨c3,h3⟩:=jF0 (b:=w1.heap.size) tab.toList 0 w2 _ H2.out.1;rw[hw3] at h3;refine⟨c3,h3,fun i hi=>?_⟩;have hr:=World.rangeAt_setCells_same w2 w1.heap.size 0 tab.toList (by simpa using HTH.out);rw[hw3] at hr;have:=hr i (.int .u32 (cY0 i:Nat)) (by simpa using HTG.out i hi);rw[coh h3,lp9] at this;exact this
 obtain⟨c3,h3,hc3⟩:=ht3;have F3:Fq w w3:=by
  rw[<- hw3];exact Fr.setCells F1.size _ _ _ (F1.trans H2.out.2 nI)
 have HC3:=hid hc3;have H3:=hi2 h3 F3;have l3:=loh h3;clear hw3 h3 F3 hc3 H2 HTH HW2 HZS HTG HTS hsz h1c HT;have hx0:bits BinOp.xor IntKind.u32 IntKind.u32.max (s:Int)=((4294967295 ^^^ s:Nat):Int):=by
  rw[show IntKind.u32.max=((4294967295:Nat):Int) from rfl,u32_xor_nat _ _ dC hs]
 obtain⟨s0,hs0⟩:=eX (4294967295 ^^^ s)
 have hs0l:s0<4294967296:=by rw[<- hs0];exact mo9 (n:=32) dC hs
 rw[hs0] at hx0;have HX0:=hid hx0;have HS0:=hid hs0;clear hx0 hs0;gi_wp2_with (fail)
 rw[HX0.out];refine (callsIn_wide.2 (tg0 _ _ _ _)).mono ?_;rintro e w' ⟨rfl,rfl⟩;gi_wp2_with (fail)
 obtain⟨W0,hW0⟩:=eX ((w3.alloc (.cells #[.int .u32 s0] 373)).alloc (.cells #[.slice (some ⟨g,0,none⟩) 1 1] 203))
 have hF0:Fq w3 W0:=by rw[<- hW0];exact ((Fr.refl _ w3).alloc _).alloc _
 have hsz:W0.heap.size=w3.heap.size+1+1:=by rw[<- hW0];simp
 have hnx:W0.heap[w3.heap.size]?=some (.cells #[.int .u32 s0] 373):=by rw[<- hW0];exact (am0 _ _ _ sP).trans (han _ _)
 have hbx:W0.heap[w3.heap.size+1]?=some (.cells #[.slice (some ⟨g,0,none⟩) 1 1] 203):=by rw[<- hW0];have:=han (w3.alloc (.cells #[.int .u32 s0] 373)) (.cells #[.slice (some ⟨g,0,none⟩) 1 1] 203);simpa using this
 have hFw:=H3.out.2.trans hF0 nI;have hT0:=hF0.heap H3.out.1 id;have hg0:=hFw.heap HG.out id;have hb0:=HB.out.fr hFw (fun _ _ _ _ h=>h);have hw0:=H3.out.2.size;have ha:=hb0.len;have hbl:bs.length=n:=by simpa using ha
 simp only[World.size_alloc,hW0];refine wpIn_rangeFunc_ownG (F:=Fence.wide) rfl oM (gf:=291) (lb:=#[.pointer (some ⟨w3.heap.size+1,0,none⟩)]) rfl trivial (enters_of Tryz.func291 kF rfl)
  (oR0 hbx hg0 hb0 hn) (fun h k b off e=>(k b off e).trans (h b off e)) (fun W l o o' hl _ _ _ b off e=>hpj _ _ _ _ (by have:=hal b off e;omega)) (Below.refl _ _) (fun _=>rfl)
  (fun pre W=>(W.heap[w3.heap.size]?=some (.cells #[.int .u32 ((do0 s0 (pre.map (·.1)):Nat):Int)] 373)/\W.heap[w1.heap.size]?=some (.cells c3 396))/\Fq w W)
  (fun _ _ _=>False)
  (aZ0 (aZ0 (aN0 _ _ _ (fun _=>.inl rfl)) (aN0 _ _ _ (fun _=>.inl rfl))) (dU0 oM))
  (fun _ _ _ _ _ h=>h.elim)
  ⟨⟨hnx,hT0⟩,hFw⟩
  (fun x=>{ tmps:=#[.int .u32 s,.slice (some ⟨g,0,none⟩) 1 1,undef,undef,.int .u32 0,.pointer (some ⟨w1.heap.size,0,none⟩),.pointer (some ⟨w3.heap.size,0,none⟩),.int .u8 x.1,.agg tab,.int .u32 s,.int .u32 s0,.slice (some ⟨g,0,none⟩) 1 1,.func (.func 291) #[] #[.pointer (some ⟨w3.heap.size+1,0,none⟩)],.int .u8 x.1,undef,undef,undef,undef,undef,undef,undef,undef,undef,undef,undef],defers:=[] }) ?assign ?body ?done ?stop
 case assign =>
  intro l x W K hK;gi_wp2
  exact hK
 case body =>
  rintro l pre x W ⟨⟨h1,h2⟩,hF⟩ hlen;have hac:=gL0 pre hs0l;have hmx:Tryz.prog.follows .mixedOrders=true:=by kernel_rfl
  generalize hacc:do0 s0 (pre.map (·.1))=acc at h1 hac;have k0:=coh h1 0;have kz:=foh h1 0;simp at k0;have hidx:((acc % 256) ^^^ x.1.toNat)<256:=mo9 (n:=8) oM (by have:=x.2;omega);have kt:=(coh h2 ((acc % 256) ^^^ x.1.toNat)).trans (HC3.out _ hidx);obtain⟨ix,hix⟩:∃ ix:Nat,(acc % 256) ^^^ x.1.toNat=ix:=⟨_,rfl⟩
  rw[hix] at kt hidx;have hxr:bits BinOp.xor IntKind.u8 ((acc:Int) % 256) x.1=(ix:Int):=by
   obtain⟨y,hy⟩:=iZ x.2.1;have:=x.2.2;rw[hy] at this hix ⊢;rw[show ((acc:Int) % 256)=((acc % 256:Nat):Int) by simp,u8_xor_nat _ _ oM oM];simp at hix;rw[hix]
  have hxr2:bits BinOp.xor IntKind.u8 (IntKind.u8.wrap (acc:Int)) x.1=(ix:Int):=by
   rw[IntKind.wrap_u8'];exact hxr
  have HIX:=hid hix;clear hix;have HA:=hid hacc;have H12:=hi2 h1 (aI h2 hF);clear hacc h1 h2 hF;gi_wp2
  have fin:KeepsFrom W0.heap.size W (W.setCell ⟨w3.heap.size,0,none⟩ (.int .u32 (bits BinOp.xor IntKind.u32 ((acc:Int)/256) ((cY0 ix:Nat):Int)))).drew /\
    KpY a W (W.setCell ⟨w3.heap.size,0,none⟩ (.int .u32 (bits BinOp.xor IntKind.u32 ((acc:Int)/256) ((cY0 ix:Nat):Int)))).drew /\
    (((W.setCell ⟨w3.heap.size,0,none⟩ (.int .u32 (bits BinOp.xor IntKind.u32 ((acc:Int)/256) ((cY0 ix:Nat):Int)))).drew.heap[w3.heap.size]?=some (.cells #[.int .u32 ((do0 s0 ((pre++[x]).map (·.1)):Nat):Int)] 373) /\
     (W.setCell ⟨w3.heap.size,0,none⟩ (.int .u32 (bits BinOp.xor IntKind.u32 ((acc:Int)/256) ((cY0 ix:Nat):Int)))).drew.heap[w1.heap.size]?=some (.cells c3 396)) /\
     Fq w (W.setCell ⟨w3.heap.size,0,none⟩ (.int .u32 (bits BinOp.xor IntKind.u32 ((acc:Int)/256) ((cY0 ix:Nat):Int)))).drew):=by
   obtain⟨h1,h2,hF⟩:=H12.out;have hnw:bits BinOp.xor IntKind.u32 ((acc:Int)/256) ((cY0 ix:Nat):Int)=((do0 s0 ((pre++[x]).map (·.1)):Nat):Int):=by
    rw[show (acc:Int)/256=((acc/256:Nat):Int) by simp,u32_xor_nat _ _ oM (kD0 hidx)];rw[lt9,show List.map (fun y:Byte=>y.1) [x]=[x.1] from rfl,mj0,HA.out,<- HIX.out];rfl
   rw[hnw];refine⟨((KeepsOthers.setCell _ _ _).trans (KeepsOthers.drew _)).from _,fun b off e=>ao0 _ _ _ _ (by have:=hal b off e;simp;omega),⟨?_,(ao0 _ _ _ _ sO).trans h2⟩,(hF.an0 oM _).drew⟩;rw[show (W.setCell ⟨w3.heap.size,0,none⟩ (.int .u32 ((do0 s0 ((pre++[x]).map (·.1)):Nat):Int))).drew.heap=(W.setCell ⟨w3.heap.size,0,none⟩ (.int .u32 ((do0 s0 ((pre++[x]).map (·.1)):Nat):Int))).heap from rfl,hsc _ _ _ _ h1];rfl
  gi_region_with_o (fail)
  all_goals exact fin
 case done =>
  rintro D ys W hD rfl ⟨⟨h1,h2⟩,hF⟩ hK;have hac:=gL0 ys hs0l;generalize hacc:do0 s0 (ys.map (·.1))=acc at h1 hac;have k0:=coh h1 0;simp at k0;have hx1:bits BinOp.xor IntKind.u32 IntKind.u32.max (acc:Int)=((4294967295 ^^^ acc:Nat):Int):=by
   rw[show IntKind.u32.max=((4294967295:Nat):Int) from rfl,u32_xor_nat _ _ dC hac]
  have HA:=hi2 hacc hx1;have HF:=hid hF;clear hacc hx1 h1 h2 hF;gi_wp2
  rw[HA.out.2];refine bH0 (t:=4) rfl hK ⟨by rw[HS0.out,HA.out.1];rfl,HF.out.putObj (fun hh=>oM) _⟩
 case stop=>exact fun _ _ _ _ _ _ h=>h.elim
theorem kJ0 {bs:List Int}(h:∀ x ∈ bs,0<=x/\x<256):∃ l:List Byte,l.map (·.1)=bs:=by
 induction bs with
 | nil=>exact⟨[],rfl⟩
 | cons x r ih =>
  obtain⟨l,hl⟩:=ih fun y hy=>h y (by simp[hy])
  exact⟨⟨x,h x sP⟩ :: l,by simp[hl]⟩
theorem zg0 {bs:List Int}(hb:ByV w a n c bs)(hby:∀ x ∈ bs,0<=x/\x<256)(hn:n<=65536) :
  Calls Tryz.prog 267 #[.slice a n c] w fun e w'=>e = .returned (.int .u32 ((tR0 bs:Nat):Int))/\Fq w w':=by
 obtain⟨l,rfl⟩:=kJ0 hby
 obtain⟨w1,hw1⟩:=eX (w.alloc (.cells #[.slice a n c] 22))
 have F1:Fq w w1:=by rw[<- hw1];exact (Fr.refl _ _).alloc _
 have b1:w1.heap[w.heap.size]?=some (.cells #[.slice a n c] 22):=by rw[<- hw1];exact han _ _
 have hal:∀ b off,a=some ⟨b,off,none⟩->b<w1.heap.size:=fun b off e=>by
  have hs:=F1.size;rcases hb.at_ with⟨h0,_⟩|⟨b',off',cs,h1,h2⟩
  ·rw[h0] at e;cases e
  ·rw[h1] at e;cases e;have:=loh h2;omega
 have HM:=hid (xy0 (s:=0) dC b1 (hb.by_.fr F1 (fun _ _ _ _ h=>h)) hal hn);have HW:=hid hw1;have HF1:=hid F1;clear hw1 F1 b1 hb hby hal;have HA:Calls Tryz.prog 285 #[.int .u32 0,.slice a n c] w fun e w'=>e = .returned (.int .u32 ((tR0 (l.map (·.1)):Nat):Int))/\Fq w w':=by
  go_enter Tryz.func285,Tryz.ntmps285;go_wp2_with fail
  rw[HW.out];refine HM.out.mono ?_;rintro e w2 ⟨rfl,F2⟩;have HF2:=hid F2;clear F2;go_wp2
  go_ret;refine⟨?_,HF1.out.trans HF2.out nI⟩;rw[tR0,Nat.xor_comm];rfl
 have HA:=hid HA;clear HM HW HF1;go_enter Tryz.func267,Tryz.ntmps267;go_wp2_with fail
 refine HA.out.mono ?_;rintro e w2 ⟨rfl,F2⟩;have HF2:=hid F2;clear F2;go_wp2
 go_ret;exact⟨rfl,HF2.out⟩
