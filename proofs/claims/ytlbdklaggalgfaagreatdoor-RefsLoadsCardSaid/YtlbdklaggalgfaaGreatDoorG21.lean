/- FyZ FzB -/
import Derived.Test.YtlbdklaggalgfaaGreatDoorG20
set_option linter.unusedSimpArgs false
set_option linter.unusedVariables false
set_option maxHeartbeats 4000000
namespace Go.Aq
theorem ranges_chg {P:Program} {k:TypeId} {R:Value→Option (DataW Value×List MemPlace)} {w w':World} {b r n:Nat} {D:DataW Value} {left:Lit→Bool} {cnt:Nat} {S:List Nat} (h:w.ranges P k R b r n D left cnt) (c:Chg S w w') (hb:b∉S) (hr:r∉S):w'.ranges P k R b r n D left cnt:=by
 have h1:=h.owns.lt;have h2:=h.lt;obtain⟨es,clock,since,seen,c0,hb',F,hs,hD,hr',rest⟩:=h;exact⟨es,clock,since,seen,c0,(c.block b h1 hb).trans hb',F,hs,hD,(c.block r h2 hr).trans hr',rest⟩
end Go.Aq
namespace Go.Proofs.YtlbdklaggalgfaaGreatDoor
open Go.RowKit Go.Aq Go.Aq.Fy Go.Maps
theorem lawT:Keyed Tryz.prog 9:=string_keyed Tryz.underlying9
set_option maxRecDepth 100000 in
theorem next_map (w:World) {ops:Array Oper} {rest:List Oper} {o:Oper} {a:Act} {Q:Exit→Act→World→Prop} (hg:o.guard=none) (it:Operand) (hop:o.op=Op.next it false)
  (m r n:Nat) (l:List (Nm×Value)) (left:Lit→Bool) (cnt:Nat) (hit:a.eval it=.pointer (some ⟨r,0,none⟩)) (h:w.ranges Tryz.prog 9 heldR m r n (datS l) left cnt)
  (hDone:Hid (∀kl,left kl=false)→wpList Tryz.prog ops Q rest (a.put o.dst (.tuple #[.bool false])) w)
  (hMore:∀(s:Nm) (v:Value) (w':World) (cnt':Nat),Hid (left (.string s)=true∧cnt'<cnt∧lookK s l=some v)→w'.ranges Tryz.prog 9 heldR m r n (datS l) (fun z=>left z&&!z.sameKey (.string s)) cnt'→Chg [r] w w'→
   (Instr.entry (.pointer (some ⟨r,0,none⟩))).run Tryz.prog w'=.ok (.tuple #[.string (str s),v]) w'→wpList Tryz.prog ops Q rest (a.put o.dst (.tuple #[.bool true,.string (str s),v])) w'):
  wpList Tryz.prog ops Q (o::rest) a w:=by
 refine wpList_next_ranges w hg it hop 9 lawT heldR (fun x:List UInt8=>Value.string (str x)) id (fun key kl hk=>by obtain⟨x,e,_⟩:=Maps.keyOf_str Tryz.underlying9 hk;exact⟨x,e⟩) (fun v y hv=>⟨v,rfl⟩) m r n (datS l) left cnt hit h (fun _ h1=>hDone h1) ?_;intro x c kl0 y w1' cnt1 hkey hlx hv hat hrg1 hlt hg1 hs1 hen;obtain rfl:kl0=.string x:=by
  obtain⟨x',e,e2,_⟩:=Maps.keyOf_str Tryz.underlying9 hkey;rw[e2];injection e with e3;have:x=x':=str_inj e3;rw[this]
 refine hMore x c w1' cnt1 ⟨hlx,hlt,?_⟩ hrg1 (Chg.of_grown hg1) hen;have h1:=hat .nil;rw[(datS_look l x .nil).1] at h1;simp only[heldR,id,Option.some.injEq] at hv;subst hv;cases hq:lookK x l with
 | none=>rw[hq] at h1;cases h1
 | some v=>rw[hq] at h1;simp only[DataW.held.injEq] at h1;rw[h1]
def metB (L:Files) (left:Lit→Bool) (k:Nat):Prop:=∃p∈L,left (.string p.1)=false∧k∈p.2.blocks
theorem metB_step {L:Files} (ha:Asc L) {left:Lit→Bool} {s:Nm} {x:FileD} (hx:lookK s L=some x) (k:Nat):metB L (fun z=>left z&&!z.sameKey (.string s)) k↔metB L left k∨k∈x.blocks:=by
 have hk:∀t:Nm,(Lit.string t).sameKey (.string s)=decide (t=s):=fun t=>sameKey_s t s
 unfold metB;constructor
 ·rintro⟨p,hp,h1,h2⟩;simp only[hk] at h1;by_cases e:p.1=s
  ·right;have:=look_of_mem ha (show (p.1,p.2)∈L from hp);rw[e,hx] at this;cases this;exact h2
  ·simp only[e,decide_false,Bool.not_false,Bool.and_true] at h1;exact .inl ⟨p,hp,h1,h2⟩
 ·rintro (⟨p,hp,h1,h2⟩ | h);·exact⟨p,hp,by simp[h1],h2⟩
  ·exact⟨(s,x),look_mem hx,by simp[hk],h⟩
def boolsU (n:Nat) (u:Nat→Bool):List Value:=(List.range n).map fun k=>.bool (u k)
theorem boolsU_set (n:Nat) (u:Nat→Bool) (k:Nat):(boolsU n u).set k (.bool true)=boolsU n (fun j=>u j || decide (j=k)):=by
 refine List.ext_getElem (by simp[boolsU]) fun i h1 h2=>?_
 rw[List.getElem_set];by_cases e:k=i;·subst e;simp[boolsU]
 ·rw[if_neg e];simp[boolsU,Ne.symm e]
theorem boolsU_get {n:Nat} {u:Nat→Bool} {k:Nat} (h:k<n):(boolsU n u)[k]?=some (.bool (u k)):=by simp[boolsU,h]
theorem sl_bool:SliceTy Tryz.prog 204 4 (.bool false) 1 1:=⟨Tryz.underlying204,by kernel_rfl,rfl,by decide⟩
theorem sl_intF:SliceTy Tryz.prog 101 3 (.int .i64 0) 1 8:=⟨Tryz.underlying101,by kernel_rfl,rfl,by decide⟩
def freeU (u:Nat→Bool) (k:Nat):List Nat:=(List.range k).filter fun j=>!u j
theorem freeU_succ (u:Nat→Bool) (k:Nat):freeU u (k+1)=freeU u k++if u k then [] else [k]:=by
 unfold freeU;rw[List.range_succ,List.filter_append];cases h:u k <;> simp[h]
theorem freeU_pre (u:Nat→Bool) (k m:Nat):∃t,freeU u (k+m)=freeU u k++t:=by
 induction m with
 | zero=>exact⟨[],by simp⟩
 | succ m ih=>
  obtain⟨t,ht⟩:=ih;exact⟨t++if u (k+m) then [] else [k+m],by rw[←Nat.add_assoc,freeU_succ,ht,List.append_assoc]⟩
set_option maxRecDepth 100000 in
theorem fblocks_ok (w:World) (Sd X:List Nat) (f d l bf:Nat) (F:FsD) (h:FsR w Sd X f d l bf F) (n:Nat) (hn:n≤1000000) (hks:∀p∈F.files,∀k∈p.2.blocks,k<allF F) (hbl:∀p∈F.files,p.2.blocks.length≤4096):
  Calls Tryz.prog 112 #[.pointer (some ⟨f,0,none⟩),.int .i64 n] w fun e w'=>∃v,e=.returned v∧Fresh w w' 3 1 v ((freeF F).take n).length (ints ((freeF F).take n)):=by
 obtain⟨⟨-,-,-,c3⟩,-⟩:=Blk.c4b h.blk;have hall:=all_ok w Sd X f d l bf F h;obtain⟨fl,hM,hTwo⟩:=h.files;have hasc:=h.files.asc';have hA4:allF F≤4096:=by have:=h.small;unfold allF;omega
 have hlt:=h.lt;have hbflt:=hlt bf (by simp);have hfree:freeF F=freeU (fun k=>usedF F.files k) (allF F):=rfl;rw[hfree];have HH:=zH (And.intro hM (And.intro hTwo (And.intro hasc (And.intro hks (And.intro hbl (And.intro hn (And.intro hA4 (And.intro hlt hbflt))))))));generalize allF F=A at *;clear h hM hTwo hasc hks hbl hn hlt hfree;go_enter Tryz.func112,Tryz.ntmps112;go_wp2_with fail;refine hall.mono ?_;rintro e w1 ⟨rfl,nq,rfl⟩;have c1:Chg [] w (w.drewN nq):=(Chg.refl _ _).drewN nq;replace c3:=c1.cell_some c3 (by simp);have hM1:=HH.out.1.owns;replace hM1:=own_chg hM1 c1 (by simp);obtain⟨w1,hw1⟩:∃w1,w.drewN nq=w1:=⟨_,rfl⟩;rw[hw1] at c1 c3 hM1 ⊢;clear hw1 hall;go_wp2_with (first
  | (at_make;refine wpList_mk rfl _ _ 204 rfl sl_bool rfl .i64 .i64 A rfl rfl rfl rfl (by omega) (by omega) ?_;intro w2 ho2 c2 hsz2;replace c3:=c2.cell_some c3 (by simp);replace hM1:=own_chg hM1 c2 (by simp))
  | (at_range;refine wpList_range_own _ rfl _ 93 rfl 9 103 lawT Tryz.underlying93 heldR bf fl.length (datS fl) rfl hM1 ?_;intro w3 hrg3 hg3 hs3)
  | fail)
 go_frame;have c23:Chg [] w2 w3:=Chg.of_grown hg3;have cw3:Chg [] w w3:=(c1.nil c2).nil c23;have hu0:Own w3 4 1 (.slice (some ⟨w1.heap.size,0,none⟩) A A) A (boolsU A fun _=>false):=by
  have h1:=ho2.chg c23 (fun _ _=>by simp);have h2:boolsU A (fun _=>false)=List.replicate A (.bool false):=by
   refine List.ext_getElem (by simp[boolsU]) fun i h1 h2=>by simp[boolsU]
  rw[h2];exact h1
 obtain⟨G,hG⟩:∃G,w1.heap.size=G:=⟨_,rfl⟩;obtain⟨r,hr⟩:∃r,w2.heap.size=r:=⟨_,rfl⟩;have hGw:w.heap.size≤G:=by have:=c1.size;omega
 have hGr:G<r:=by omega
 rw[hG] at hu0 ⊢;rw[hr] at hrg3 ⊢;have HG:=zA hGw hGr;have hm0:Hid (∀k,(fun _:Nat=>false) k=true↔metB F.files (fun kl=>Maps.has (datS fl) kl) k):=fun k=>by
  refine⟨fun h=>(by cases h),fun⟨p,hp,h1,_⟩=>?_⟩;have h1':Maps.has (datS fl) (.string p.1)=false:=h1;rw[(datS_look fl p.1 .nil).2] at h1';rcases HH.out.2.1.look p.1 with ⟨e1,e2⟩ | ⟨x,y,e1,e2,_⟩
  ·rw[look_of_mem HH.out.2.2.1 (show (p.1,p.2)∈F.files from hp)] at e1;cases e1
  ·rw[e2] at h1';cases h1'
 have CW:=zH cw3;have HM:=zH hm0;clear hM1 ho2 c2 hsz2 c1 hG hr hg3 hs3 c23 cw3 hm0 c3;generalize Maps.size (datS fl)=cnt0 at *;go_loopg [7,9] cnt0 (fun k (v7 v9:Value) wr=>∃(left:Lit→Bool) (u:Nat→Bool),wr.ranges Tryz.prog 9 heldR bf r fl.length (datS fl) left k∧Own wr 4 1 (.slice (some ⟨G,0,none⟩) A A) A (boolsU A u)∧Hid (Chg [] w wr∧(∀k,u k=true↔metB F.files left k)));case atStart=>exact⟨_,_,hrg3,hu0,CW.out,HM.out⟩
 case round=>
  clear hrg3 hu0;obtain⟨left,u,hrg,hu,HC⟩:=hrel;go_wp2_with (first
   | (at_next;refine next_map _ rfl _ rfl bf r fl.length fl _ _ rfl hrg ?_ ?_)
   | fail)
  ·intro HZ;have hmet:∀k,u k=usedF F.files k:=fun k=>by
    rw[Bool.eq_iff_iff,HC.out.2 k,usedF,List.any_eq_true];exact⟨fun⟨p,hp,_,h2⟩=>⟨p,hp,by simpa using h2⟩,fun⟨p,hp,h2⟩=>⟨p,hp,HZ.out _,by simpa using h2⟩⟩
   have HUE:=zH (show u=(fun k=>usedF F.files k) from funext hmet);have CR:=zH HC.out.1;clear hmet HZ HC hrg;go_wp2_with fail;have hn':=HH.out.2.2.2.2.2.1;have hGwr:G<wr.heap.size:=by have:=hu.lt G (by simp[Value.ownBlock]);exact this
   obtain⟨w0r,hw0r⟩:∃w0r,wr=w0r:=⟨_,rfl⟩;have HF0:Fresh w wr 3 1 (.slice none 0 0) (freeU u 0).length (ints (freeU u 0)):=⟨Own.nil _ _ _,CR.out,by simp[Value.ownBlock]⟩;go_loopg [10,11] A (fun k (v10 v11:Value) wy=>∃i:Nat,v11=.int .i64 i∧Fresh w wy 3 1 v10 (freeU u i).length (ints (freeU u i))∧Own wy 4 1 (.slice (some ⟨G,0,none⟩) A A) A (boolsU A u)∧Hid (i≤A∧k=A - i∧(freeU u i).length≤n∧G∉v10.ownBlock.toList));case atStart=>exact⟨0,rfl,HF0,hu,Nat.zero_le _,rfl,Nat.zero_le _,by simp[Value.ownBlock]⟩
   case round=>
    clear HF0 hu;obtain⟨i,rfl,hF,hu,HI⟩:=hrel;obtain⟨a10,q10,rfl,-⟩:=hF.shape;obtain⟨m,hm⟩:∃m,(freeU u i).length=m:=⟨_,rfl⟩;rw[hm] at hF;have HI2:=zH hm;have HI3:=zH (show G∉(Value.slice a10 m q10).ownBlock.toList by have:=HI.out.2.2.2;rw[hm] at this;exact this);have hmn:=HI.out.2.2.1;rw[hm] at hmn;have e2:wrap64 ((i:Int)+1)=((i+1:Nat):Int):=by unfold wrap64;have:=HI.out.1;omega
    have e2w:=wIq e2;rw[hm];clear hm;by_cases hi:i<A
    ·have t0:decide ((i:Int)<(A:Int))=true:=by simp;omega
     have t0':decide (i<A)=true:=by simp;omega
     have z:=Own.cellAt hu i (by omega);rw[boolsU_get hi] at z;by_cases hmlt:m<n
     ·have t1:decide ((m:Int)<(n:Int))=true:=by simp;omega
      have t1':decide (m<n)=true:=by simp;omega
      have HQ:=zB hi hmlt hmn;have HF:=zH hF;have HU:=zH hu;cases hb:u i with
      | true=>
       rw[hb] at z;have HB:=zH hb;clear hb hmlt hmn hF hu hn';go_wp2_with fail;go_roundg (gk - 1);case measure=>have:=HI.out.2.1;have:=HQ.out.1;omega
       case rel=>
        have hs:freeU u (i+1)=freeU u i:=by rw[freeU_succ,HB.out];simp
        refine⟨i+1,by simp,by rw[hs,HI2.out];exact HF.out,HU.out,by have:=HQ.out.1;omega,by have:=HI.out.2.1;omega,by rw[hs];exact HI.out.2.2.1,HI3.out⟩
      | false=>
       rw[hb] at z;have HB:=zH hb;have ho:=hF.own;clear hb hmlt hmn hF hu hn';go_wp2_with (at_builtin;refine wpList_push rfl _ _ 101 rfl sl_intF ho rfl rfl rfl (by have:=HQ.out;have:=HH.out.2.2.2.2.2.1;omega) (by have:=HQ.out;have:=HH.out.2.2.2.2.2.1;omega) ?_;intro g cp w5 ho5 hc5 hg5 hcp hgl);have HO:=zC ho5 hc5 hg5 hgl;clear ho5 hc5 hg5 hgl ho;go_wp2_with fail;go_roundg (gk - 1);case measure=>have:=HI.out.2.1;have:=HQ.out.1;omega
       case rel=>
        obtain⟨ho5,hc5,hg5,hgl⟩:=HO.out;have hs:freeU u (i+1)=freeU u i++[i]:=by rw[freeU_succ,HB.out];simp
        have hl:(freeU u (i+1)).length=m+1:=by rw[hs,List.length_append,HI2.out];rfl
        have hF5:Fresh w w5 3 1 (.slice (some ⟨g,0,none⟩) (m+1) cp) (m+1) (ints (freeU u i)++[.int .i64 (i:Int)]):=HF.out.app ho5 hc5 (fun k hk=>by simp[Value.ownBlock] at hk;subst hk;exact hg5);refine⟨i+1,by simp,by rw[hl,hs];simpa[ints] using hF5,HU.out.chg hc5 (fun j hj hj'=>by simp[Value.ownBlock] at hj;subst hj;exact HI3.out hj'),by have:=HQ.out.1;omega,by have:=HI.out.2.1;omega,by rw[hl];have:=HQ.out.2.1;omega,fun hk=>?_⟩;simp[Value.ownBlock] at hk;subst hk;rcases hg5 with h1 | h1
        ·exact HI3.out h1
        ·have:=HU.out.lt G (by simp[Value.ownBlock]);omega
     ·have hme:m=n:=by omega
      have t1:decide ((m:Int)<(n:Int))=false:=by simp;omega
      have t1':decide (m<n)=false:=by simp;omega
      have HE:=zH hme;have HF:=zH hF;clear hme hF hu hn' hmn hmlt z;go_wp2_with fail;go_ret;refine⟨_,rfl,?_⟩;have e1:(freeU u A).take n=freeU u i:=by
       obtain⟨t,ht⟩:=freeU_pre u i (A - i);rw[show i+(A - i)=A by have:=HI.out.1;omega] at ht;rw[ht,List.take_append_of_le_length (by rw[HI2.out,HE.out];exact Nat.le_refl _),List.take_of_length_le (by rw[HI2.out,HE.out];exact Nat.le_refl _)]
      rw[←HUE.out,e1,HI2.out];exact HF.out
    ·have t0:decide ((i:Int)<(A:Int))=false:=by simp;omega
     have t0':decide (i<A)=false:=by simp;omega
     have hia:i=A:=by have:=HI.out.1;omega
     have HE:=zH hia;have HF:=zH hF;clear hia hF hu hn' hmn;go_wp2_with fail;go_ret;refine⟨_,rfl,?_⟩;have e1:(freeU u A).take n=freeU u i:=by
      rw[←HE.out,List.take_of_length_le HI.out.2.2.1]
     rw[←HUE.out,e1,HI2.out];exact HF.out
  ·intro s v wx cnt1 HX hrg1 c1 hen;obtain⟨x,hx,hv⟩:∃x,lookK s F.files=some x∧FileV w (X++f::l::bf::Sd) x v:=by
    rcases HH.out.2.1.look s with ⟨e1,e2⟩ | ⟨x,y,e1,e2,h3⟩
    ·rw[HX.out.2.2] at e2;cases e2
    ·rw[HX.out.2.2] at e2;cases e2;exact⟨x,e1,h3⟩
   obtain⟨vv,rfl,hvs,-⟩:=hv;obtain⟨ao,cap,rfl,-⟩:=hvs.shape;have hrs:r≥w.heap.size:=by have:=HG.out;omega
   have cx:Chg [] w wx:=HC.out.1.trans c1 (fun i hi=>by simp at hi;exact .inr (by omega));have hux:=hu.chg c1 (fun i hi hi'=>by simp[Value.ownBlock] at hi hi';have:=HG.out;omega);have hxm:(s,x)∈F.files:=look_mem hx;obtain⟨m,hm⟩:∃m,x.blocks.length=m:=⟨_,rfl⟩;rw[hm] at hvs hen ⊢;have hm4:m≤4096:=by have:=HH.out.2.2.2.2.1 _ hxm;simp only at this;omega
   have HS:=zE hvs cx (HH.out.2.2.2.1 _ hxm) hm hx (HC.out.2);clear hrg hu HC c1 hx hvs cx hxm hm;go_wp2_with fail;obtain⟨wb,hwb⟩:∃wb,wx.alloc (Obj.cells #[.int .i64 x.size,.slice ao m cap] 103)=wb:=⟨_,rfl⟩;have cb:Chg [] wx wb:=by rw[←hwb];exact (Chg.refl [] wx).alloc _
   rw[hwb];have hub:=hux.chg cb (fun _ _=>by simp);have hrgb:=ranges_chg hrg1 cb (by simp) (by simp);have HB0:=zH (show Chg [] w wb from HS.out.2.1.nil cb);obtain⟨gk0,rfl⟩:∃g,g=gk:=⟨_,rfl⟩;obtain⟨wr0,rfl⟩:∃g,g=wr:=⟨_,rfl⟩;obtain⟨left',hleft⟩:∃left':Lit→Bool,(fun z=>left z&&!z.sameKey (Lit.string s))=left':=⟨_,rfl⟩;rw[hleft] at hrgb;have HLf:=zH hleft;have HXX:=zA hrs hm4;clear hwb cb hux hrg1 hen hleft hrs hm4;go_loopg [9,27] m (fun k (v9 v27:Value) wy=>∃(i:Nat) (u':Nat→Bool),v27=.int .i64 i∧wy.ranges Tryz.prog 9 heldR bf r fl.length (datS fl) left' cnt1∧Own wy 4 1 (.slice (some ⟨G,0,none⟩) A A) A (boolsU A u')∧Hid (i+k=m∧Chg [] w wy∧∀k,u' k=(u k || decide (k∈x.blocks.take i))));case atStart=>exact⟨0,u,rfl,hrgb,hub,Nat.zero_add _,HB0.out,fun k=>by simp⟩
   case round=>
    clear hrgb hub HB0;obtain⟨i,u',rfl,hrg,hu,HI⟩:=hrel;by_cases hi:i<m
    ·have t0:decide ((i:Int)<(m:Int))=true:=by simp;omega
     have t0':decide (i<m)=true:=by simp;omega
     obtain⟨g,off,cap',e,-,hc⟩:=(HS.out.1.chg0 HI.out.2.1).at1 (by omega);cases e;have hil:i<x.blocks.length:=by rw[HS.out.2.2.2.1];exact hi
     obtain⟨kb,hkb⟩:∃kb,x.blocks[i]'hil=kb:=⟨_,rfl⟩;have z0:=hc i hi;have z0':(ints x.blocks)[i]?=some (.int .i64 (kb:Int)):=by simp[ints,hil,hkb]
     rw[z0'] at z0;have hkA:kb<A:=HS.out.2.2.1 kb (by rw[←hkb];exact List.getElem_mem hil);have z1:=Own.cellAt hu kb (by omega);rw[boolsU_get hkA] at z1;have z2:=Own.frozenAt hu kb;have hkA':(kb:Int)<(A:Int):=by omega
     have e2:wrap64 ((i:Int)+1)=((i+1:Nat):Int):=by unfold wrap64;have:=HXX.out.2;omega
     have e2w:=wIq e2;have hm4:=HXX.out.2;have HQ:=zB hi (show ∃h:i<x.blocks.length,x.blocks[i]'h=kb from ⟨hil,hkb⟩) hkA;have HU:=zA hu hrg;clear hu hrg hc hkb hil z0' hm4;go_wp2_with fail;go_roundg (gk - 1);case measure=>have:=HI.out.1;have:=HQ.out.1;omega
     case rel=>
      have hs:=Own.set HU.out.1 kb (.bool true);rw[boolsU_set] at hs;have hcG:Chg [G] wr (wr.setCell ⟨G,kb,none⟩ (.bool true)):=(Chg.refl _ _).setCell (by simp) _;refine⟨i+1,_,by simp,ranges_chg HU.out.2 hcG (by have:=HG.out;simp;omega) (by have:=HG.out;simp;omega),hs,by have:=HI.out.1;omega,HI.out.2.1.trans hcG (fun j hj=>.inr (by have:=HG.out;simp at hj;omega)),fun k=>?_⟩;obtain⟨hil,hkb⟩:=HQ.out.2.1;rw[HI.out.2.2 k,List.take_succ_eq_append_getElem hil,hkb];simp[Bool.or_assoc]
    ·have t0:decide ((i:Int)<(m:Int))=false:=by simp;omega
     have t0':decide (i<m)=false:=by simp;omega
     have HQ:=zH (show i=m by have:=HI.out.1;omega);have HU:=zA hu hrg;clear hu hrg hi;go_wp2_with fail;go_roundg cnt1;case measure=>exact HX.out.2.1
     case rel=>
      refine⟨left',u',HU.out.2,HU.out.1,HI.out.2.1,fun k=>?_⟩;rw[←HLf.out,metB_step HH.out.2.2.1 HS.out.2.2.2.2.1 k,HI.out.2.2 k,HQ.out,List.take_of_length_le (by rw[HS.out.2.2.2.1];exact Nat.le_refl _)];simp[HS.out.2.2.2.2.2 k]
end Go.Proofs.YtlbdklaggalgfaaGreatDoor
namespace Go.Aq
open Go.RowKit
theorem run_appZ0 {P:Program} (w:World) (t tn ty e:TypeId) (i:TypeInfo) (z:Value) (ht:P.underlying t=some (.slice e)) (kn kq:IntKind) (htn:P.underlying tn=some (.int kn)) (hi:P.info? e=some i) (hz:i.zero=some z)
  (ao:Option Addr) (n cap:Nat) (hc:n≤cap):(Builtin.append_ #[t,tn] ty #[.slice ao n cap,.int kq 0]).run P w=.ok (.slice ao n cap) w:=by
 have hw:IntKind.i64.wrap (0:Int)=0:=by rw[IntKind.wrap_i64];omega
 cases ao with
 | none=>simp[Builtin.append_,run_underlying ht,run_underlying htn,sizeOf,typeInfo,zeroValue,hi,hz,asInt,asIntOf,hw,hc]
 | some a=>simp[Builtin.append_,run_underlying ht,run_underlying htn,sizeOf,typeInfo,zeroValue,hi,hz,asInt,asIntOf,hw,hc,storeCells]
theorem wpList_appZ' {P:Program} {w0 W:World} {ops:Array Oper} {rest:List Oper} {o:Oper} {a:Act} {Q:Exit→Act→World→Prop} (hgd:o.guard=none) (s x:Operand) (t tn:TypeId)
  (ho:o.op=.call { callee:=.builtin .append,args:=#[s,x],argTypes:=#[t,tn] }) {e:TypeId} {z:Value} {bytes:Nat} (ht:SliceTy P t e z 1 bytes) (hzc:z.cells=#[z]) (hz1:z.oneCell'=true) {kn kq:IntKind} (htn:P.underlying tn=some (.int kn))
  {ao:Option Addr} {n cap:Nat} {xs:List Value} (hf:Fresh w0 W e 1 (.slice ao n cap) n xs) (hs:a.eval s=.slice ao n cap) {k:Nat} {L:Int} (hx:a.eval x=.int kq L) (hL:L=(k:Int)) (hk:k=0∨0<n)
  (hb:(n+k) * bytes≤140737488355328) (h63:n+k≤9223372036854775807)
  (h:∀v' W',Fresh w0 W' e 1 v' (n+k) (xs++List.replicate k z)→Chg (Value.slice ao n cap).ownBlock.toList W W'→wpList P ops Q rest (a.put o.dst v') W'):wpList P ops Q (o::rest) a W:=by
 by_cases hk0:k=0
 ·subst hk0;obtain⟨ht1,ht2,ht3,ht4⟩:=ht;obtain⟨i,hi,hz0,h1,rfl⟩:=info_parts ht2;subst hL;obtain⟨_,_,he,hnc⟩:=hf.shape;cases he;refine Lib.wpList_append_run W hgd s x t tn ho _ _ hs hx _ W (run_appZ0 (P:=P) W t tn o.type e i z ht1 kn kq htn hi hz0 _ n _ hnc) (h _ W ?_ (Chg.refl _ _));simpa using hf
 ·obtain⟨g,c,he,-⟩:=hf.own.pos (by omega);cases he;exact wpList_appZ hgd s x t tn ho ht hzc hz1 htn hf hs hx hL (by omega) hb h63 fun v' W' h1 h2=>h v' W' h1 (h2.mono fun j hj=>.inl (by simpa[Value.ownBlock] using hj))
theorem Sees.takeG {w:World} {ao:Option Addr} {n cap at_:Nat} {xs:List Value} (h:Sees w 1 (.slice ao n cap) n xs) (ha:at_≤n):Sees w 1 (.slice ao at_ cap) at_ (xs.take at_):=by
 obtain⟨h1,ao',cap',h2,h3,h4,h5⟩:=h;simp only[Value.slice.injEq,true_and] at h2;obtain⟨rfl,rfl⟩:=h2;refine⟨by simp;omega,ao,cap,rfl,by omega,fun e=>⟨by have:=(h4 e).1;omega,(h4 e).2⟩,fun ad had j u hu=>h5 ad had j u ?_⟩;rw[List.getElem?_take] at hu;split at hu;·exact hu
 ·cases hu
theorem Sees.dropG {w:World} {ao:Option Addr} {n cap at_:Nat} {xs:List Value} (h:Sees w 1 (.slice ao n cap) n xs) (ha:at_≤n):Sees w 1 (.slice (if cap=at_ then ao else ao.map (·.add at_)) (n - at_) (cap - at_)) (n - at_) (xs.drop at_):=by
 obtain⟨h1,ao',cap',h2,h3,h4,h5⟩:=h;simp only[Value.slice.injEq,true_and] at h2;obtain⟨rfl,rfl⟩:=h2;refine⟨by simp;omega,_,_,rfl,by omega,fun e=>?_,fun ad had j u hu=>?_⟩
 ·split at e;·have:=h4 e;omega
  ·have:=h4 (by simpa using e);omega
 ·rw[List.getElem?_drop] at hu;have hj:at_+j<xs.length:=(List.getElem?_eq_some_iff.1 hu).1;rw[if_neg (by omega)] at had;cases ao with
  | none=>cases had
  | some a=>
   simp only[Option.map_some,Option.some.injEq] at had;subst had;have:=h5 a rfl (at_+j) u hu;rw[←this];congr 1;unfold Addr.add;by_cases h0:at_=0;·subst h0;simp
   ·by_cases h1:j=0;·subst h1;simp
    ·simp[h0,h1,Nat.add_assoc]
theorem disj_dropG {ao:Option Addr} {n cap k m c c':Nat} {S:List Nat} (h:Disj (eyes (.slice ao m c)) S) (hn:n≤m):Disj (eyes (.slice (if cap=k then ao else ao.map (·.add k)) n c')) S:=by
 cases ao with
 | none=>split <;> simp[eyes,Disj]
 | some a=>
  by_cases h0:n=0;·subst h0;split <;> simp[eyes,Disj]
  ·have e1:eyes (.slice (some a) m c)=[a.block]:=by simp[eyes];omega
   have e2:eyes (.slice (if cap=k then some a else (some a).map (·.add k)) n c')=[a.block]:=by
    split;·simp[eyes,h0]
    ·simp only[Option.map_some,eyes,h0,if_false];unfold Addr.add;split <;> rfl
   rw[e2,←e1];exact h
theorem disj_takeG {ao:Option Addr} {n m c:Nat} {S:List Nat} (h:Disj (eyes (.slice ao m c)) S) (hn:n≤m):Disj (eyes (.slice ao n c)) S:=by
 have:=disj_dropG (cap:=0) (k:=0) (c':=c) h hn;simpa using this
end Go.Aq
