/- Files in memory: the table's bytes. No statement of the seat is proved here. -/
import Derived.Test.YtlbdklaggalgfaaGreatDoorG21
import Derived.Lib.AppendStr
set_option linter.unusedSimpArgs false
set_option linter.unusedVariables false
set_option maxHeartbeats 4000000
namespace Go.Aq
open Go.RowKit
theorem strCells_str (l:List UInt8):Lib.strCells (str l)=Bs l:=by simp[Lib.strCells,str,Bs,Bc]
theorem wpList_appStrF {P:Program} {w0 W:World} {ops:Array Oper} {rest:List Oper} {o:Oper} {a:Act} {Q:Exit→Act→World→Prop} (hgd:o.guard=none) (s x:Operand) (t u:TypeId)
  (ho:o.op=.call { callee:=.builtin .append,args:=#[s,x],argTypes:=#[t,u] }) {e:TypeId} (ht:SliceTy P t e (.int .u8 0) 1 1) (hu:P.underlying u=some .string)
  {v:Value} {n:Nat} {xs:List Value} (hf:Fresh w0 W e 1 v n xs) (hs:a.eval s=v) (l:List UInt8) (hx:a.eval x=.string (str l)) (hb:n+l.length≤140737488355328)
  (h:∀v' W',Fresh w0 W' e 1 v' (n+l.length) (xs++Bs l)→Chg v.ownBlock.toList W W'→wpList P ops Q rest (a.put o.dst v') W'):wpList P ops Q (o::rest) a W:=by
 obtain⟨ht1,ht2,ht3,ht4⟩:=ht;obtain⟨i,hi,hz0,hz1,hby⟩:=info_parts ht2;have hown:W.ownsRow w0.heap.size e 1 v n xs:=by
  obtain⟨h1,h2⟩:=hf.own;refine⟨h1,?_⟩;rcases h2 with h2 | ⟨g,cap,cs,h3,h4,h5⟩
  ·exact .inl h2
  ·exact .inr ⟨g,cap,cs,h3,hf.new g (by simp[h3,Value.ownBlock]),h5⟩
 refine Lib.wpList_append_own_string W hgd s x t u ho w0.heap.size e i ht1 hu hi hz0 hz1 hby v n xs hs hown (str l) hx (by rw[str_size];unfold maxLen;omega) (by rw[str_size];exact hb) hf.chg.size ?_;intro v' W' h1 h2 h3;rw[str_size,strCells_str] at h1;obtain⟨k1,k2⟩:=h1;refine h v' W' ⟨⟨k1,?_⟩,hf.chg.trans (Chg.of_grown h2) (fun i hi=>.inr (hf.new i hi)),?_⟩ (Chg.of_grown h2)
 ·rcases k2 with k2 | ⟨g,cap,cs,k3,k4,k5⟩
  ·exact .inl k2
  ·exact .inr ⟨g,cap,cs,k3,Nat.zero_le _,k5⟩
 ·intro k hk;rcases k2 with ⟨k2,-⟩ | ⟨g,cap,cs,k3,k4,k5⟩
  ·rw[k2] at hk;simp[Value.ownBlock] at hk
  ·rw[k3] at hk;simp[Value.ownBlock] at hk;omega
theorem Fresh.push {w wr w':World} {e:TypeId} {v:Value} {n g cap:Nat} {xs:List Value} {u:Value} (h:Fresh w wr e 1 v n xs) (ho:Own w' e 1 (.slice (some ⟨g,0,none⟩) (n+1) cap) (n+1) (xs++[u])) (hc:Chg v.ownBlock.toList wr w') (hg:g∈v.ownBlock.toList∨wr.heap.size≤g):
  Fresh w w' e 1 (.slice (some ⟨g,0,none⟩) (n+1) cap) (n+1) (xs++[u]):=
 h.app ho hc (fun k hk=>by simp[Value.ownBlock] at hk;subst hk;exact hg)
theorem Own.ne2 {w:World} {e e':TypeId} {s s':Nat} {v v':Value} {n n':Nat} {xs xs':List Value} (h:Own w e s v n xs) (h':Own w e' s' v' n' xs') (hne:e≠e'):Disj v.ownBlock.toList v'.ownBlock.toList:=fun k hk hk'=>by
 rcases h.2 with ⟨rfl,_⟩ | ⟨g,cap,cur,rfl,_,h2,_⟩
 ·simp[Value.ownBlock] at hk
 ·rcases h'.2 with ⟨rfl,_⟩ | ⟨g',cap',cur',rfl,_,h2',_⟩
  ·simp[Value.ownBlock] at hk'
  ·simp[Value.ownBlock] at hk hk';subst hk hk';rw[h2] at h2';simp only[Option.some.injEq,Obj.cells.injEq] at h2';exact hne h2'.2.1
end Go.Aq
namespace Go.Aq.Fy
open Go.Aq
def tabB (L:Files) (i:Nat):Sec:=beB L.length 2++(L.take i).flatMap rowB
theorem tabB_all (L:Files):tabB L L.length=tableB L:=by unfold tabB tableB;rw[List.take_length]
theorem tabB_succ (L:Files) (i:Nat) (h:i<L.length):tabB L (i+1)=tabB L i++rowB (L[i]'h):=by
 unfold tabB;rw[List.take_succ_eq_append_getElem h,List.flatMap_append,←List.append_assoc];simp
theorem bes_len (ks:List Nat):(ks.flatMap fun k=>beB k 2).length=ks.length * 2:=by
 induction ks with
 | nil=>rfl
 | cons k ks ih=>rw[List.flatMap_cons,List.length_append,beB_length,ih,List.length_cons];omega
theorem row_len (p:Nm×FileD):(rowB p).length=5+p.1.length+p.2.blocks.length * 2:=by
 unfold rowB;simp only[List.length_cons,List.length_append,beB_length,bes_len];omega
theorem tabB_bound {L:Files} (h:∀p∈L,p.1.length≤255∧p.2.blocks.length≤4096):∀i,i≤L.length→(tabB L i).length≤2+i * 9000
 | 0,_=>by simp[tabB,beB_length]
 | i+1,hi=>by
  have h1:=tabB_bound h i (by omega);have h2:=h _ (List.getElem_mem (show i<L.length by omega));rw[tabB_succ L i (by omega),List.length_append,row_len];omega
end Go.Aq.Fy
namespace Go.Proofs.YtlbdklaggalgfaaGreatDoor
open Go.RowKit Go.Aq Go.Aq.Fy Go.Maps
theorem lin2 {a q j m:Nat} (h:a=q+2 * j) (h1:q≤4001000) (h2:j<m) (h3:m≤4096):a≤5000000:=by omega
theorem lin4 {j k m:Nat} (h:j+k=m) (hj:j<m):j+1+(k - 1)=m∧k - 1<k:=by omega
theorem lin3 {a:Nat} (h:a≤5000000):(a+2) * 1≤140737488355328∧a+2≤9223372036854775807:=by omega
set_option maxRecDepth 100000 in
theorem table_ok (w:World) (S:List Nat) (b:Nat) (L:Files) (h:FilesR w S b L) (hn:L.length≤400) (hL:∀p∈L,p.1.length≤255∧p.2.blocks.length≤4096) (hz:∀p∈L,p.2.size<4294967296∧∀k∈p.2.blocks,k<65536):
  Calls Tryz.prog 114 #[.map (some b)] w fun e w'=>∃v,e=.returned v∧Fresh w w' 5 1 v (tableB L).length (Bs (tableB L)):=by
 have ll:=h.len 3;have hnm:=fun w' (c:Chg [] w w')=>names_ok w' S b L (h.chg0 c) (by omega)
 have hbd:=tabB_bound hL;have hasc:=h.asc';obtain⟨N,hN⟩:∃N,L.length=N:=⟨_,rfl⟩;have hb1:=fun w=>bigF w N 2 (N:Int) rfl (by decide) (by decide) (by omega)
 obtain⟨fl,hM,hT2⟩:=h;have HH:=zG hM (show N≤400 by omega) hL hz hbd hasc hN hT2;rw[hN] at ll hnm;clear hM hT2 hn hL hz hbd hasc hN;go_enter Tryz.func114,Tryz.ntmps114;go_wp2_with fail;refine (hb1 _).mono ?_;rintro e w1 ⟨g1,rfl,hF1⟩;clear ll hb1;have hnm1:=hnm w1 hF1.chg;go_wp2_with fail;refine hnm1.mono ?_;rintro e w2 ⟨v4,rfl,hF4⟩;obtain⟨a4,q4,rfl,-⟩:=hF4.shape;have H0:=zH (And.intro (show Fresh w w2 5 1 (.slice (some ⟨g1,0,none⟩) 2 2) (tabB L 0).length (Bs (tabB L 0)) by
  have h1:=hF1.to hF4.chg;have h2:tabB L 0=beB N 2:=by unfold tabB;rw[HH.out.2.2.2.2.2.2.1];simp
  rw[h2,beB_length];exact h1) hF4.own)
 clear hnm1 hnm hF1 hF4;go_wp2_with fail;go_loopg [3,5,6,8,15] N (fun k (v3 v5 v6 v8 v15:Value) wr=>∃i:Nat,v15=.int .i64 i∧Hid (i+k=N∧Fresh w wr 5 1 v3 (tabB L i).length (Bs (tabB L i))∧Own wr 9 1 (.slice a4 N q4) N (names (L.map (·.1)))));case atStart=>exact⟨0,rfl,Nat.zero_add _,H0.out.1,H0.out.2⟩
 case round=>
  obtain⟨i,rfl,HI⟩:=hrel;obtain⟨gk0,hgk0⟩:∃g,g=gk:=⟨_,rfl⟩;obtain⟨wN,hwN⟩:∃g,g=wr:=⟨_,rfl⟩;subst hgk0 hwN;by_cases hi:i<N
  ·have t0:decide ((i:Int)<(N:Int))=true:=by simp;omega
   have t0':decide (i<N)=true:=by simp;omega
   obtain⟨hik,hF3,hO4⟩:=HI.out;have hil:i<L.length:=by rw[HH.out.2.2.2.2.2.2.1];exact hi
   obtain⟨g4,o4,c4,e,-,hcell⟩:=hO4.sees.at1 (by omega);cases e;obtain⟨s,hs⟩:∃s,(L[i]'hil).1=s:=⟨_,rfl⟩;obtain⟨x,hx⟩:∃x,(L[i]'hil).2=x:=⟨_,rfl⟩;have hmem:(s,x)∈L:=by rw[←hs,←hx];exact List.getElem_mem hil
   have hLi:L[i]'hil=(s,x):=by rw[←hs,←hx]
   have z0:=hcell i hi;rw[show (names (L.map (·.1)))[i]?=some (.string (str s)) by simp[names,hil,hs]] at z0;obtain⟨hsl,hxb⟩:=HH.out.2.2.1 _ hmem;obtain⟨hsz,hxk⟩:=HH.out.2.2.2.1 _ hmem;simp only at hsl hxb hsz hxk;have l1:=((HH.out.1.chg0 hF3.chg).look keyS Tryz.underlying93 (zeroFile wN) s (by omega)).1;obtain⟨y,hy,vv,rfl,hV,-⟩:∃y,lookK s fl=some y∧FileV w S x y:=by
    rcases HH.out.2.2.2.2.2.2.2.look s with ⟨e1,e2⟩ | ⟨x',y,e1,e2,h3⟩
    ·rw[look_of_mem HH.out.2.2.2.2.2.1 hmem] at e1;cases e1
    ·rw[look_of_mem HH.out.2.2.2.2.2.1 hmem] at e1;cases e1;exact⟨y,e2,h3⟩
   obtain⟨ao,cap,rfl,-⟩:=hV.shape;rw[hy] at l1;simp only[Option.getD_some] at l1;obtain⟨n,hn⟩:∃n,x.size=n:=⟨_,rfl⟩;obtain⟨m,hm⟩:∃m,x.blocks.length=m:=⟨_,rfl⟩;rw[hn] at l1 hsz;rw[hm] at l1 hV hxb;have hT:=HH.out.2.2.2.2.1 i (by omega);obtain⟨T,hTT⟩:∃T,tabB L i=T:=⟨_,rfl⟩;obtain⟨q,hq⟩:∃q,T.length=q:=⟨_,rfl⟩;rw[hTT,hq] at hF3;rw[hTT,hq] at hT;have hq4:q≤4000000:=by have:=HH.out.2.1;omega
   obtain⟨a3,q3,rfl,-⟩:=hF3.shape;have e5:IntKind.u8.wrap (s.length:Int)=(s.length:Int):=by rw[IntKind.wrap_u8];omega
   have hb4:=fun w=>bigF w n 4 (n:Int) rfl (by decide) (by decide) (show n<2^(8 * 4) from by have h9:n<4294967296:=(by omega);exact h9)
   have e2:wrap64 ((i:Int)+1)=((i+1:Nat):Int):=by unfold wrap64;have:=HH.out.2.1;omega
   have e2w:=wIq e2;have hssz:=str_size s;obtain⟨sl,hsl'⟩:∃sl,s.length=sl:=⟨_,rfl⟩;rw[hsl'] at e5 hssz hsl;have HR:=zH (And.intro hi (And.intro hik (And.intro (show ∃h:i<L.length,L[i]'h=(s,x) from ⟨hil,hLi⟩) (And.intro hn (And.intro hm (And.intro hV (And.intro hTT (And.intro hq (And.intro hxk (And.intro hsl' hxb))))))))));clear hik hLi hn hm hV hTT hq hxk hil hcell hs hx hmem hxb hsz hT hy;go_upto_region 6 with (fail);obtain⟨wb,hwb⟩:∃wb,wN.alloc (Obj.cells #[.int .i64 n,.slice ao m cap] 103)=wb:=⟨_,rfl⟩;obtain⟨K,hK⟩:∃K,wN.heap.size=K:=⟨_,rfl⟩;have hbx:Blk wb K #[.int .i64 n,.slice ao m cap] 103:=by rw[←hwb,←hK];exact Blk.new _ _ _
   have kb:Chg [] wN wb:=by rw[←hwb];exact (Chg.refl [] wN).alloc _
   have hF3b:=hF3.to kb;have hO4b:=hO4.chg kb (fun _ _=>by simp);rw[hwb,hK];clear hwb hK kb hF3 hO4 hi;go_wp2_with (first
    | (at_builtin;refine wpList_appStrF rfl _ _ 38 9 rfl sl_u8y Tryz.underlying9 hF5 rfl s rfl (by omega) ?_;intro v6 w6 hF6 c6;rw[hsl'] at hF6;obtain⟨a6,q6,rfl,-⟩:=hF6.shape;have hb6:=hb5.chg c6 (hF5.own.ne hb5 (by decide));have hO6:=hO5.chg c6 (hO5.ne2 hF5.own (by decide));obtain⟨⟨x0,x1⟩,-⟩:=hb6.c2)
    | (at_builtin;refine wpList_push rfl _ _ 38 rfl sl_u8y hF3b.own rfl rfl rfl (by omega) (by omega) ?_;intro g5 cp5 w5 ho5 hc5 hg5 hcp5 hgl5;have hF5:=hF3b.push ho5 hc5 hg5;have hb5:=hbx.chg hc5 (hF3b.own.ne hbx (by decide));have hO5:=hO4b.chg hc5 (hO4b.ne2 hF3b.own (by decide)))
    | fail)
   refine (hb4 _).mono ?_;rintro e w7 ⟨g7,rfl,hF7⟩;have hb7:=hb6.chg0 hF7.chg;have hF67:=hF6.to hF7.chg;have hO7:=hO6.chg hF7.chg (fun _ _=>by simp);clear hb4 x0 x1 hF3b hF5 hbx hb5 hO4b hO5 ho5 hc5 hg5 hcp5 hgl5 c6 hF6 hb6 hO6;go_wp2_with (first
    | (at_builtin;refine wpList_appF rfl _ _ 38 rfl sl_u8y hF67 rfl hF7.own.sees rfl (Bs_one _) (by omega) (by omega) ?_;intro v8 w8 hF8 c8;obtain⟨a8,q8,rfl,-⟩:=hF8.shape;have hb8:=hb7.chg c8 (hF67.own.ne hb7 (by decide));have hO8:=hO7.chg c8 (hO7.ne2 hF67.own (by decide));obtain⟨⟨x0,x1⟩,-⟩:=hb8.c2)
    | fail)
   obtain⟨q0,hq0⟩:∃q0,q+1+sl+4=q0:=⟨_,rfl⟩;obtain⟨T0,hT0⟩:∃T0,T++(UInt8.ofNat sl::s)++beB n 4=T0:=⟨_,rfl⟩;have hF80:Fresh w w8 5 1 (.slice a8 q0 q8) (q0+2 * 0) (Bs (T0++(x.blocks.take 0).flatMap fun k=>beB k 2)):=by
    rw[hq0] at hF8;have e7:Bs T++[Value.int IntKind.u8 (sl:Int)]++Bs s++Bs (beB n 4)=Bs T0:=by
     have h9:(UInt8.ofNat sl).toNat=sl:=by simp;omega
     rw[←hT0];simp only[Bs,List.map_append,List.map_cons,Bc,h9,List.append_assoc,List.cons_append,List.nil_append]
    rw[e7] at hF8;simpa using hF8
   rw[hq0];have HZ:=zC hF80 hO8 hq0 hT0;clear hF80 hO8 hq0 hT0 hF8 c8 hb8 x0 x1 hb7 hF67 hO7 hF7;go_loopg [3,8,38] m (fun k (v3 v8 v38:Value) wy=>∃(j qj:Nat),v38=.int .i64 j∧Hid (j+k=m∧qj=q0+2 * j∧Fresh w wy 5 1 v3 qj (Bs (T0++(x.blocks.take j).flatMap fun k=>beB k 2))∧Own wy 9 1 (.slice (some ⟨g4,o4,none⟩) N q4) N (names (L.map (·.1)))));case atStart=>exact⟨0,q0+2 * 0,rfl,Nat.zero_add _,rfl,HZ.out.1,HZ.out.2.1⟩
   case round=>
    obtain⟨j,qj,rfl,HJ⟩:=hrel;by_cases hj:j<m
    ·have t1:decide ((j:Int)<(m:Int))=true:=by simp;omega
     have t1':decide (j<m)=true:=by simp;omega
     obtain⟨hjk,hqj,hF3,hO4⟩:=HJ.out;obtain⟨gx,ox,cx,e,-,hcx⟩:=(HR.out.2.2.2.2.2.1.chg0 hF3.chg).at1 (by omega);cases e;have hjl:j<x.blocks.length:=by rw[HR.out.2.2.2.2.1];exact hj
     obtain⟨kb,hkb⟩:∃kb,x.blocks[j]'hjl=kb:=⟨_,rfl⟩;have z0:=hcx j hj;rw[show (ints x.blocks)[j]?=some (.int .i64 (kb:Int)) by simp[ints,hjl,hkb]] at z0;have hkb2:=HR.out.2.2.2.2.2.2.2.2.1 kb (by rw[←hkb];exact List.getElem_mem hjl);have hb2:=fun w=>bigF w kb 2 (kb:Int) rfl (by decide) (by decide) (show kb<2^(8 * 2) from hkb2)
     obtain⟨a3',q3',rfl,-⟩:=hF3.shape;have e9:wrap64 ((j:Int)+1)=((j+1:Nat):Int):=by unfold wrap64;have:=HR.out.2.2.2.2.2.2.2.2.2.2;omega
     have e9w:=wIq e9;have hq8:q0≤4001000:=by have:=HZ.out.2.2.1;omega
     have hm9:=HR.out.2.2.2.2.2.2.2.2.2.2;have hqb:=lin3 (lin2 hqj hq8 hj hm9);have HQ:=zA (And.intro (lin4 hjk hj) hqj) (show ∃h:j<x.blocks.length,x.blocks[j]'h=kb from ⟨hjl,hkb⟩);clear hjk hqj hcx hjl hkb hkb2 hq8 hm9;go_wp2_with fail;refine (hb2 _).mono ?_;rintro e w3 ⟨g3,rfl,hFg⟩;have hF33:=hF3.to hFg.chg;have hO43:=hO4.chg hFg.chg (fun _ _=>by simp);clear hb2 z0 hF3 hO4;go_wp2_with (first
      | (at_builtin;refine wpList_appF rfl _ _ 38 rfl sl_u8y hF33 rfl hFg.own.sees rfl (Bs_one _) hqb.1 hqb.2 ?_;intro v5 w5 hF5 c5;have hO5:=hO43.chg c5 (hO43.ne2 hF33.own (by decide)))
      | fail)
     go_roundg (gk - 1);case measure=>exact HQ.out.1.1.2
     case rel=>
      refine⟨j+1,qj+2,by simp,HQ.out.1.1.1,by rw[HQ.out.1.2,Nat.mul_add,Nat.add_assoc],?_,hO5⟩;obtain⟨hjl,hkb⟩:=HQ.out.2;rw[List.take_succ_eq_append_getElem hjl,hkb,List.flatMap_append,←List.append_assoc,Bs_app];simpa using hF5
    ·have t1:decide ((j:Int)<(m:Int))=false:=by simp;omega
     have t1':decide (j<m)=false:=by simp;omega
     have hjm:j=m:=by have:=HJ.out.1;omega
     have HQ:=zH hjm;clear hjm hj;go_wp2_with fail;go_roundg (gk0 - 1);case measure=>have h1:=HR.out.1;have h2:=HR.out.2.1;omega
     case rel=>
      obtain⟨hil,hLi⟩:=HR.out.2.2.1;have e8:tabB L (i+1)=T0++(x.blocks.take j).flatMap fun k=>beB k 2:=by
       rw[tabB_succ L i hil,hLi,HR.out.2.2.2.2.2.2.1,HQ.out,List.take_of_length_le (by rw[HR.out.2.2.2.2.1];exact Nat.le_refl _),←HZ.out.2.2.2];unfold rowB;rw[HR.out.2.2.2.1,HR.out.2.2.2.2.2.2.2.2.2.1];simp[List.append_assoc]
      have e9:(tabB L (i+1)).length=qj:=by have:=HJ.out.2.2.1.own.len;rw[←e8,Bs_length] at this;omega
      refine⟨i+1,by simp,by have h1:=HR.out.1;have h2:=HR.out.2.1;omega,?_,HJ.out.2.2.2⟩;rw[e9,e8];exact HJ.out.2.2.1
  ·have t0:decide ((i:Int)<(N:Int))=false:=by simp;omega
   have t0':decide (i<N)=false:=by simp;omega
   have hiN:i=N:=by have:=HI.out.1;omega
   have HQ:=zH hiN;clear hiN hi;go_wp2_with fail;go_ret;have h1:=HI.out.2.1;rw[HQ.out,←HH.out.2.2.2.2.2.2.1,tabB_all] at h1;exact⟨_,rfl,h1⟩
end Go.Proofs.YtlbdklaggalgfaaGreatDoor
