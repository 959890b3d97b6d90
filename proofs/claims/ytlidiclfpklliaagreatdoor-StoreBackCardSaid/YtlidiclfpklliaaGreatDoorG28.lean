/- ObK ObH ObI ObJ ObL ObM -/
import Derived.Test.YtlidiclfpklliaaGreatDoorG27
set_option linter.unusedSimpArgs false
set_option linter.unusedVariables false
set_option maxHeartbeats 8000000
namespace Go.Aq
open Go.RowKit Go.Aq.Fy
theorem run_appS {P:Program} (w:World) (t u ty e:TypeId) (i:TypeInfo) (ht:P.underlying t=some (.slice e)) (hu:P.underlying u=some .string) (hi:P.info? e=some i) (hz:i.zero=some (.int .u8 0)) (hsize:i.size=1) (hby:i.bytes=1)
  (v:Value) (n:Nat) (xs:List Value) (hown:Own w e 1 v n xs) (s:List UInt8) (hb:n+s.length≤140737488355328):
  ∃v' w',(Builtin.append_ #[t,u] ty #[v,.string (str s)]).run P w=.ok v' w'∧Own w' e 1 v' (n+s.length) (xs++Bs s)∧Chg v.ownBlock.toList w w'∧(∀k∈v'.ownBlock.toList,k∈v.ownBlock.toList∨w.heap.size≤k):=by
 have hsz:=str_size s
 obtain⟨v',w',hr,h2,h3,h4⟩:=Lib.run_append_own_string w 0 t u ty e i ht hu hi hz hsize hby v n xs hown (str s) (by rw[hsz];unfold maxLen;omega) (by rw[hsz];exact hb) (Nat.zero_le _)
 rw[hsz,strCells_str] at h2
 refine⟨v',w',hr,h2,Chg.of_grown h3,?_⟩
 have hxl:xs.length=n:=by simpa using hown.1
 rcases hown.2 with ⟨rfl,rfl⟩ | ⟨g,cap,cur,rfl,hbg,hg,hnc,hcm,hcs,htake⟩
 ·have hx:xs=[]:=List.eq_nil_of_length_eq_zero hxl
  subst hx
  obtain⟨v2,w2,hr2,k2,k3,-⟩:=Lib.run_append_own_string w w.heap.size t u ty e i ht hu hi hz hsize hby (.slice none 0 0) 0 [] (World.ownsRow_nil w _ _ _) (str s) (by rw[hsz];unfold maxLen;omega) (by rw[hsz];exact hb) (Nat.le_refl _)
  rw[hr] at hr2
  injection hr2 with e1 e2
  subst e1 e2
  intro k hk
  right
  rcases k2.2 with ⟨rfl,-⟩ | ⟨g,cap,cs,rfl,k4,-⟩
  ·simp[Value.ownBlock] at hk
  ·simp[Value.ownBlock] at hk;omega
 ·by_cases hroom:n+(str s).size≤cap
  ·have hcs':cur.size=cap:=by simpa using hcs
   have hr2:=Lib.run_append_room_string (P:=P) w t u ty e i ht hu hi hsize g n cap cur hg (str s) hroom (by omega)
   rw[hr] at hr2
   injection hr2 with e1 e2
   subst e1
   intro k hk
   exact .inl hk
  ·have holds:∀j u,xs[j]?=some u→w.cell? ((⟨g,0,none⟩:Addr).add j)=some u:=World.ownsRow.cells hown (g:=g) rfl
   have hr2:=Lib.run_append_grow_string (P:=P) w t u ty e i (.int .u8 0) ht hu hi hz ⟨g,0,none⟩ n cap xs (by rw[hsize];simpa using hxl) holds (str s) (by omega) (by rw[hsz];omega) (by rw[hby];exact growslice_fits (by omega) (by rw[hsz];omega))
   rw[hr] at hr2
   injection hr2 with e1 e2
   subst e1
   intro k hk
   right
   simp[Value.ownBlock] at hk
   omega
theorem wpList_appS {P:Program} {W:World} {ops:Array Oper} {rest:List Oper} {o:Oper} {a:Act} {Q:Exit→Act→World→Prop} (hgd:o.guard=none) (s x:Operand) (t u:TypeId)
  (ho:o.op=.call { callee:=.builtin .append,args:=#[s,x],argTypes:=#[t,u] }) {e:TypeId} (ht:SliceTy P t e (.int .u8 0) 1 1) (hu:P.underlying u=some .string)
  {v:Value} {n:Nat} {xs:List Value} (hown:Own W e 1 v n xs) (hs:a.eval s=v) (l:List UInt8) (hx:a.eval x=.string (str l)) (hb:n+l.length≤140737488355328)
  (h:∀v' W',Own W' e 1 v' (n+l.length) (xs++Bs l)→Chg v.ownBlock.toList W W'→(∀k∈v'.ownBlock.toList,k∈v.ownBlock.toList∨W.heap.size≤k)→wpList P ops Q rest (a.put o.dst v') W'):wpList P ops Q (o::rest) a W:=by
 obtain⟨ht1,ht2,ht3,ht4⟩:=ht
 obtain⟨i,hi,hz0,hz1,hby⟩:=info_parts ht2
 refine wpList_plain hgd fun _ hK=>?_
 obtain⟨v',w',hr,h2,h3,h4⟩:=run_appS (P:=P) W t u o.type e i ht1 hu hi hz0 hz1 hby v n xs hown l hb
 unfold Oper.wp execOp
 simp only[ho,resolve,invoke,builtin,Sem.run_bind,Sem.run_pure,Result.andThen_ok,List.map_toArray,List.map_cons,List.map_nil,hs,hx,hr]
 exact hK _ _ (h v' w' h2 h3 h4)
end Go.Aq
namespace Go.Proofs.YtlidiclfpklliaaGreatDoor
section
open Go.RowKit Go.Aq Go.Aq.Fy
def OwnB (w:World) (v:Value) (b:List UInt8):Prop:=Aq.Own w 5 1 v b.length (Bs b)
def UpdV (w w':World) (v v':Value):Prop:=Upd v.ownBlock.toList v'.ownBlock.toList w w'
theorem OwnB.shape {w:World} {v:Value} {b:List UInt8} (h:OwnB w v b):∃ao cap,v=.slice ao b.length cap:=by
 obtain⟨ao,cap,h1,-,-⟩:=(Aq.Own.sees h).shape
 exact⟨ao,cap,h1⟩
theorem OwnB.app {w:World} {v:Value} {a b:List UInt8} {n:Nat} (h:Aq.Own w 5 1 v (a.length+n) (Bs a++Bs b)) (hn:b.length=n):OwnB w v (a++b):=by
 unfold OwnB
 rw[List.length_append,hn,show Bs (a++b)=Bs a++Bs b by simp[Bs]]
 exact h
theorem onumU (w:World) (v:Value) (b:List UInt8) (n wd:Nat) (h:OwnB w v b) (hb:b.length≤1000000000) (h1:1≤wd) (h6:wd≤6) (hn:n<2^(8 * wd)):
  Calls Tryz.prog 376 #[v,.int .i64 n,.int .i64 wd] w fun e w'=>∃v',e=.returned v'∧OwnB w' v' (b++beB n wd)∧UpdV w w' v v':=by
 have hg:=big_ok w n wd h1 h6 hn sl_u8
 have hl:(beB n wd).length=wd:=by unfold beB;rw[List.length_reverse,leB_length]
 obtain⟨ao,cap,rfl⟩:=h.shape
 have HH:=zC h hb hl h6
 clear h hb hl h1 h6 hn
 go_enter Tryz.func376,Tryz.ntmps376
 go_wp2_with fail
 refine hg.mono ?_
 rintro e w1 ⟨g,rfl,ho,c1,hgn⟩
 have hf:Aq.Own w1 5 1 (.slice ao b.length cap) b.length (Bs b):=Aq.Own.chg HH.out.1 c1 (fun _ _=>by simp)
 have hsrc:=ho.sees
 have HC:=zH c1
 have h1s:=one_Bs (beB n wd)
 clear hg c1 hgn ho
 go_wp2_with (first
  | (at_builtin;refine wpList_app rfl _ _ 36 rfl sl_u8 hf rfl hsrc rfl h1s (by have:=HH.out.2.1;have:=HH.out.2.2.2;omega) (by have:=HH.out.2.1;have:=HH.out.2.2.2;omega) ?_;intro v2 w2 ho2 c2 n2)
  | fail)
 obtain⟨ao2,cap2,rfl,-⟩:=ho2.sees.shape
 go_wp2_with fail
 go_ret
 refine⟨_,rfl,OwnB.app ho2 HH.out.2.2.1,HC.out.toS.tr c2,fun k hk=>?_⟩
 rcases n2 k hk with h | h
 ·exact .inl h
 ·exact .inr (Nat.le_trans HC.out.size h)
set_option maxRecDepth 100000 in
theorem okeysU (w:World) (v:Value) (b:List UInt8) (h:OwnB w v b) (hb:b.length≤1000000000) (l:List (List UInt8)) (x:Value) (n:Nat) (hn:l.length=n) (hx:Sees w 1 x n (names l)) (hd:Disj (eyes x) v.ownBlock.toList) (hl:validAll l=true) (hn2:n≤100000):
  Calls Tryz.prog 377 #[v,x] w fun e w'=>∃v',e=.returned v'∧OwnB w' v' (b++rawKs l)∧UpdV w w' v v':=by
 obtain⟨ao,cap,rfl⟩:=h.shape
 obtain⟨xo,xc,rfl,-⟩:=hx.shape
 have HV:=zF h hb hx hn hl hn2 hd
 clear h hb hn hx hl hn2 hd
 go_enter Tryz.func377,Tryz.ntmps377
 go_wp2_with fail
 go_loopg [0,11] n (fun k (v0 vi:Value) wr=>∃(i:Nat),vi=.int .i64 i∧Hid (k=n - i∧i≤n∧OwnB wr v0 (b++rawKs (l.take i))∧(b++rawKs (l.take i)).length≤1000000000+64 * i∧UpdV w wr (.slice ao b.length cap) v0))
 case atStart=>exact⟨0,rfl,by omega,by omega,by simpa[rawKs] using HV.out.1,by simp[rawKs];exact HV.out.2.1,Upd.refl _ _⟩
 case round=>
  obtain⟨i,rfl,HJ⟩:=hrel
  obtain⟨hk,hi,hF,hle,hU⟩:=HJ.out
  obtain⟨a0,q0,rfl⟩:=hF.shape
  by_cases him:i<n
  ·have t1:decide ((i:Int)<(n:Int))=true:=decide_eq_true (by omega)
   have him':i<l.length:=by rw[HV.out.2.2.2.1];exact him
   have hxr:Sees wr 1 (.slice xo n xc) n (names l):=HV.out.2.2.1.chg hU.chg HV.out.2.2.2.2.2.2
   obtain⟨g',off',cap',e1,hle',-,hxc⟩:=hxr.cells (by omega)
   injection e1 with e1 _ e2
   subst e1 e2
   have y0:=hxc i (by omega)
   obtain⟨ki,hki⟩:∃ki,l[i]?=some ki:=⟨_,List.getElem?_eq_getElem him'⟩
   have ex:(names l)[i]?=some (.string (str ki)):=by unfold names;rw[List.getElem?_map,hki];rfl
   rw[ex] at y0
   have hvk:validB ki=true:=by
    have h1:=HV.out.2.2.2.2.1
    unfold validAll at h1
    rw[List.all_eq_true] at h1
    exact h1 _ (List.mem_of_getElem? hki)
   obtain⟨r1,r2,r3⟩:=rawK_valid hvk
   have hkl:ki.length≤1000000:=by rw[←r3,hexL_length];omega
   have hun:=unhex_any wr ki hkl
   have hwi:Hid (wrap64 ((i:Int)+1)=(i:Int)+1):=by have:=HV.out.2.2.2.2.2.1;show _=_;unfold wrap64;omega
   generalize hacc:b++rawKs (l.take i)=acc at *
   have HC:=zC hki r1 r2 hacc
   clear hacc hxc ex him' hki hvk r1 r2 r3 hxr hkl hk hi hle hF hle' hU
   go_wp2_with fail
   refine hun.mono ?_
   intro e w1 hu
   rcases hu with ⟨bs,v1,hbs,rfl,hf1⟩ | ⟨hno,-⟩
   ·have ebs:bs=rawK ki:=by have:=HC.out.2.1;rw[hbs] at this;exact Option.some.inj this
    subst ebs
    have hF1:Aq.Own w1 5 1 (.slice a0 acc.length q0) acc.length (Bs acc):=Aq.Own.chg HJ.out.2.2.1 hf1.chg (fun _ _=>by simp)
    have hsrc:=hf1.own.sees
    have h1s:=one_Bs (rawK ki)
    have HC1:=zH hf1.chg
    clear hf1 hun y0 hbs
    go_wp2_with (first
     | (at_builtin;refine wpList_app rfl _ _ 36 rfl sl_u8 hF1 rfl hsrc rfl h1s (by have:=HJ.out.2.2.2.1;have:=HJ.out.2.1;have:=HV.out.2.2.2.2.2.1;have:=HC.out.2.2.1;omega) (by have:=HJ.out.2.2.2.1;have:=HJ.out.2.1;have:=HV.out.2.2.2.2.2.1;have:=HC.out.2.2.1;omega) ?_;intro v2 w2 ho2 c2 n2)
     | fail)
    obtain⟨ao2,cap2,rfl,-⟩:=ho2.sees.shape
    have HF2:=zB ho2 c2 n2
    clear ho2 c2 n2 hF1 hsrc h1s
    go_wp2_with fail
    go_roundg (gk - 1)
    case measure=>have:=HJ.out.1;omega
    case rel=>
     have hi1:i+1≤n:=him
     have et:b++rawKs (l.take (i+1))=acc++rawK ki:=by rw[rawKs_take HC.out.1,←List.append_assoc,HC.out.2.2.2]
     refine⟨i+1,by rw[hwi.out];rfl,by have:=HJ.out.1;omega,hi1,?_,?_,?_⟩
     ·rw[et]
      exact OwnB.app HF2.out.1 rfl
     ·rw[et,List.length_append,HC.out.2.2.1]
      have:=HJ.out.2.2.2.1
      omega
     ·exact (HJ.out.2.2.2.2.nil HC1.out).trans ⟨HF2.out.2.1,HF2.out.2.2⟩
   ·rw[HC.out.2.1] at hno
    cases hno
  ·have t1:decide ((i:Int)<(n:Int))=false:=decide_eq_false (by omega)
   have HC:=zB hF hi hU
   clear hF hi hk hle HJ hU
   go_wp2_with fail
   go_ret
   refine⟨_,rfl,?_⟩
   have e:l.take i=l:=List.take_of_length_le (by have:=HC.out.2.1;have:=HV.out.2.2.2.1;omega)
   have h:=HC.out.1
   have h3:=HC.out.2.2
   rw[e] at h h3
   rw[e]
   exact⟨h,h3⟩
theorem otextU (w:World) (v:Value) (b:List UInt8) (h:OwnB w v b) (hb:b.length≤1000000000) (s:List UInt8) (hs:s.length<65536):
  Calls Tryz.prog 386 #[v,.string (str s)] w fun e w'=>∃v',e=.returned v'∧OwnB w' v' (b++(beB s.length 2++s))∧UpdV w w' v v':=by
 have hn:=onumU w v b s.length 2 h hb (by decide) (by decide) (by omega)
 obtain⟨ao,cap,rfl⟩:=h.shape
 have hsz:=str_size s
 have HH:=zA hb hs
 clear h hb hs
 go_enter Tryz.func386,Tryz.ntmps386
 go_wp2_with fail
 refine hn.mono ?_
 rintro e w1 ⟨v1,rfl,hF,hU⟩
 have hl:(beB s.length 2).length=2:=by unfold beB;rw[List.length_reverse,leB_length]
 generalize hacc:b++beB s.length 2=acc at *
 have hla:acc.length=b.length+2:=by rw[←hacc,List.length_append,hl]
 have HA:=zB hacc hla hU
 clear hn hacc hl hla hU
 obtain⟨ao1,cap1,rfl⟩:=hF.shape
 unfold OwnB at hF
 go_wp2_with (first
  | (at_builtin;refine wpList_appS rfl _ _ 36 9 rfl sl_u8 Tryz.underlying9 hF rfl s rfl (by have:=HA.out.2.1;have:=HH.out.1;have:=HH.out.2;omega) ?_;intro v2 w2 ho2 c2 n2)
  | fail)
 obtain⟨ao2,cap2,rfl,-⟩:=ho2.sees.shape
 go_wp2_with fail
 go_ret
 refine⟨_,rfl,?_,HA.out.2.2.trans ⟨c2,n2⟩⟩
 rw[←List.append_assoc,HA.out.1]
 exact OwnB.app ho2 rfl
end
section
open Go.RowKit Go.Aq Go.Aq.Fy Go.Maps
set_option maxRecDepth 100000 in
theorem tmay_ok (w:World) (t:TreeD) (v:Value) (n:Nat) (hn:t.keys.length=n) (hv:Sees w 1 v n (names t.keys)) (hb:n≤100000) (hs:∀k∈t.keys,k.length≤1000000):
  Calls Tryz.prog 375 #[treeV t v] w fun e w'=>e=.returned (.bool (mayTree t))∧Chg [] w w':=by
 obtain⟨s,l⟩:=t
 simp only at hn hv hs
 obtain⟨ao,cap,rfl,-⟩:=hv.shape
 obtain⟨K,hK⟩:∃K,w.heap.size=K:=⟨_,rfl⟩
 have hc0:Chg [] w (w.alloc (.cells #[.int .i64 s.w,.int .i64 s.h,.int .i64 s.c,.int .i64 s.d,.slice ao n cap] 271)):=(Chg.refl [] w).alloc _
 have hb0:Blk (w.alloc (.cells #[.int .i64 s.w,.int .i64 s.h,.int .i64 s.c,.int .i64 s.d,.slice ao n cap] 271)) K #[.int .i64 s.w,.int .i64 s.h,.int .i64 s.c,.int .i64 s.d,.slice ao n cap] 271:=Blk.new_at w _ _ hK
 have hgr:=fun w'=>grid_any s w'
 obtain⟨g1,g2⟩:=grid_le s
 obtain⟨hm1,hm2⟩:=mul_nat g1 g2
 obtain⟨m,hm⟩:∃m,((gridD s).1 * (gridD s).2).toNat=m:=⟨_,rfl⟩
 have hm3:(gridD s).1 * (gridD s).2=(m:Int):=by
  rw[←hm,Int.toNat_of_nonneg (Int.mul_nonneg g1.1 g2.1)]
 have hM:wrap64 ((gridD s).1 * (gridD s).2)=(m:Int):=by rw[hm2,hm]
 have eM:mayTree ⟨s,l⟩=(decide (0<(gridD s).1)&&((n:Int)==(m:Int))&&validAll l):=by
  unfold mayTree
  simp only[hn,hm3]
 have hva:=fun w' (c:Chg [] w w')=>valids_ok w' l (.slice ao n cap) n hn (hv.chg c (fun t _ ht'=>by simp at ht')) (by omega) hs
 rw[eM]
 unfold treeV
 unfold shpV at hgr
 clear hn hv hs hm hm1 hm2 hm3 eM hb g1 g2
 obtain⟨x,hx⟩:∃x,(gridD s).1=x:=⟨_,rfl⟩
 obtain⟨y,hy⟩:∃y,(gridD s).2=y:=⟨_,rfl⟩
 simp only[hx,hy] at hgr hM ⊢
 clear hx hy
 have HC0:=zH hc0
 go_enter Tryz.func375,Tryz.ntmps375
 have x0:(w.alloc (.cells #[.int .i64 s.w,.int .i64 s.h,.int .i64 s.c,.int .i64 s.d,.slice ao n cap] 271)).cell? ⟨K,0,none⟩=some (.int .i64 s.w):=hb0.cell 0
 go_wp2_with fail
 have ct:=HC0.out
 generalize w.alloc (.cells #[.int .i64 s.w,.int .i64 s.h,.int .i64 s.c,.int .i64 s.d,.slice ao n cap] 271)=w0 at *
 refine (hgr _).mono ?_
 rintro e w1 ⟨rfl,c1⟩
 have hb1:=hb0.chg0 c1
 have ct1:=ct.nil c1
 have y4:w1.cell? ⟨K,4,none⟩=some (.slice ao n cap):=hb1.cell 4
 clear hgr x0 hb0 ct c1 hc0
 have HT:=zH ct1
 have hva1:=hva w1 ct1
 clear hva ct1 HC0 hb1
 by_cases h1:0<x
 ·have d1:decide (0<x)=true:=decide_eq_true h1
  cases h2:((n:Int)==(m:Int)) with
  | true=>
   have HB:=zH h2
   clear h1
   go_wp2_with fail
   refine hva1.mono ?_
   rintro e w2 ⟨rfl,c2⟩
   clear hva1
   go_wp2_with fail
   go_ret
   exact⟨by simp only[d1,HB.out,Bool.true_and,Bool.false_and,Bool.and_false];rfl,HT.out.nil c2⟩
  | false=>
   have HB:=zH h2
   clear h1 hva1
   go_wp2_with fail
   go_ret
   exact⟨by simp only[d1,HB.out,Bool.true_and,Bool.false_and,Bool.and_false];rfl,HT.out⟩
 ·have d1:decide (0<x)=false:=decide_eq_false h1
  have HB:=zH d1
  clear h1 hva1
  go_wp2_with fail
  go_ret
  exact⟨by simp only[d1,HB.out,Bool.true_and,Bool.false_and,Bool.and_false];rfl,HT.out⟩
set_option maxRecDepth 100000 in
theorem cmay_ok (w:World) (hT:Tabs w) (c:CommD) (v:Value) (n:Nat) (hn:c.pars.length=n) (hv:Sees w 1 v n (names c.pars)) (hb:n≤100000) (hs:∀k∈c.pars,k.length≤1000000) (hl1:c.tree.length≤1000000) (hl2:c.author.length≤1000000) (hl3:c.text.length≤1000000):
  Calls Tryz.prog 385 #[commV c v] w fun e w'=>e=.returned (.bool (mayComm c))∧Chg [] w w':=by
 obtain⟨tr,l,st,au,tx⟩:=c
 simp only at hn hv hs hl1 hl2 hl3
 obtain⟨ao,cap,rfl,-⟩:=hv.shape
 obtain⟨K,hK⟩:∃K,w.heap.size=K:=⟨_,rfl⟩
 have hc0:Chg [] w (w.alloc (.cells #[.string (str tr),.slice ao n cap,.int .i64 st,.string (str au),.string (str tx)] 273)):=(Chg.refl [] w).alloc _
 have hb0:Blk (w.alloc (.cells #[.string (str tr),.slice ao n cap,.int .i64 st,.string (str au),.string (str tx)] 273)) K #[.string (str tr),.slice ao n cap,.int .i64 st,.string (str au),.string (str tx)] 273:=Blk.new_at w _ _ hK
 have hvt:=fun w'=>valid_any w' tr hl1
 have hva:=fun w' (c:Chg [] w w')=>valids_ok w' l (.slice ao n cap) n hn (hv.chg c (fun t _ ht'=>by simp at ht')) (by omega) hs
 unfold commV
 have HN:=zA hn hv
 by_cases h2:n=2
 ·obtain⟨a,b,rfl⟩:∃a b,l=[a,b]:=by
   match l,hn with
   | [],hn=>simp at hn;omega
   | [a],hn=>simp at hn;omega
   | [a,b],_=>exact⟨a,b,rfl⟩
   | a::b::c::t,hn=>simp at hn;omega
  subst h2
  obtain⟨g',off',cap',e1,hle',-,hxc⟩:=hv.cells (by decide)
  injection e1 with e1 _ e2
  subst e1 e2
  have z0:=hc0.cell_some ((hxc 0 (by decide)).trans rfl) (by simp)
  have z1:=hc0.cell_some ((hxc 1 (by decide)).trans rfl) (by simp)
  rw[Nat.add_zero] at z0
  have eM:mayComm ⟨tr,[a,b],st,au,tx⟩=(validB tr&&validAll [a,b]&&!((str a).toList==(str b).toList)&&decide (1≤st)&&decide (st≤1099511627776)&&Wd.nameL au&&Wd.textL tx):=by
   unfold mayComm twins
   have eab:(a==b)=decide (a=b):=by by_cases h:a=b <;> simp[h]
   rw[str_eq]
   simp only[eab,List.length_cons,List.length_nil,Nat.zero_add,Nat.reduceAdd,Nat.le_refl,decide_true,Bool.and_true]
  rw[eM]
  have HC0:=zH hc0
  clear hn hv hb hs hl1 hxc eM
  go_enter Tryz.func385,Tryz.ntmps385
  have x0:(w.alloc (.cells #[.string (str tr),.slice (some ⟨g',off',none⟩) 2 cap,.int .i64 st,.string (str au),.string (str tx)] 273)).cell? ⟨K,0,none⟩=some (.string (str tr)):=hb0.cell 0
  have x1:(w.alloc (.cells #[.string (str tr),.slice (some ⟨g',off',none⟩) 2 cap,.int .i64 st,.string (str au),.string (str tx)] 273)).cell? ⟨K,1,none⟩=some (.slice (some ⟨g',off',none⟩) 2 cap):=hb0.cell 1
  go_wp2_with fail
  go_quiet (fail)
  go_wp2_with fail
  cases q0:((str a).toList==(str b).toList) with
  | true=>
   have Q0:=zH q0
   clear q0
   have ct1:Chg [] w ((w.alloc (.cells #[.string (str tr),.slice (some ⟨g',off',none⟩) 2 cap,.int .i64 st,.string (str au),.string (str tx)] 273)).drewN nq):=HC0.out.drewN nq
   have hb1:=hb0.chg0 ((Chg.refl [] (w.alloc (.cells #[.string (str tr),.slice (some ⟨g',off',none⟩) 2 cap,.int .i64 st,.string (str au),.string (str tx)] 273))).drewN nq)
   clear x0 x1 hb0 hc0
   generalize (w.alloc (.cells #[.string (str tr),.slice (some ⟨g',off',none⟩) 2 cap,.int .i64 st,.string (str au),.string (str tx)] 273)).drewN nq=w1 at *
   refine (hvt _).mono ?_
   rintro e w2 ⟨rfl,c2⟩
   have hb2:=hb1.chg0 c2
   have ct2:=ct1.nil c2
   clear hvt hb1 ct1 c2
   have y21:w2.cell? ⟨K,1,none⟩=some (.slice (some ⟨g',off',none⟩) 2 cap):=hb2.cell 1
   have y22:w2.cell? ⟨K,2,none⟩=some (.int .i64 st):=hb2.cell 2
   have y23:w2.cell? ⟨K,3,none⟩=some (.string (str au)):=hb2.cell 3
   have y24:w2.cell? ⟨K,4,none⟩=some (.string (str tx)):=hb2.cell 4
   have hv2:=hva w2 ct2
   have hna:=fun w' c=>name_any au w' (hT.chg (w':=w') c) (by omega)
   have htx:=fun w' c=>text_any tx w' (hT.chg (w':=w') c) (by omega)
   clear hva hT hl2 hl3
   have HB2:=zA hb2 ct2
   clear hb2 ct2
   cases q1:validB tr with
   | false=>
    have Q1:=zH q1
    clear q1 hv2 hna htx
    go_wp2_with fail
    go_ret
    exact⟨by simp only[Q0.out,Q1.out,Bool.not_true,Bool.not_false,Bool.true_and,Bool.false_and,Bool.and_false,Bool.and_true];rfl,HB2.out.2⟩
   | true=>
    have Q1:=zH q1
    clear q1
    go_wp2_with fail
    refine hv2.mono ?_
    rintro e w3 ⟨rfl,c3⟩
    have hb3:=HB2.out.1.chg0 c3
    have ct3:=HB2.out.2.nil c3
    clear hv2 y21 y22 y23 y24 c3
    have y31:w3.cell? ⟨K,1,none⟩=some (.slice (some ⟨g',off',none⟩) 2 cap):=hb3.cell 1
    have y32:w3.cell? ⟨K,2,none⟩=some (.int .i64 st):=hb3.cell 2
    have y33:w3.cell? ⟨K,3,none⟩=some (.string (str au)):=hb3.cell 3
    have y34:w3.cell? ⟨K,4,none⟩=some (.string (str tx)):=hb3.cell 4
    have hn3:=hna w3 ct3
    have HB3:=zA hb3 ct3
    clear hna hb3 ct3
    cases q3:validAll [a,b] with
    | false=>
     have Q3:=zH q3
     clear q3 hn3 htx
     go_wp2_with fail
     go_ret
     exact⟨by simp only[Q0.out,Q1.out,Q3.out,Bool.not_true,Bool.not_false,Bool.true_and,Bool.false_and,Bool.and_false,Bool.and_true];rfl,HB3.out.2⟩
    | true=>
     have Q3:=zH q3
     clear q3
     clear hn3 htx
     go_wp2_with fail
     go_ret
     exact⟨by simp only[Q0.out,Q1.out,Q3.out,Bool.not_true,Bool.not_false,Bool.true_and,Bool.false_and,Bool.and_false,Bool.and_true];rfl,HB3.out.2⟩
  | false=>
   have Q0:=zH q0
   clear q0
   have ct1:Chg [] w ((w.alloc (.cells #[.string (str tr),.slice (some ⟨g',off',none⟩) 2 cap,.int .i64 st,.string (str au),.string (str tx)] 273)).drewN nq):=HC0.out.drewN nq
   have hb1:=hb0.chg0 ((Chg.refl [] (w.alloc (.cells #[.string (str tr),.slice (some ⟨g',off',none⟩) 2 cap,.int .i64 st,.string (str au),.string (str tx)] 273))).drewN nq)
   clear x0 x1 hb0 hc0
   generalize (w.alloc (.cells #[.string (str tr),.slice (some ⟨g',off',none⟩) 2 cap,.int .i64 st,.string (str au),.string (str tx)] 273)).drewN nq=w1 at *
   refine (hvt _).mono ?_
   rintro e w2 ⟨rfl,c2⟩
   have hb2:=hb1.chg0 c2
   have ct2:=ct1.nil c2
   clear hvt hb1 ct1 c2
   have y21:w2.cell? ⟨K,1,none⟩=some (.slice (some ⟨g',off',none⟩) 2 cap):=hb2.cell 1
   have y22:w2.cell? ⟨K,2,none⟩=some (.int .i64 st):=hb2.cell 2
   have y23:w2.cell? ⟨K,3,none⟩=some (.string (str au)):=hb2.cell 3
   have y24:w2.cell? ⟨K,4,none⟩=some (.string (str tx)):=hb2.cell 4
   have hv2:=hva w2 ct2
   have hna:=fun w' c=>name_any au w' (hT.chg (w':=w') c) (by omega)
   have htx:=fun w' c=>text_any tx w' (hT.chg (w':=w') c) (by omega)
   clear hva hT hl2 hl3
   have HB2:=zA hb2 ct2
   clear hb2 ct2
   cases q1:validB tr with
   | false=>
    have Q1:=zH q1
    clear q1 hv2 hna htx
    go_wp2_with fail
    go_ret
    exact⟨by simp only[Q0.out,Q1.out,Bool.not_true,Bool.not_false,Bool.true_and,Bool.false_and,Bool.and_false,Bool.and_true];rfl,HB2.out.2⟩
   | true=>
    have Q1:=zH q1
    clear q1
    go_wp2_with fail
    refine hv2.mono ?_
    rintro e w3 ⟨rfl,c3⟩
    have hb3:=HB2.out.1.chg0 c3
    have ct3:=HB2.out.2.nil c3
    clear hv2 y21 y22 y23 y24 c3
    have y31:w3.cell? ⟨K,1,none⟩=some (.slice (some ⟨g',off',none⟩) 2 cap):=hb3.cell 1
    have y32:w3.cell? ⟨K,2,none⟩=some (.int .i64 st):=hb3.cell 2
    have y33:w3.cell? ⟨K,3,none⟩=some (.string (str au)):=hb3.cell 3
    have y34:w3.cell? ⟨K,4,none⟩=some (.string (str tx)):=hb3.cell 4
    have hn3:=hna w3 ct3
    have HB3:=zA hb3 ct3
    clear hna hb3 ct3
    cases q3:validAll [a,b] with
    | false=>
     have Q3:=zH q3
     clear q3 hn3 htx
     go_wp2_with fail
     go_ret
     exact⟨by simp only[Q0.out,Q1.out,Q3.out,Bool.not_true,Bool.not_false,Bool.true_and,Bool.false_and,Bool.and_false,Bool.and_true];rfl,HB3.out.2⟩
    | true=>
     have Q3:=zH q3
     clear q3
     cases q4:decide (1≤st) with
     | false=>
      have Q4:=zH q4
      clear hn3 htx
      go_wp2_with fail
      go_ret
      exact⟨by simp only[Q0.out,Q1.out,Q3.out,Q4.out,Bool.not_true,Bool.not_false,Bool.true_and,Bool.false_and,Bool.and_false,Bool.and_true];rfl,HB3.out.2⟩
     | true=>
      have Q4:=zH q4
      cases q5:decide (st≤1099511627776) with
      | false=>
       have Q5:=zH q5
       clear hn3 htx
       go_wp2_with fail
       go_ret
       exact⟨by simp only[Q0.out,Q1.out,Q3.out,Q4.out,Q5.out,Bool.not_true,Bool.not_false,Bool.true_and,Bool.false_and,Bool.and_false,Bool.and_true];rfl,HB3.out.2⟩
      | true=>
       have Q5:=zH q5
       go_wp2_with fail
       refine hn3.mono ?_
       rintro e w4 ⟨rfl,c4⟩
       have hb4:=HB3.out.1.chg0 c4
       have ct4:=HB3.out.2.nil c4
       clear hn3 y31 y32 y33 y34 c4 q4 q5
       have y41:w4.cell? ⟨K,1,none⟩=some (.slice (some ⟨g',off',none⟩) 2 cap):=hb4.cell 1
       have y42:w4.cell? ⟨K,2,none⟩=some (.int .i64 st):=hb4.cell 2
       have y43:w4.cell? ⟨K,3,none⟩=some (.string (str au)):=hb4.cell 3
       have y44:w4.cell? ⟨K,4,none⟩=some (.string (str tx)):=hb4.cell 4
       have ht4:=htx w4 ct4
       have HB4:=zH ct4
       clear htx hb4 ct4
       cases q6:Wd.nameL au with
       | false=>
        have Q6:=zH q6
        clear q6 ht4
        go_wp2_with fail
        go_ret
        exact⟨by simp only[Q0.out,Q1.out,Q3.out,Q4.out,Q5.out,Q6.out,Bool.not_true,Bool.not_false,Bool.true_and,Bool.false_and,Bool.and_false,Bool.and_true];rfl,HB4.out⟩
       | true=>
        have Q6:=zH q6
        clear q6
        go_wp2_with fail
        refine ht4.mono ?_
        rintro e w5 ⟨rfl,c5⟩
        clear ht4
        go_wp2_with fail
        go_ret
        exact⟨by simp only[Q0.out,Q1.out,Q3.out,Q4.out,Q5.out,Q6.out,Bool.not_true,Bool.not_false,Bool.true_and,Bool.false_and,Bool.and_false,Bool.and_true];rfl,HB4.out.nil c5⟩
 ·have tw:twins l=false:=by
   unfold twins
   split
   ·rename_i a b;simp at hn;omega
   ·rfl
  have d2:((n:Int)==2)=false:=by simp;omega
  have eM:mayComm ⟨tr,l,st,au,tx⟩=(validB tr&&decide (n≤2)&&validAll l&&true&&decide (1≤st)&&decide (st≤1099511627776)&&Wd.nameL au&&Wd.textL tx):=by
   unfold mayComm
   simp only[hn,tw,Bool.not_false]
  rw[eM]
  clear hn hv hb hs hl1 eM tw h2
  have HC0:=zH hc0
  go_enter Tryz.func385,Tryz.ntmps385
  have x0:(w.alloc (.cells #[.string (str tr),.slice ao n cap,.int .i64 st,.string (str au),.string (str tx)] 273)).cell? ⟨K,0,none⟩=some (.string (str tr)):=hb0.cell 0
  have x1:(w.alloc (.cells #[.string (str tr),.slice ao n cap,.int .i64 st,.string (str au),.string (str tx)] 273)).cell? ⟨K,1,none⟩=some (.slice ao n cap):=hb0.cell 1
  go_wp2_with fail
  go_quiet (fail)
  go_wp2_with fail
  have ct1:Chg [] w ((w.alloc (.cells #[.string (str tr),.slice ao n cap,.int .i64 st,.string (str au),.string (str tx)] 273)).drewN nq):=HC0.out.drewN nq
  have hb1:=hb0.chg0 ((Chg.refl [] (w.alloc (.cells #[.string (str tr),.slice ao n cap,.int .i64 st,.string (str au),.string (str tx)] 273))).drewN nq)
  clear x0 x1 hb0 hc0
  generalize (w.alloc (.cells #[.string (str tr),.slice ao n cap,.int .i64 st,.string (str au),.string (str tx)] 273)).drewN nq=w1 at *
  refine (hvt _).mono ?_
  rintro e w2 ⟨rfl,c2⟩
  have hb2:=hb1.chg0 c2
  have ct2:=ct1.nil c2
  clear hvt hb1 ct1 c2
  have y21:w2.cell? ⟨K,1,none⟩=some (.slice ao n cap):=hb2.cell 1
  have y22:w2.cell? ⟨K,2,none⟩=some (.int .i64 st):=hb2.cell 2
  have y23:w2.cell? ⟨K,3,none⟩=some (.string (str au)):=hb2.cell 3
  have y24:w2.cell? ⟨K,4,none⟩=some (.string (str tx)):=hb2.cell 4
  have hv2:=hva w2 ct2
  have hna:=fun w' c=>name_any au w' (hT.chg (w':=w') c) (by omega)
  have htx:=fun w' c=>text_any tx w' (hT.chg (w':=w') c) (by omega)
  clear hva hT hl2 hl3
  have HB2:=zA hb2 ct2
  clear hb2 ct2
  cases q1:validB tr with
  | false=>
   have Q1:=zH q1
   clear q1 hv2 hna htx
   go_wp2_with fail
   go_ret
   exact⟨by simp only[Q1.out,Bool.not_true,Bool.not_false,Bool.true_and,Bool.false_and,Bool.and_false,Bool.and_true];rfl,HB2.out.2⟩
  | true=>
   have Q1:=zH q1
   clear q1
   cases q2:decide (n≤2) with
   | false=>
    have Q2:=zH q2
    have d3:decide ((n:Int)≤2)=false:=by have:=of_decide_eq_false q2;simp;omega
    clear hv2 hna htx
    go_wp2_with fail
    go_ret
    exact⟨by simp only[Q1.out,Q2.out,Bool.not_true,Bool.not_false,Bool.true_and,Bool.false_and,Bool.and_false,Bool.and_true];rfl,HB2.out.2⟩
   | true=>
    have Q2:=zH q2
    have d3:decide ((n:Int)≤2)=true:=by have:=of_decide_eq_true q2;simp;omega
    go_wp2_with fail
    refine hv2.mono ?_
    rintro e w3 ⟨rfl,c3⟩
    have hb3:=HB2.out.1.chg0 c3
    have ct3:=HB2.out.2.nil c3
    clear hv2 y21 y22 y23 y24 c3 d3 q2
    have y31:w3.cell? ⟨K,1,none⟩=some (.slice ao n cap):=hb3.cell 1
    have y32:w3.cell? ⟨K,2,none⟩=some (.int .i64 st):=hb3.cell 2
    have y33:w3.cell? ⟨K,3,none⟩=some (.string (str au)):=hb3.cell 3
    have y34:w3.cell? ⟨K,4,none⟩=some (.string (str tx)):=hb3.cell 4
    have hn3:=hna w3 ct3
    have HB3:=zA hb3 ct3
    clear hna hb3 ct3
    cases q3:validAll l with
    | false=>
     have Q3:=zH q3
     clear q3 hn3 htx
     go_wp2_with fail
     go_ret
     exact⟨by simp only[Q1.out,Q2.out,Q3.out,Bool.not_true,Bool.not_false,Bool.true_and,Bool.false_and,Bool.and_false,Bool.and_true];rfl,HB3.out.2⟩
    | true=>
     have Q3:=zH q3
     clear q3
     cases q4:decide (1≤st) with
     | false=>
      have Q4:=zH q4
      clear hn3 htx
      go_wp2_with fail
      go_ret
      exact⟨by simp only[Q1.out,Q2.out,Q3.out,Q4.out,Bool.not_true,Bool.not_false,Bool.true_and,Bool.false_and,Bool.and_false,Bool.and_true];rfl,HB3.out.2⟩
     | true=>
      have Q4:=zH q4
      cases q5:decide (st≤1099511627776) with
      | false=>
       have Q5:=zH q5
       clear hn3 htx
       go_wp2_with fail
       go_ret
       exact⟨by simp only[Q1.out,Q2.out,Q3.out,Q4.out,Q5.out,Bool.not_true,Bool.not_false,Bool.true_and,Bool.false_and,Bool.and_false,Bool.and_true];rfl,HB3.out.2⟩
      | true=>
       have Q5:=zH q5
       go_wp2_with fail
       refine hn3.mono ?_
       rintro e w4 ⟨rfl,c4⟩
       have hb4:=HB3.out.1.chg0 c4
       have ct4:=HB3.out.2.nil c4
       clear hn3 y31 y32 y33 y34 c4 q4 q5
       have y41:w4.cell? ⟨K,1,none⟩=some (.slice ao n cap):=hb4.cell 1
       have y42:w4.cell? ⟨K,2,none⟩=some (.int .i64 st):=hb4.cell 2
       have y43:w4.cell? ⟨K,3,none⟩=some (.string (str au)):=hb4.cell 3
       have y44:w4.cell? ⟨K,4,none⟩=some (.string (str tx)):=hb4.cell 4
       have ht4:=htx w4 ct4
       have HB4:=zH ct4
       clear htx hb4 ct4
       cases q6:Wd.nameL au with
       | false=>
        have Q6:=zH q6
        clear q6 ht4
        go_wp2_with fail
        go_ret
        exact⟨by simp only[Q1.out,Q2.out,Q3.out,Q4.out,Q5.out,Q6.out,Bool.not_true,Bool.not_false,Bool.true_and,Bool.false_and,Bool.and_false,Bool.and_true];rfl,HB4.out⟩
       | true=>
        have Q6:=zH q6
        clear q6
        go_wp2_with fail
        refine ht4.mono ?_
        rintro e w5 ⟨rfl,c5⟩
        clear ht4
        go_wp2_with fail
        go_ret
        exact⟨by simp only[Q1.out,Q2.out,Q3.out,Q4.out,Q5.out,Q6.out,Bool.not_true,Bool.not_false,Bool.true_and,Bool.false_and,Bool.and_false,Bool.and_true];rfl,HB4.out.nil c5⟩
set_option maxRecDepth 100000 in
theorem tbytes_no (w:World) (t:TreeD) (v:Value) (n:Nat) (hn:t.keys.length=n) (hv:Sees w 1 v n (names t.keys)) (hb:n≤100000) (hs:∀k∈t.keys,k.length≤1000000) (hm:mayTree t=false):
  Calls Tryz.prog 372 #[treeV t v] w fun e w'=>e=.returned (.slice none 0 0)∧Chg [] w w':=by
 have hma:=fun w' (c:Chg [] w w')=>tmay_ok w' t v n hn (hv.chg c (fun t _ ht'=>by simp at ht')) hb hs
 rw[hm] at hma
 obtain⟨s,l⟩:=t
 simp only at hn hv hs
 obtain⟨ao,cap,rfl,-⟩:=hv.shape
 obtain⟨K,hK⟩:∃K,w.heap.size=K:=⟨_,rfl⟩
 have hc0:Chg [] w (w.alloc (.cells #[.int .i64 s.w,.int .i64 s.h,.int .i64 s.c,.int .i64 s.d,.slice ao n cap] 271)):=(Chg.refl [] w).alloc _
 have hb0:Blk (w.alloc (.cells #[.int .i64 s.w,.int .i64 s.h,.int .i64 s.c,.int .i64 s.d,.slice ao n cap] 271)) K #[.int .i64 s.w,.int .i64 s.h,.int .i64 s.c,.int .i64 s.d,.slice ao n cap] 271:=Blk.new_at w _ _ hK
 have hm1:=hma _ hc0
 unfold treeV at *
 clear hn hv hs hb hm hma hb0
 go_enter Tryz.func372,Tryz.ntmps372
 go_wp2_with fail
 refine hm1.mono ?_
 rintro e w1 ⟨rfl,c1⟩
 clear hm1
 go_wp2_with fail
 go_ret
 exact⟨rfl,hc0.tr c1⟩
end
section
open Go.RowKit Go.Aq Go.Aq.Fy
theorem imay_ok (w:World) (s:ShpD) (ao:Option Addr) (n cap:Nat) (hn:n≤9223372036854775807):
  Calls Tryz.prog 369 #[rasV s (.slice ao n cap)] w fun e w'=>e=.returned (.bool (mayTile s n))∧Chg [] w w':=by
 obtain⟨K,hK⟩:∃K,w.heap.size=K:=⟨_,rfl⟩
 have hc0:Chg [] w (w.alloc (.cells #[.int .i64 s.w,.int .i64 s.h,.int .i64 s.c,.int .i64 s.d,.slice ao n cap] 270)):=(Chg.refl [] w).alloc _
 have hb0:Blk (w.alloc (.cells #[.int .i64 s.w,.int .i64 s.h,.int .i64 s.c,.int .i64 s.d,.slice ao n cap] 270)) K #[.int .i64 s.w,.int .i64 s.h,.int .i64 s.c,.int .i64 s.d,.slice ao n cap] 270:=Blk.new_at w _ _ hK
 have hp:=fun w'=>mayPix_any s ao n cap hn w'
 have eM:mayTile s n=(mayPix s n&&decide (s.w≤8)&&decide (s.h≤8)):=rfl
 rw[eM]
 unfold rasV at *
 clear eM hn
 have HC0:=zH hc0
 obtain⟨x0,x1,x2,x3,x4⟩:=Blk5 hb0
 go_enter Tryz.func369,Tryz.ntmps369
 go_wp2_with fail
 have ct:=HC0.out
 generalize w.alloc (.cells #[.int .i64 s.w,.int .i64 s.h,.int .i64 s.c,.int .i64 s.d,.slice ao n cap] 270)=w0 at *
 refine (hp _).mono ?_
 rintro e w1 ⟨rfl,c1⟩
 have hb1:=hb0.chg0 c1
 clear x0 x1 x2 x3 x4
 obtain⟨x0,x1,x2,x3,x4⟩:=Blk5 hb1
 have HT:=zH (ct.nil c1)
 clear hp hb0 ct c1 hc0 HC0 hb1
 cases q1:mayPix s n with
 | false=>
  have Q1:=zH q1
  clear q1
  go_wp2_with fail
  go_ret
  exact⟨by simp only[Q1.out,Bool.false_and];rfl,HT.out⟩
 | true=>
  have Q1:=zH q1
  clear q1
  cases q2:decide (s.w≤8) with
  | false=>
   have Q2:=zH q2
   go_wp2_with fail
   go_ret
   exact⟨by simp only[Q1.out,Q2.out,Bool.true_and,Bool.false_and];rfl,HT.out⟩
  | true=>
   have Q2:=zH q2
   go_wp2_with fail
   go_ret
   exact⟨by simp only[Q1.out,Q2.out,Bool.true_and];rfl,HT.out⟩
set_option maxRecDepth 100000 in
theorem ibytes_ok (w:World) (s:ShpD) (pv:Value) (px:List UInt8) (hv:Sees w 1 pv px.length (Bs px)) (hn:px.length≤1000000000):
  Calls Tryz.prog 366 #[rasV s pv] w fun e w'=>∃v',e=.returned v'∧Sees w' 1 v' (tileB s px).length (Bs (tileB s px))∧Chg [] w w':=by
 obtain⟨ao,cap,rfl,-⟩:=hv.shape
 obtain⟨K,hK⟩:∃K,w.heap.size=K:=⟨_,rfl⟩
 obtain⟨n,hln⟩:∃n,px.length=n:=⟨_,rfl⟩
 rw[hln] at hv hn ⊢
 have hc0:Chg [] w (w.alloc (.cells #[.int .i64 s.w,.int .i64 s.h,.int .i64 s.c,.int .i64 s.d,.slice ao n cap] 270)):=(Chg.refl [] w).alloc _
 have hb0:Blk (w.alloc (.cells #[.int .i64 s.w,.int .i64 s.h,.int .i64 s.c,.int .i64 s.d,.slice ao n cap] 270)) K #[.int .i64 s.w,.int .i64 s.h,.int .i64 s.c,.int .i64 s.d,.slice ao n cap] 270:=Blk.new_at w _ _ hK
 have hm:=fun w'=>imay_ok w' s ao n cap (by omega)
 cases hM:mayTile s n with
 | false=>
  have e:tileB s px=[]:=by unfold tileB;rw[hln,hM];rfl
  rw[e]
  rw[hM] at hm
  unfold rasV at *
  have HC0:=zH hc0
  clear hM e hv hn hc0 hln
  obtain⟨x0,x1,x2,x3,x4⟩:=Blk5 hb0
  go_enter Tryz.func366,Tryz.ntmps366
  go_wp2_with fail
  refine (hm _).mono ?_
  rintro e w1 ⟨rfl,c1⟩
  clear hm x0 x1 x2 x3 x4
  go_wp2_with fail
  go_ret
  exact⟨_,rfl,Sees.nil _ _,HC0.out.tr c1⟩
 | true=>
  have hmp:mayPix s n=true:=((mayTile_iff s _).1 hM).1
  have e:tileB s px=1::encP s px:=by unfold tileB;rw[hln,hM];rfl
  have hel:=encP_len s px
  rw[hln] at hel
  have hns:n≤16384:=by
   have h1:=(mayPix_iff s n).1 hmp
   have h2:=h1.1
   unfold maySh at h2
   simp only[Bool.and_eq_true,decide_eq_true_eq] at h2
   omega
  rw[e]
  rw[hM] at hm
  have he:=fun w' (c:Chg [] w w')=>enc_good s (.slice ao n cap) n px w' (hv.chg0 c) hmp
  unfold rasV at *
  have HC0:=zH hc0
  have HE:=zA hel hns
  clear hM e hv hn hc0 hln hmp hns
  obtain⟨x0,x1,x2,x3,x4⟩:=Blk5 hb0
  go_enter Tryz.func366,Tryz.ntmps366
  go_wp2_with fail
  have ct:=HC0.out
  generalize w.alloc (.cells #[.int .i64 s.w,.int .i64 s.h,.int .i64 s.c,.int .i64 s.d,.slice ao n cap] 270)=w0 at *
  refine (hm _).mono ?_
  rintro e w1 ⟨rfl,c1⟩
  have hb1:=hb0.chg0 c1
  have ct1:=ct.nil c1
  clear hm x0 x1 x2 x3 x4
  obtain⟨x0,x1,x2,x3,x4⟩:=Blk5 hb1
  have he1:=he w1 ct1
  have HT:=zH ct1
  clear he hb0 ct c1 HC0 hb1 ct1
  go_wp2_with fail
  refine he1.mono ?_
  rintro e w2 ⟨v1,rfl,hs1,hnew,c2⟩
  obtain⟨ao1,cap1,rfl,-⟩:=hs1.shape
  have hf1:Aq.Own (w2.alloc (.cells #[.int .u8 1] 5)) 5 1 (.slice (some ⟨w2.heap.size,0,none⟩) 1 1) 1 [.int .u8 1]:=pown_blk (Blk.new w2 _ _) rfl (by decide)
  have hsrc:=hs1.chg0 ((Chg.refl [] w2).alloc (.cells #[.int .u8 1] 5))
  have h1s:=one_Bs (encP s px)
  have HT2:=zH ((HT.out.nil c2).alloc (.cells #[.int .u8 1] 5))
  have HN:Hid (w.heap.size≤w2.heap.size):=(HT.out.nil c2).size
  clear he1 hs1 c2 hnew x0 x1 x2 x3 x4
  go_wp2_with (first
   | (at_builtin;refine wpList_app rfl _ _ 36 rfl sl_u8 hf1 rfl hsrc rfl h1s (by have:=HE.out.2;omega) (by have:=HE.out.2;omega) ?_;intro v2 w3 ho2 c3 n3)
   | fail)
  obtain⟨ao2,cap2,rfl,-⟩:=ho2.sees.shape
  go_wp2_with fail
  go_ret
  refine⟨_,rfl,?_,HT2.out.trans c3 (fun k hk=>?_)⟩
  ·have h:=ho2.sees
   have e1:(encP s px).length+1=1+(7+n):=by rw[HE.out.1];omega
   rw[e1]
   exact h
  ·simp[Value.ownBlock] at hk
   right;have:=HN.out;omega
theorem own_alloc1 (w:World) (b:List UInt8) (hb:b.length≤1000000):OwnB (w.alloc (.cells (Bs b).toArray 5)) (.slice (some ⟨w.heap.size,0,none⟩) b.length b.length) b:=by
 have h:=pown_blk (Blk.new w (Bs b).toArray 5) (n:=b.length) (by simp[Bs_length]) (by omega)
 unfold OwnB
 simpa using h
theorem wrap_u8_nat' (a:Nat) (h:a<256):IntKind.u8.wrap (a:Int)=(a:Int):=by
 simp only[IntKind.wrap,IntKind.bits,IntKind.signed]
 simp
 omega
set_option maxRecDepth 100000 in
theorem tbytes_yes (w:World) (W H C D:Nat) (hW:W<65536) (hH:H<65536) (hC:C<256) (hD:D<256) (l:List (List UInt8)) (v:Value) (n:Nat) (hn:l.length=n) (hv:Sees w 1 v n (names l)) (hb:n≤100000) (hs:∀k∈l,k.length≤1000000)
  (hm:mayTree ⟨⟨W,H,C,D⟩,l⟩=true):
  Calls Tryz.prog 372 #[.agg #[.int .i64 W,.int .i64 H,.int .i64 C,.int .i64 D,v]] w fun e w'=>∃v',e=.returned v'∧OwnB w' v' (([2]++beB W 2++beB H 2++[UInt8.ofNat C,UInt8.ofNat D])++rawKs l)∧Chg [] w w':=by
 obtain⟨R,hR⟩:∃R,([2]++beB W 2++beB H 2++[UInt8.ofNat C,UInt8.ofNat D])++rawKs l=R:=⟨_,rfl⟩
 rw[hR]
 have HR:=zH hR
 clear hR
 have hva:validAll l=true:=by unfold mayTree at hm;simp only[Bool.and_eq_true] at hm;exact hm.2
 have hma:=fun w' (c:Chg [] w w')=>tmay_ok w' ⟨⟨W,H,C,D⟩,l⟩ v n hn (hv.chg c (fun t _ ht'=>by simp at ht')) hb hs
 rw[hm] at hma
 unfold treeV at hma
 simp only at hma
 have hlt:=hv.lt (by decide)
 obtain⟨ao,cap,rfl,-⟩:=hv.shape
 obtain⟨K,hK⟩:∃K,w.heap.size=K:=⟨_,rfl⟩
 have hc0:Chg [] w (w.alloc (.cells #[.int .i64 W,.int .i64 H,.int .i64 C,.int .i64 D,.slice ao n cap] 271)):=(Chg.refl [] w).alloc _
 have hb0:Blk (w.alloc (.cells #[.int .i64 W,.int .i64 H,.int .i64 C,.int .i64 D,.slice ao n cap] 271)) K #[.int .i64 W,.int .i64 H,.int .i64 C,.int .i64 D,.slice ao n cap] 271:=Blk.new_at w _ _ hK
 have hm1:=hma _ hc0
 have a5:=wrap_u8_nat' C hC
 have a6:=wrap_u8_nat' D hD
 have uC:((UInt8.ofNat C).toNat:Int)=(C:Int):=by rw[Wd.u8n C hC]
 have uD:((UInt8.ofNat D).toNat:Int)=(D:Int):=by rw[Wd.u8n D hD]
 have HA:=zE hv hn hb hva hlt hK
 have HC0:=zH hc0
 have HU:=zA uC uD
 have HW:=zA hW hH
 obtain⟨x0,x1,x2,x3,x4⟩:=Blk5 hb0
 clear hn hv hs hb hm hma hva hlt hc0 uC uD hW hH hC hD
 go_enter Tryz.func372,Tryz.ntmps372
 go_wp2_with fail
 have ct:=HC0.out
 have hKs:K<(w.alloc (.cells #[.int .i64 W,.int .i64 H,.int .i64 C,.int .i64 D,.slice ao n cap] 271)).heap.size:=hb0.lt
 generalize w.alloc (.cells #[.int .i64 W,.int .i64 H,.int .i64 C,.int .i64 D,.slice ao n cap] 271)=w0 at *
 refine hm1.mono ?_
 rintro e w1 ⟨rfl,c1⟩
 have hb1:=hb0.chg0 c1
 have HT:=zA (ct.nil c1) (Nat.lt_of_lt_of_le hKs c1.size)
 clear hm1 x0 x1 x2 x3 x4 hb0 ct c1 HC0 hKs
 obtain⟨x0,x1,x2,x3,x4⟩:=Blk5 hb1
 go_upto_region 3 with (fail)
 refine wp_region_E [] (by kernel_rfl) ?_
 have c0:Chg [] w1 w1.drew:=(Chg.refl _ _).drew
 have hbE:=hb1.chg0 c0
 have HCE:=zH (HT.out.1.nil c0)
 have hEs:w1.drew.heap.size=w1.heap.size:=rfl
 have HEs:Hid (K<w1.drew.heap.size):=HT.out.2
 generalize w1.drew=wE at *
 clear x0 x1 x2 x3 x4 hb1 c0 HT hEs
 obtain⟨y0,y1,y2,y3,y4⟩:=Blk5 hbE
 have c0:Chg [] wE wE:=Chg.refl _ _
 refine tE 1 (.pointer (some ⟨K,0,none⟩)) c0 (fun w4 c4=>?_) ?_
 ·go_simp
 try simp only[Act.put,yA,yB,yC,yD,yE,yF]
 refine tE 2 (.pointer (some ⟨K,0,none⟩)) c0 (fun w4 c4=>?_) ?_
 ·go_simp
 try simp only[Act.put,yA,yB,yC,yD,yE,yF]
 refine tE 3 (.int .i64 W) c0 (fun w4 c4=>?_) ?_
 ·have z0:=c4.cell_some y0 (by simp)
  have z1:=c4.cell_some y1 (by simp)
  have z2:=c4.cell_some y2 (by simp)
  have z3:=c4.cell_some y3 (by simp)
  have z4:=c4.cell_some y4 (by simp)
  go_simp
 try simp only[Act.put,yA,yB,yC,yD,yE,yF]
 refine tE 5 (.pointer (some ⟨K,0,none⟩)) c0 (fun w4 c4=>?_) ?_
 ·go_simp
 try simp only[Act.put,yA,yB,yC,yD,yE,yF]
 refine tE 6 (.pointer (some ⟨K,1,none⟩)) c0 (fun w4 c4=>?_) ?_
 ·go_simp
 try simp only[Act.put,yA,yB,yC,yD,yE,yF]
 refine tE 7 (.int .i64 H) c0 (fun w4 c4=>?_) ?_
 ·have z0:=c4.cell_some y0 (by simp)
  have z1:=c4.cell_some y1 (by simp)
  have z2:=c4.cell_some y2 (by simp)
  have z3:=c4.cell_some y3 (by simp)
  have z4:=c4.cell_some y4 (by simp)
  go_simp
 try simp only[Act.put,yA,yB,yC,yD,yE,yF]
 clear y0 y1 y2 y3 y4
 refine oE 0 ?_
 go_simp
 have ho1:OwnB (wE.alloc (.cells #[.int .u8 2] 5)) (.slice (some ⟨wE.heap.size,0,none⟩) 1 1) [2]:=own_alloc1 wE [2] (by decide)
 have hf1:FB wE (wE.alloc (.cells #[.int .u8 2] 5)) (.slice (some ⟨wE.heap.size,0,none⟩) 1 1) [2]:=⟨ho1,c0.alloc _,fun k hk=>by simp[Value.ownBlock] at hk;omega⟩
 refine⟨hf1.chg,?_⟩
 generalize wE.alloc (.cells #[.int .u8 2] 5)=wA at *
 obtain⟨KK,hKK⟩:∃KK,wE.heap.size=KK:=⟨_,rfl⟩
 rw[hKK] at hf1
 try rw[hKK]
 clear ho1 hKK
 try simp only[Act.put,yA,yB,yC,yD,yE,yF]
 refine oE 4 ?_
 go_simp
 refine (onum_ok wE wA _ [2] W 2 hf1 (by decide) (by decide) (by decide) (by have:=HW.out.1;omega)).mono ?_
 rintro e wB ⟨v1,rfl,hf2⟩
 refine⟨hf2.chg,?_⟩
 obtain⟨b3,hb3⟩:∃b3,[2]++beB W 2=b3:=⟨_,rfl⟩
 have hb3l:b3.length=3:=by rw[←hb3];simp[beB_length]
 rw[hb3] at hf2
 have HB3:=zA hb3 hb3l
 clear hb3 hb3l
 obtain⟨ao1,cap1,rfl⟩:=hf2.shape
 try simp only[Act.put,yA,yB,yC,yD,yE,yF]
 refine oE 8 ?_
 go_simp
 refine (onum_ok wE wB _ b3 H 2 hf2 (by have:=HB3.out.2;omega) (by decide) (by decide) (by have:=HW.out.2;omega)).mono ?_
 rintro e wC ⟨v2,rfl,hf3⟩
 refine⟨hf3.chg,?_⟩
 obtain⟨b5,hb5⟩:∃b5,b3++beB H 2=b5:=⟨_,rfl⟩
 have hb5l:b5.length=5:=by rw[←hb5,List.length_append,HB3.out.2,beB_length]
 rw[hb5] at hf3
 have hb5:[2]++beB W 2++beB H 2=b5:=by rw[HB3.out.1];exact hb5
 obtain⟨ao2,cap2,rfl⟩:=hf3.shape
 skip
 try simp only[Act.put,yA,yB,yC,yD,yE,yF]
 refine tE 9 (.slice ao2 b5.length cap2) hf3.chg (fun w4 c4=>?_) ?_
 ·go_simp
 try simp only[Act.put,yA,yB,yC,yD,yE,yF]
 refine wpAnyE_done (by kernel_rfl) ?_ _
 have hbC:=hbE.chg0 hf3.chg
 have HF:=zB hf3 hb5 hb5l
 have HCC:=zH (HCE.out.nil hf3.chg)
 clear hf1 hf2 hf3 hbE c0 hb5 hb5l
 go_upto_region 4 with (fail)
 obtain⟨S,hS⟩:∃S,(Value.slice ao2 b5.length cap2).ownBlock.toList=S:=⟨_,rfl⟩
 refine wp_region_E S (by kernel_rfl) ?_
 have hSn:∀k∈S,K<k:=fun k hk=>by
  have h1:=HF.out.1.new k (by rw[hS];exact hk)
  have h2:=HEs.out
  omega
 have cD:Chg [] wC wC.drew:=(Chg.refl _ _).drew
 have hbD:=hbC.chg0 cD
 have hoD:OwnB wC.drew (.slice ao2 b5.length cap2) b5:=Aq.Own.chg HF.out.1.own cD (fun _ _=>by simp)
 have HCD:=zH (HCC.out.nil cD)
 have HSn:Hid (∀k∈S,K<k):=hSn
 have hKS:K∉S:=fun h=>by have:=hSn K h;omega
 clear hbC cD HCC hSn
 generalize wC.drew=wF at *
 obtain⟨y0,y1,y2,y3,y4⟩:=Blk5 hbD
 have c0:Chg S wF wF:=Chg.refl _ _
 have HSS:Hid ((Value.slice ao2 b5.length cap2).ownBlock.toList=S):=hS
 clear hS
 refine tE 0 (.slice ao2 b5.length cap2) c0 (fun w4 c4=>?_) ?_
 ·go_simp
 try simp only[Act.put,yA,yB,yC,yD,yE,yF]
 refine tE 1 (.pointer (some ⟨K,0,none⟩)) c0 (fun w4 c4=>?_) ?_
 ·go_simp
 try simp only[Act.put,yA,yB,yC,yD,yE,yF]
 refine tE 2 (.pointer (some ⟨K,2,none⟩)) c0 (fun w4 c4=>?_) ?_
 ·go_simp
 try simp only[Act.put,yA,yB,yC,yD,yE,yF]
 refine tE 3 (.int .i64 C) c0 (fun w4 c4=>?_) ?_
 ·have z0:=c4.cell_some y0 hKS
  have z1:=c4.cell_some y1 hKS
  have z2:=c4.cell_some y2 hKS
  have z3:=c4.cell_some y3 hKS
  have z4:=c4.cell_some y4 hKS
  go_simp
 try simp only[Act.put,yA,yB,yC,yD,yE,yF]
 refine tE 4 (.int .u8 C) c0 (fun w4 c4=>?_) ?_
 ·go_simp
 try simp only[Act.put,yA,yB,yC,yD,yE,yF]
 refine tE 5 (.pointer (some ⟨K,0,none⟩)) c0 (fun w4 c4=>?_) ?_
 ·go_simp
 try simp only[Act.put,yA,yB,yC,yD,yE,yF]
 refine tE 6 (.pointer (some ⟨K,3,none⟩)) c0 (fun w4 c4=>?_) ?_
 ·go_simp
 try simp only[Act.put,yA,yB,yC,yD,yE,yF]
 refine tE 7 (.int .i64 D) c0 (fun w4 c4=>?_) ?_
 ·have z0:=c4.cell_some y0 hKS
  have z1:=c4.cell_some y1 hKS
  have z2:=c4.cell_some y2 hKS
  have z3:=c4.cell_some y3 hKS
  have z4:=c4.cell_some y4 hKS
  go_simp
 try simp only[Act.put,yA,yB,yC,yD,yE,yF]
 refine tE 8 (.int .u8 D) c0 (fun w4 c4=>?_) ?_
 ·go_simp
 try simp only[Act.put,yA,yB,yC,yD,yE,yF]
 refine tE 11 (.pointer (some ⟨K,4,none⟩)) c0 (fun w4 c4=>?_) ?_
 ·go_simp
 try simp only[Act.put,yA,yB,yC,yD,yE,yF]
 refine tE 12 (.slice ao n cap) c0 (fun w4 c4=>?_) ?_
 ·have z0:=c4.cell_some y0 hKS
  have z1:=c4.cell_some y1 hKS
  have z2:=c4.cell_some y2 hKS
  have z3:=c4.cell_some y3 hKS
  have z4:=c4.cell_some y4 hKS
  go_simp
 try simp only[Act.put,yA,yB,yC,yD,yE,yF]
 clear y0 y1 y2 y3 y4
 refine oE 9 ?_
 go_simp
 have eB:(#[.int .u8 (C:Int),.int .u8 (D:Int)]:Array Value)=(Bs [UInt8.ofNat C,UInt8.ofNat D]).toArray:=by simp only[Bs,Bc,List.map_cons,List.map_nil,HU.out.1,HU.out.2]
 have hs9:Sees (wF.alloc (.cells #[.int .u8 (C:Int),.int .u8 (D:Int)] 5)) 1 (.slice (some ⟨wF.heap.size,0,none⟩) 2 2) 2 (Bs [UInt8.ofNat C,UInt8.ofNat D]):=by rw[eB];exact Sees.row (Blk.new wF (Bs [UInt8.ofNat C,UInt8.ofNat D]).toArray 5) (m:=2) rfl
 have c9:Chg [] wF (wF.alloc (.cells #[.int .u8 (C:Int),.int .u8 (D:Int)] 5)):=(Chg.refl _ _).alloc _
 have ho9:Aq.Own (wF.alloc (.cells #[.int .u8 (C:Int),.int .u8 (D:Int)] 5)) 5 1 (.slice ao2 b5.length cap2) b5.length (Bs b5):=Aq.Own.chg hoD c9 (fun _ _=>by simp)
 refine⟨c9.toS,?_⟩
 clear eB
 generalize wF.alloc (.cells #[.int .u8 (C:Int),.int .u8 (D:Int)] 5)=wG at *
 obtain⟨KK2,hKK2⟩:∃KK2,wF.heap.size=KK2:=⟨_,rfl⟩
 rw[hKK2] at hs9
 try rw[hKK2]
 clear hKK2
 try simp only[Act.put,yA,yB,yC,yD,yE,yF]
 refine oE 10 ?_
 refine wp_app _ _ 36 rfl sl_u8 ho9 rfl hs9 rfl (one_Bs _) (by have:=HF.out.2.2;omega) (by have:=HF.out.2.2;omega) ?_
 intro v10 w10 ho10 c10 n10
 rw[HSS.out] at c10 n10
 have cS10:Chg S wF w10:=c9.toS.tr c10
 refine⟨cS10,?_⟩
 have hB10:OwnB w10 v10 (b5++[UInt8.ofNat C,UInt8.ofNat D]):=OwnB.app ho10 rfl
 obtain⟨b7,hb7⟩:∃b7,b5++[UInt8.ofNat C,UInt8.ofNat D]=b7:=⟨_,rfl⟩
 have hb7l:b7.length=7:=by rw[←hb7,List.length_append,HF.out.2.2];rfl
 rw[hb7] at hB10
 have HB7:=zA hb7 hb7l
 clear hb7 hb7l ho10
 obtain⟨ao10,cap10,rfl⟩:=hB10.shape
 try simp only[Act.put,yA,yB,yC,yD,yE,yF]
 refine oE 13 ?_
 go_simp
 have hn10:∀k∈(Value.slice ao10 b7.length cap10).ownBlock.toList,K<k:=fun k hk=>by
  rcases n10 k hk with h | h
  ·exact HSn.out k h
  ·have h2:=c9.size;have h3:=HCD.out.size;have h4:=HA.out.2.2.2.2.2;have h5:=hbD.lt;omega
 have hx10:Sees w10 1 (.slice ao n cap) n (names l):=(HA.out.1.chg0 HCD.out).chg cS10 (fun t ht ht'=>by have h1:=HA.out.2.2.2.2.1 t ht;have h2:=HSn.out t ht';have h3:=HA.out.2.2.2.2.2;omega)
 refine (okeysU w10 _ b7 hB10 (by have:=HB7.out.2;omega) l (.slice ao n cap) n HA.out.2.1 hx10 (fun t ht ht'=>by have h1:=HA.out.2.2.2.2.1 t ht;have h2:=hn10 t ht';have h3:=HA.out.2.2.2.2.2;omega) HA.out.2.2.2.1 HA.out.2.2.1).mono ?_
 rintro e w13 ⟨v13,rfl,ho13,u13⟩
 have cS13:Chg S wF w13:=cS10.trans u13.chg (fun t ht=>by rcases n10 t ht with h | h;(exact .inl h);(right;have h2:=c9.size;omega))
 refine⟨cS13,?_⟩
 obtain⟨bL,hbL⟩:∃bL,b7++rawKs l=bL:=⟨_,rfl⟩
 rw[hbL] at ho13
 have HBL:=zH hbL
 clear hbL
 obtain⟨ao13,cap13,rfl⟩:=ho13.shape
 try simp only[Act.put,yA,yB,yC,yD,yE,yF]
 refine tE 14 (.slice ao13 bL.length cap13) cS13 (fun w4 c4=>?_) ?_
 ·go_simp
 try simp only[Act.put,yA,yB,yC,yD,yE,yF]
 refine wpAnyE_done (by kernel_rfl) ?_ _
 have HO:=zA ho13 cS13
 clear ho13 cS13 hx10 hB10
 go_wp2_with fail
 go_ret
 refine⟨_,rfl,?_,HCD.out.trans HO.out.2 (fun k hk=>.inr (by have h1:=HSn.out k hk;have h2:=HA.out.2.2.2.2.2;omega))⟩
 have e7:[2]++beB W 2++beB H 2++[UInt8.ofNat C,UInt8.ofNat D]=b7:=by rw[HF.out.2.1];exact HB7.out.1
 have eR:bL=R:=by rw[←HR.out,e7];exact HBL.out.symm
 rw[←eR]
 exact HO.out.1
theorem tbytes_ok (w:World) (t:TreeD) (v:Value) (n:Nat) (hn:t.keys.length=n) (hv:Sees w 1 v n (names t.keys)) (hb:n≤100000) (hs:∀k∈t.keys,k.length≤1000000):
  Calls Tryz.prog 372 #[treeV t v] w fun e w'=>∃v',e=.returned v'∧Sees w' 1 v' (treeB t).length (Bs (treeB t))∧Chg [] w w':=by
 cases hm:mayTree t with
 | false=>
  have e:treeB t=[]:=by unfold treeB;rw[hm];rfl
  rw[e]
  refine (tbytes_no w t v n hn hv hb hs hm).mono ?_
  rintro e w1 ⟨rfl,c1⟩
  exact⟨_,rfl,Sees.nil _ _,c1⟩
 | true=>
  have hnum:numsB t.shp=true:=by have h:=may_shape hm;unfold maySh at h;simp only[Bool.and_eq_true] at h;exact h.1
  obtain⟨hw,hh,hc,hd⟩:=(numsB_iff t.shp).1 hnum
  obtain⟨s,l⟩:=t
  simp only at hw hh hc hd
  obtain⟨W,hW⟩:∃W:Nat,s.w=W:=⟨s.w.toNat,by omega⟩
  obtain⟨H,hH⟩:∃H:Nat,s.h=H:=⟨s.h.toNat,by omega⟩
  obtain⟨C,hC⟩:∃C:Nat,s.c=C:=⟨s.c.toNat,by omega⟩
  obtain⟨D,hD⟩:∃D:Nat,s.d=D:=⟨s.d.toNat,by omega⟩
  obtain⟨sw,sh,sc,sd⟩:=s
  simp only at hW hH hC hD hw hh hc hd
  subst hW hH hC hD
  have e:treeB ⟨⟨W,H,C,D⟩,l⟩=([2]++beB W 2++beB H 2++[UInt8.ofNat C,UInt8.ofNat D])++rawKs l:=by
   unfold treeB
   rw[hm]
   simp[treeT]
  rw[e]
  refine (tbytes_yes w W H C D (by omega) (by omega) (by omega) (by omega) l v n hn hv hb hs hm).mono ?_
  rintro e w1 ⟨v',rfl,ho,c1⟩
  exact⟨v',rfl,Aq.Own.sees ho,c1⟩
end
end Go.Proofs.YtlidiclfpklliaaGreatDoor
