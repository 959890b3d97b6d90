/- AppS DkX DkQ DkY -/
import Derived.Test.YtlbdklaggalgfaaGreatDoorFzD
set_option linter.unusedSimpArgs false
set_option linter.unusedVariables false
set_option maxHeartbeats 16000000
namespace Go.Aq
open Go.RowKit Go.Aq.Fy
theorem run_appS {P:Program} (w:World) (t u ty e:TypeId) (i:TypeInfo) (ht:P.underlying t=some (.slice e)) (hu:P.underlying u=some .string) (hi:P.info? e=some i) (hz:i.zero=some (.int .u8 0)) (hsize:i.size=1) (hby:i.bytes=1)
  (v:Value) (n:Nat) (xs:List Value) (hown:Own w e 1 v n xs) (s:List UInt8) (hb:n+s.length≤140737488355328):
  ∃v' w',(Builtin.append_ #[t,u] ty #[v,.string (str s)]).run P w=.ok v' w'∧Own w' e 1 v' (n+s.length) (xs++Bs s)∧Chg v.ownBlock.toList w w'∧(∀k∈v'.ownBlock.toList,k∈v.ownBlock.toList∨w.heap.size≤k):=by
 have hsz:=str_size s;obtain⟨v',w',hr,h2,h3,h4⟩:=Lib.run_append_own_string w 0 t u ty e i ht hu hi hz hsize hby v n xs hown (str s) (by rw[hsz];unfold maxLen;omega) (by rw[hsz];exact hb) (Nat.zero_le _);rw[hsz,strCells_str] at h2;refine⟨v',w',hr,h2,Chg.of_grown h3,?_⟩;have hxl:xs.length=n:=by simpa using hown.1
 rcases hown.2 with ⟨rfl,rfl⟩ | ⟨g,cap,cur,rfl,hbg,hg,hnc,hcm,hcs,htake⟩
 ·have hx:xs=[]:=List.eq_nil_of_length_eq_zero hxl;subst hx;obtain⟨v2,w2,hr2,k2,k3,-⟩:=Lib.run_append_own_string w w.heap.size t u ty e i ht hu hi hz hsize hby (.slice none 0 0) 0 [] (World.ownsRow_nil w _ _ _) (str s) (by rw[hsz];unfold maxLen;omega) (by rw[hsz];exact hb) (Nat.le_refl _);rw[hr] at hr2;injection hr2 with e1 e2;subst e1 e2;intro k hk;right;rcases k2.2 with ⟨rfl,-⟩ | ⟨g,cap,cs,rfl,k4,-⟩
  ·simp[Value.ownBlock] at hk
  ·simp[Value.ownBlock] at hk;omega
 ·by_cases hroom:n+(str s).size≤cap
  ·have hcs':cur.size=cap:=by simpa using hcs
   have hr2:=Lib.run_append_room_string (P:=P) w t u ty e i ht hu hi hsize g n cap cur hg (str s) hroom (by omega);rw[hr] at hr2;injection hr2 with e1 e2;subst e1;intro k hk;exact .inl hk
  ·have holds:∀j u,xs[j]?=some u→w.cell? ((⟨g,0,none⟩:Addr).add j)=some u:=World.ownsRow.cells hown (g:=g) rfl;have hr2:=Lib.run_append_grow_string (P:=P) w t u ty e i (.int .u8 0) ht hu hi hz ⟨g,0,none⟩ n cap xs (by rw[hsize];simpa using hxl) holds (str s) (by omega) (by rw[hsz];omega) (by rw[hby];exact growslice_fits (by omega) (by rw[hsz];omega));rw[hr] at hr2;injection hr2 with e1 e2;subst e1;intro k hk;right;simp[Value.ownBlock] at hk;omega
theorem wp_appS {P:Program} {W:World} {o:Oper} {a:Act} {K:Act→World→Prop} {Q:Exit→Act→World→Prop} (s x:Operand) (t u:TypeId)
  (ho:o.op=.call { callee:=.builtin .append,args:=#[s,x],argTypes:=#[t,u] }) {e:TypeId} (ht:SliceTy P t e (.int .u8 0) 1 1) (hu:P.underlying u=some .string)
  {v:Value} {n:Nat} {xs:List Value} (hown:Own W e 1 v n xs) (hs:a.eval s=v) (l:List UInt8) (hx:a.eval x=.string (str l)) (hb:n+l.length≤140737488355328)
  (h:∀v' W',Own W' e 1 v' (n+l.length) (xs++Bs l)→Chg v.ownBlock.toList W W'→(∀k∈v'.ownBlock.toList,k∈v.ownBlock.toList∨W.heap.size≤k)→K (a.put o.dst v') W'):o.wp P a W K Q:=by
 obtain⟨ht1,ht2,ht3,ht4⟩:=ht;obtain⟨i,hi,hz0,hz1,hby⟩:=info_parts ht2;obtain⟨v',w',hr,h2,h3,h4⟩:=run_appS (P:=P) W t u o.type e i ht1 hu hi hz0 hz1 hby v n xs hown l hb;unfold Oper.wp execOp;simp only[ho,resolve,invoke,builtin,Sem.run_bind,Sem.run_pure,Result.andThen_ok,List.map_toArray,List.map_cons,List.map_nil,hs,hx,hr];exact h v' w' h2 h3 h4
end Go.Aq
namespace Go.Aq.Fy
structure FC where
 nm:Nm
 sz:Nat
 ks:List Nat
 bl:Value
 fr:Bool
 dv:Value
def FC.cs (x:FC):List Value:=[.string (str x.nm),.int .i64 x.sz,x.bl,.bool x.fr,x.dv]
def fcc (M:List FC):List Value:=M.flatMap FC.cs
theorem fcc_key (a:FC) (t:List FC) (j k:Nat):(fcc (a::t))[(j+1) * 5+k]?=(fcc t)[j * 5+k]?:=by
 show (a.cs++fcc t)[(j+1) * 5+k]?=_;have e3:a.cs.length=5:=rfl;rw[List.getElem?_append_right (by rw[e3];omega),e3];congr 1;omega
theorem fcc_at:∀(M:List FC) (j:Nat) (h:j<M.length) (k:Nat),k<5→(fcc M)[j * 5+k]?=(M[j]'h).cs[k]?
 | [],j,h,_,_=>by simp at h
 | a::t,0,h,k,hk=>by
  show (a.cs++fcc t)[0 * 5+k]?=_;have e3:a.cs.length=5:=rfl;rw[Nat.zero_mul,Nat.zero_add,List.getElem?_append_left (by rw[e3];exact hk)];rfl
 | a::t,j+1,h,k,hk=>by rw[fcc_key,fcc_at t j (by simpa using h) k hk];rfl
theorem fcc_cells {w:World} {g off n:Nat} {M:List FC} (hl:M.length=n) (hc:∀j,j<n * 5→w.cell? ⟨g,off+j,none⟩=(fcc M)[j]?) (j:Nat) (h:j<M.length):
  w.cell? ⟨g,off+j * 5,none⟩=some (.string (str (M[j]'h).nm))∧w.cell? ⟨g,off+j * 5+1,none⟩=some (.int .i64 (M[j]'h).sz)∧w.cell? ⟨g,off+j * 5+2,none⟩=some (M[j]'h).bl∧w.cell? ⟨g,off+j * 5+3,none⟩=some (.bool (M[j]'h).fr)∧w.cell? ⟨g,off+j * 5+4,none⟩=some (M[j]'h).dv:=
 ⟨(hc (j * 5) (by omega)).trans (fcc_at M j h 0 (by decide)),(hc (j * 5+1) (by omega)).trans (fcc_at M j h 1 (by decide)),(hc (j * 5+2) (by omega)).trans (fcc_at M j h 2 (by decide)),(hc (j * 5+3) (by omega)).trans (fcc_at M j h 3 (by decide)),(hc (j * 5+4) (by omega)).trans (fcc_at M j h 4 (by decide))⟩
def tlM (M:List FC):Nat:=2+(M.map fun x=>5+x.nm.length+2 * x.ks.length).sum
theorem tlM_succ (M:List FC) (i:Nat) (h:i<M.length):tlM (M.take (i+1))=tlM (M.take i)+5+(M[i]'h).nm.length+2 * (M[i]'h).ks.length:=by
 unfold tlM;rw[List.take_succ_eq_append_getElem h,List.map_append,List.sum_append];simp;omega
end Go.Aq.Fy
namespace Go.Proofs.YtlbdklaggalgfaaGreatDoor
section
open Go.RowKit Go.Aq.Fy Go.Maps
open Go.Aq hiding Own
structure FcR (w:World) (x:FC):Prop where
 nm:x.nm.length≤80
 sz:x.sz≤65535
 ks:x.ks.length≤256
 lt:∀k∈x.ks,k<4096
 bl:Sees w 1 x.bl x.ks.length (ints x.ks)
theorem FcR.chg0 {w w':World} {x:FC} (h:FcR w x) (c:Chg [] w w'):FcR w' x:=⟨h.nm,h.sz,h.ks,h.lt,h.bl.chg0 c⟩
theorem tlM_le {w:World}:∀{M:List FC},(∀x∈M,FcR w x)→tlM M≤2+600 * M.length
 | [],_=>by simp[tlM]
 | x::M,h=>by
  have ih:=tlM_le (M:=M) fun y hy=>h y (.tail _ hy)
  have h1:=h x (.head _);have:=h1.nm;have:=h1.ks;unfold tlM at ih ⊢;rw[List.map_cons,List.sum_cons,List.length_cons];omega
set_option maxRecDepth 100000 in
theorem dtable_ok (w:World) (v:Value) (M:List FC) (hv:Sees w 5 v M.length (fcc M)) (hM:∀x∈M,FcR w x) (hl:M.length≤100):
  Calls Tryz.prog 67 #[v] w fun e w'=>∃ao cap bs,e=.returned (.slice ao (tlM M) cap)∧Fresh w w' 5 1 (.slice ao (tlM M) cap) (tlM M) (Bs bs):=by
 obtain⟨lo,lcap,rfl,-⟩:=hv.shape;have hbg:=bigD w M.length 2 (by decide) (by decide) (by omega);have HV:=zA hv hM;clear hv hM;obtain⟨n,HN⟩:∃n,Hid (M.length=n):=⟨_,rfl⟩;rw[HN.out] at hl hbg ⊢;go_enter Tryz.func67,Tryz.ntmps67;go_wp2_with fail;refine hbg.mono ?_;rintro e w1 ⟨g1,c1,rfl,hF1⟩;have HF1:=zH hF1;clear hF1 hbg;go_wp2_with fail;go_loopg [3,4] n (fun gk (v3 v4:Value) wr=>∃(i m:Nat) (a3:Option Addr) (c3:Nat),v3=.slice a3 m c3∧v4=.int .i64 (i:Int)∧i+gk=n∧Hid (m=tlM (M.take i)∧∃bs,Fresh w wr 5 1 (.slice a3 m c3) m (Bs bs)));case atStart=>exact⟨0,2,_,c1,rfl,rfl,by omega,rfl,_,HF1.out⟩
 case round=>
  obtain⟨i,m,a3,c3,rfl,rfl,hik,HI⟩:=hrel;obtain⟨hm,bs,hF⟩:=HI.out;by_cases hi:i<n
  ·have t1:decide ((i:Int)<(n:Int))=true:=decide_eq_true (by omega);have t1':decide (i<n)=true:=decide_eq_true hi;have i2:(i:Int)<(n:Int):=by omega
   have hil:i<M.length:=by rw[HN.out];exact hi
   obtain⟨g,off,cap',hs,-,hgl,hcell⟩:=HV.out.1.cells (by omega);rw[HN.out] at hs hcell;simp only[Value.slice.injEq,true_and] at hs;obtain⟨hs1,hs2⟩:=hs;subst hs1;obtain⟨y0,y1,y2,-,-⟩:=fcc_cells HN.out hcell i hil;have hR:=HV.out.2 _ (List.getElem_mem hil);have hmb:m≤60002:=by
    have:=tlM_le (M:=M.take i) fun x hx=>HV.out.2 x (List.mem_of_mem_take hx)
    rw[List.length_take] at this;omega
   have hsu:=tlM_succ M i hil;generalize M[i]=x at *;obtain⟨nm,sz,ks,bl,fr,dv⟩:=x;simp only at y0 y1 y2 hsu;obtain⟨r1,r2,r3,r4,r5⟩:=hR;simp only at r1 r2 r3 r4 r5;obtain⟨q,hq⟩:∃q,nm.length=q:=⟨_,rfl⟩;obtain⟨m3,hm3⟩:∃m3,ks.length=m3:=⟨_,rfl⟩;rw[hm3] at r3 r5;obtain⟨ab,cb,rfl,-⟩:=r5.shape;have hss:(str nm).size=q:=by rw[str_size];exact hq
   have hu8:IntKind.u8.wrap (q:Int)=(q:Int):=by unfold IntKind.wrap;simp[IntKind.signed,IntKind.bits];omega
   obtain⟨gb,cb2,hgb,-,-,-⟩:=hF.own.pos (by rw[hm];unfold tlM;omega);simp only[Value.slice.injEq,true_and] at hgb;obtain⟨hgb1,hgb2⟩:=hgb;subst hgb1;have hgn:=hF.new gb (by simp[Value.ownBlock]);have hgg:g∉[gb]:=by
    have:g<w.heap.size:=HV.out.1.lt (by decide) g (by show g∈(if M.length=0 then [] else [g]);rw[if_neg (by omega)];simp);simp;omega
   have HY:Hid (∀W,Chg [] w W→W.cell? ⟨g,off+i * 5,none⟩=some (.string (str nm))∧W.cell? ⟨g,off+i * 5+1,none⟩=some (.int .i64 sz)∧W.cell? ⟨g,off+i * 5+2,none⟩=some (.slice ab m3 cb)):=fun W c=>⟨c.cell_some y0 (by simp),c.cell_some y1 (by simp),c.cell_some y2 (by simp)⟩
   have HYE:Hid (∀W,Chg [gb] wr.drew W→W.cell? ⟨g,off+i * 5,none⟩=some (.string (str nm))∧W.cell? ⟨g,off+i * 5+1,none⟩=some (.int .i64 sz)):=fun W c=>by
    have cc:Chg [gb] wr W:=((Chg.refl _ wr).drew).tr c;exact⟨cc.cell_some ((HY.out _ hF.chg).1) hgg,cc.cell_some ((HY.out _ hF.chg).2.1) hgg⟩
   have hw3:=zH (show wrap64 ((i:Int)+1)=((i+1:Nat):Int) from by unfold wrap64;omega);have e8:Bs [UInt8.ofNat q]=[Value.int .u8 (q:Int)]:=by
    have:(UInt8.ofNat q).toNat=q:=by rw[UInt8.toNat_ofNat'];omega
    simp[Bs,Bc,this]
   have hF0:=hF.to (w':=wr.drew) ((Chg.refl [] wr).drew);have hbz:=fun W=>bigD W sz 4 (by decide) (by decide) (by omega)
   have HH:=zF hm hsu hik hi r5 r4 hq;have hqb:q≤80:=by omega
   clear hm hsu hik hi r5 r4 r1 r2 hcell hgl hs2 y0 y1 y2 hF HI hil hgb2;go_upto_region 5 with (fail);refine wp_region_E [gb] (by kernel_rfl) ?_;have C0:Chg [gb] wr.drew wr.drew:=Chg.refl _ _;generalize wr.drew=W0 at *;refine tE 0 (.slice (some ⟨gb,0,none⟩) m c3) C0 (fun w4 c4=>?_) ?_;·go_simp
   refine yG ?_;refine tE 1 (.slice (some ⟨g,off,none⟩) n lcap) C0 (fun w4 c4=>?_) ?_;·go_simp
   refine yG ?_;refine tE 2 (.int .i64 (i:Int)) C0 (fun w4 c4=>?_) ?_;·go_simp
   refine yG ?_;refine tE 3 (.pointer (some ⟨g,off+i * 5,none⟩)) C0 (fun w4 c4=>?_) ?_;·go_simp
   refine yG ?_;refine tE 4 (.pointer (some ⟨g,off+i * 5,none⟩)) C0 (fun w4 c4=>?_) ?_;·go_simp
   refine yG ?_;refine tE 5 (.string (str nm)) C0 (fun w4 c4=>?_) ?_
   ·obtain⟨z0,z1⟩:=HYE.out w4 c4;go_simp
   refine yG ?_;refine tE 6 (.int .i64 (q:Int)) C0 (fun w4 c4=>?_) ?_;·go_simp
   refine yG ?_;refine tE 7 (.int .u8 (q:Int)) C0 (fun w4 c4=>?_) ?_;·go_simp
   refine yG ?_;refine tE 10 (.slice (some ⟨g,off,none⟩) n lcap) C0 (fun w4 c4=>?_) ?_;·go_simp
   refine yG ?_;refine tE 11 (.int .i64 (i:Int)) C0 (fun w4 c4=>?_) ?_;·go_simp
   refine yG ?_;refine tE 12 (.pointer (some ⟨g,off+i * 5,none⟩)) C0 (fun w4 c4=>?_) ?_;·go_simp
   refine yG ?_;refine tE 13 (.pointer (some ⟨g,off+i * 5,none⟩)) C0 (fun w4 c4=>?_) ?_;·go_simp
   refine yG ?_;refine tE 14 (.string (str nm)) C0 (fun w4 c4=>?_) ?_
   ·obtain⟨z0,z1⟩:=HYE.out w4 c4;go_simp
   refine yG ?_;refine tE 16 (.slice (some ⟨g,off,none⟩) n lcap) C0 (fun w4 c4=>?_) ?_;·go_simp
   refine yG ?_;refine tE 17 (.int .i64 (i:Int)) C0 (fun w4 c4=>?_) ?_;·go_simp
   refine yG ?_;refine tE 18 (.pointer (some ⟨g,off+i * 5,none⟩)) C0 (fun w4 c4=>?_) ?_;·go_simp
   refine yG ?_;refine tE 19 (.pointer (some ⟨g,off+i * 5+1,none⟩)) C0 (fun w4 c4=>?_) ?_;·go_simp
   refine yG ?_;refine tE 20 (.int .i64 (sz:Int)) C0 (fun w4 c4=>?_) ?_
   ·obtain⟨z0,z1⟩:=HYE.out w4 c4;go_simp
   refine yG ?_;refine oE 8 ?_;go_simp;have cA:Chg [] W0 (W0.alloc (.cells #[.int .u8 (q:Int)] 5)):=(Chg.refl [] _).alloc _;have hS1:Sees (W0.alloc (.cells #[.int .u8 (q:Int)] 5)) 1 (.slice (some ⟨W0.heap.size,0,none⟩) 1 1) 1 [.int .u8 (q:Int)]:=Sees.row (cs:=#[.int .u8 (q:Int)]) (Blk.new W0 _ _) rfl;have hF1:=hF0.to cA;have C1:=C0.nil cA;have N0:W0.heap.size≤(W0.alloc (.cells #[.int .u8 (q:Int)] 5)).heap.size:=cA.size;refine⟨C1,?_⟩;generalize W0.alloc (.cells #[.int .u8 (q:Int)] 5)=W1 at *;generalize hK1:W0.heap.size=K1 at *;clear cA hF0 C0;refine yG ?_;refine oE 9 ?_;refine wp_app _ _ 38 (by rfl) sl_u8D (v:=.slice (some ⟨gb,0,none⟩) m c3) (n:=m) (xs:=Bs bs) hF1.own (by rfl) (vx:=.slice (some ⟨K1,0,none⟩) 1 1) (m:=1) (news:=[.int .u8 (q:Int)]) hS1 (by rfl) (by intro u hu;rw[List.mem_singleton.1 hu];rfl) (by omega) (by omega) ?_;intro v9 W9 o9 e9 n9;have hF9:=hF1.app o9 e9 n9;have N9:∀x∈v9.ownBlock.toList,x∈[gb]∨K1≤x:=fun x hx=>by
    rcases n9 x hx with h | h
    ·exact .inl (by simpa[Value.ownBlock] using h)
    ·exact .inr (Nat.le_trans N0 h)
   have C9:Chg [gb] W0 W9:=C1.trans e9 (fun x hx=>.inl (by simpa[Value.ownBlock] using hx));have S9:K1≤W9.heap.size:=by rw[←hK1];exact C9.size
   obtain⟨a9,c9,rfl,-⟩:=hF9.shape;rw[←e8,←Bs_append] at hF9;refine⟨C9,?_⟩;clear o9 e9 n9 hS1 hF1 C1;refine yG ?_;refine oE 15 ?_;refine wp_appS _ _ 38 9 (by rfl) sl_u8D Tryz.underlying9 hF9.own (by rfl) nm (by rfl) (by have:=HH.out.2.2.2.2.2.2;omega) ?_;intro v5 W5 o5 e5 n5;have hF5:=hF9.app o5 e5 n5;have N5:∀x∈v5.ownBlock.toList,x∈[gb]∨K1≤x:=fun x hx=>by
    rcases n5 x hx with h | h
    ·exact N9 x h
    ·exact .inr (Nat.le_trans S9 h)
   have C5:Chg [gb] W0 W5:=C9.trans e5 (fun x hx=>by rw[hK1];exact N9 x hx);rw[HH.out.2.2.2.2.2.2,←Bs_append] at hF5;obtain⟨a5,c5,rfl,-⟩:=hF5.shape;refine⟨C5,?_⟩;clear o5 e5 n5 hF9 C9 N9;refine yG ?_;refine oE 21 ?_;go_simp;refine (hbz _).mono ?_;rintro e W6 ⟨g4,c4,rfl,h4⟩;have C6:=C5.nil h4.chg;have hF6:=hF5.to h4.chg;refine⟨C6,?_⟩;clear C5 hF5 hbz;refine yG ?_;refine oE 22 ?_;refine wp_app _ _ 38 (by rfl) sl_u8D hF6.own (by rfl) (m:=4) (news:=Bs (beB sz 4)) h4.own.sees (by rfl) (Bs_one _) (by omega) (by omega) ?_;intro v7 W7 o7 e7 n7;have hF7:=hF6.app o7 e7 n7;have C7:Chg [gb] W0 W7:=C6.trans e7 (fun x hx=>by rw[hK1];exact N5 x hx);obtain⟨a7,c7,rfl,-⟩:=hF7.shape;rw[←Bs_append] at hF7;refine⟨C7,?_⟩;clear o7 e7 n7 hF6 C6 N5 h4;refine yG ?_;refine tE 23 (.slice a7 (m+1+q+4) c7) C7 (fun w4 c4=>?_) ?_;·go_simp
   refine yG ?_;refine wpAnyE_done (by kernel_rfl) ?_ _;have HF7:Hid (∃bs,Fresh w W7 5 1 (.slice a7 (m+1+q+4) c7) (m+1+q+4) (Bs bs)):=⟨_,hF7⟩;clear C7 hF7 N0 S9 HYE hgg hgn;obtain⟨mI,hmI⟩:∃mI,m+1+q+4=mI:=⟨_,rfl⟩;rw[hmI] at HF7;(try rw[hmI]);go_wp2_with fail;obtain⟨G,hG⟩:∃G,G=gk:=⟨_,rfl⟩;have HG:=zH hG;clear hG;have hmIb:mI≤60100:=by omega
   have HMI:=zH hmI;clear hmI hmb;go_loopg [3,5] m3 (fun gk2 (v3 v5:Value) wr2=>∃(k mm:Nat) (a:Option Addr) (c:Nat),v3=.slice a mm c∧v5=.int .i64 (k:Int)∧k+gk2=m3∧Hid (mm=mI+2 * k∧∃bs,Fresh w wr2 5 1 (.slice a mm c) mm (Bs bs)));case atStart=>exact⟨0,mI,a7,c7,rfl,rfl,by omega,rfl,HF7.out⟩
   case round=>
    obtain⟨k,mm,a,c,rfl,rfl,hk,HK⟩:=hrel;obtain⟨hmm,bs2,hF2⟩:=HK.out;obtain⟨-,-,z2⟩:=HY.out _ hF2.chg;by_cases hkm:k<m3
    ·have t2:decide ((k:Int)<(m3:Int))=true:=decide_eq_true (by omega);have t2':decide (k<m3)=true:=decide_eq_true hkm;have k2:(k:Int)<(m3:Int):=by omega
     obtain⟨gk',offk,capk,hsk,-,-,hck⟩:=(HH.out.2.2.2.2.1.chg0 hF2.chg).cells (by omega);simp only[Value.slice.injEq,true_and] at hsk;obtain⟨hsk1,hsk2⟩:=hsk;subst hsk1;have hkl:k<ks.length:=by omega
     have yk:=hck k (by omega);rw[show (ints ks)[k]?=some (.int .i64 ((ks[k]'hkl:Nat):Int)) by simp[ints,hkl]] at yk;have hlt:=HH.out.2.2.2.2.2.1 _ (List.getElem_mem hkl);generalize ks[k]=key at *;have hbk:=fun W=>bigD W key 2 (by decide) (by decide) (by omega)
     have hw4:=zH (show wrap64 ((k:Int)+1)=((k+1:Nat):Int) from by unfold wrap64;omega);have HK2:=zB hk hkm hmm;have hmb2:mm≤60700:=by omega
     have HF2:=zH hF2;clear hk hkm hmm hF2 hck hsk2 hkl hlt HK hm3;go_wp2_with fail;refine (hbk _).mono ?_;rintro e W8 ⟨g8,c8,rfl,hF8⟩;have HF8:=zH hF8;have HF9:=zH (HF2.out.to hF8.chg);clear hF8 hbk yk z2;go_wp2_with (at_builtin;refine wpList_appF (w0:=w) rfl _ _ 38 rfl sl_u8D (by exact HF9.out) rfl (by exact HF8.out.own.sees) rfl (Bs_one _) (by omega) (by omega) ?_;intro v4 w4 hF5 c5;obtain⟨a5,p5,rfl,-⟩:=hF5.shape;have HF5:=zH hF5;clear hF5 c5);go_roundg (gk - 1);case measure=>have:=HK2.out;omega
     case rel=>exact⟨k+1,mm+2,a5,p5,rfl,by first | rfl | rw[hw4.out],by have:=HK2.out;omega,by have:=HK2.out;omega,bs2++beB key 2,by rw[Bs_append];exact HF5.out⟩
    ·have t2:decide ((k:Int)<(m3:Int))=false:=decide_eq_false (by omega);have t2':decide (k<m3)=false:=decide_eq_false hkm;have hmt:mm=tlM (M.take (i+1)):=by
      have h1:=HH.out.2.1;have h2:=HH.out.1;have h3:=HMI.out;have h4:=HH.out.2.2.2.2.2.2;omega
     have HM2:=zA hmt hF2;clear hk hkm hmm hF2 HK hmt;go_wp2_with fail;go_roundg (G - 1);case measure=>have:=HH.out.2.2;have:=HG.out;omega
     case rel=>exact⟨i+1,mm,a,c,rfl,by first | rfl | rw[hw3.out],by have:=HH.out.2.2;have:=HG.out;omega,HM2.out.1,bs2,HM2.out.2⟩
  ·have t1:decide ((i:Int)<(n:Int))=false:=decide_eq_false (by omega);have t1':decide (i<n)=false:=decide_eq_false hi;obtain rfl:i=n:=by omega
   rw[List.take_of_length_le (by rw[HN.out];exact Nat.le_refl _)] at hm;subst hm;have HF:=zH hF;clear hF HI hik hi;go_wp2_with fail;go_ret;exact⟨a3,c3,bs,rfl,HF.out⟩
end
section
open Go.RowKit Go.Aq Go.Aq.Fy Go.Maps
theorem sl_intD:SliceTy Tryz.prog 101 3 (.int .i64 0) 1 8:=⟨Tryz.underlying101,by kernel_rfl,rfl,by decide⟩
theorem dcount_ok (w:World) (n:Nat) (hn:n≤1000000000):
  Calls Tryz.prog 65 #[.int .i64 n] w fun e w'=>e=.returned (.int .i64 (cnt n))∧w'=w:=by
 have h1:wrap64 ((n:Int)+256)=(n:Int)+256:=by unfold wrap64;omega
 have h2:wrap64 ((n:Int)+256 - 1)=((n+255:Nat):Int):=by unfold wrap64;omega
 have h3:((n+255:Nat):Int).tdiv 256=(cnt n:Nat):=by
  unfold cnt;rw[Int.tdiv_eq_ediv_of_nonneg (by omega)];omega
 have h4:wrap64 ((cnt n:Nat):Int)=(cnt n:Nat):=by unfold wrap64 cnt;omega
 go_enter Tryz.func65,Tryz.ntmps65;go_wp2_with fail;go_ret;refine⟨congrArg (fun z=>Ending.returned (.int .i64 z)) (?_:_=((cnt n:Nat):Int)),rfl⟩;unfold cnt;omega
set_option maxRecDepth 100000 in
theorem dfree_ok (w:World) (S:List Nat) (f p l sq ps:Nat) (now:Nat→Sec) (q:Nat) (h:DsR w S f p l sq ps (.slice none 0 0) now q):
  Calls Tryz.prog 64 #[.pointer (some ⟨f,0,none⟩)] w fun e w'=>∃v',e=.returned v'∧Fresh w w' 3 1 v' 173 (ints (List.range 173)):=by
 have H:=zH h;clear h;go_enter Tryz.func64,Tryz.ntmps64;go_wp2_with fail;go_loopg [3,4] 173 (fun gk (v3 v4:Value) wr=>∃(i:Nat) (a3:Option Addr) (c3:Nat),v3=.slice a3 i c3∧v4=.int .i64 (i:Int)∧i+gk=173∧Hid (Fresh w wr 3 1 (.slice a3 i c3) i (ints (List.range i))));case atStart=>exact⟨0,none,0,rfl,rfl,rfl,Fresh.nil _ _ _⟩
 case round=>
  obtain⟨i,a3,c3,rfl,rfl,hik,HF⟩:=hrel;have hal:=dall_ok wr S f p l sq ps (.slice none 0 0) now q (H.out.chg0 HF.out.chg);by_cases hi:i<173
  ·have t1:decide ((i:Int)<173)=true:=by simp;omega
   have i1:(i:Int)<173:=by omega
   have HI:=zH hik;clear hik;go_wp2_with fail;refine hal.mono ?_;rintro e w1 ⟨rfl,c1⟩;have HF1:=zH (HF.out.to c1);obtain⟨-,-,-,d3⟩:=fd4 (H.out.chg0 HF1.out.chg).fs;clear hal c1 HF;go_wp2_with fail;refine wp_loop_once ?_;have e1:ints (List.range i)++[Value.int .i64 (i:Int)]=ints (List.range (i+1)):=by rw[List.range_succ];simp[ints]
   have w3:=zH (show wrap64 ((i:Int)+1)=((i+1:Nat):Int) from by unfold wrap64;omega);have HE:=zH e1;clear e1;go_wp2_with (at_builtin;refine wpList_appF (w0:=w) rfl _ _ 101 rfl sl_intD (by exact HF1.out.to ((Chg.refl [] w1).alloc (.cells #[.int .i64 (i:Int)] 3))) rfl (m:=1) (news:=[.int .i64 (i:Int)]) (by exact Sees.row (cs:=#[.int .i64 (i:Int)]) (Blk.new w1 _ 3) rfl) rfl (by intro u hu;rw[List.mem_singleton.1 hu];rfl) (by omega) (by omega) ?_;intro v4 w4 hF4 c4;obtain⟨a4,p4,rfl,-⟩:=hF4.shape;have HF4:=zH hF4;clear hF4 c4);go_roundg (gk - 1);case measure=>have:=HI.out;omega
   case rel=>exact⟨i+1,a4,p4,rfl,by first | rfl | rw[w3.out],by have:=HI.out;omega,by rw[←HE.out];exact HF4.out⟩
  ·have t1:decide ((i:Int)<173)=false:=by simp;omega
   obtain rfl:i=173:=by omega
   clear hik hi;go_wp2_with fail;refine hal.mono ?_;rintro e w1 ⟨rfl,c1⟩;have HF1:=zH (HF.out.to c1);clear hal c1 HF;go_wp2_with fail;go_ret;exact⟨_,rfl,HF1.out⟩
theorem dslot_ok (w:World) (l p sq ps:Nat) (h:LgD w l p sq ps) (i:Nat) (hi:i≤1000) (hp:ps≤1000):
  Calls Tryz.prog 130 #[.pointer (some ⟨l,0,none⟩),.int .i64 i] w fun e w'=>(∃k:Nat,e=.returned (.int .i64 k)∧2≤k∧k<22)∧Chg [] w w':=by
 obtain⟨-,c1,-,c3⟩:=lg4 h;have h1:wrap64 ((ps:Int)+(i:Int))=((ps+i:Nat):Int):=by unfold wrap64;omega
 have h2:((ps+i:Nat):Int).tmod 20=(((ps+i) % 20:Nat):Int):=by rw[Int.tmod_eq_emod_of_nonneg (by omega)];omega
 have h4:wrap64 (2+((ps:Int)+(i:Int)) % 20)=2+((ps:Int)+(i:Int)) % 20:=by unfold wrap64;omega
 have h5:wrap64 (2+(((ps+i:Nat):Int)) % 20)=2+(((ps+i:Nat):Int)) % 20:=by unfold wrap64;omega
 clear h hi hp;go_enter Tryz.func130,Tryz.ntmps130;go_wp2_with fail;go_quiet (fail);go_wp2_with fail;go_ret;refine⟨⟨2+(ps+i) % 20,congrArg (fun z=>Ending.returned (.int .i64 z)) (?_:_=((2+(ps+i) % 20:Nat):Int)),by omega,by omega⟩,(Chg.refl _ _).drewN _⟩;simp
end
section
open Go.RowKit Go.Aq.Fy Go.Maps
open Go.Aq hiding Own
def PcR (B:Nat) (w:World) (x:Value):Prop:=∃a c b,x=.slice a 256 c∧Sees w 1 (.slice a 256 c) 256 (Bs b)∧∀k∈eyes (.slice a 256 c),B≤k
theorem PcR.chg0 {B:Nat} {w w':World} {x:Value} (h:PcR B w x) (c:Chg [] w w'):PcR B w' x:=by
 obtain⟨a,c',b,h1,h2,h3⟩:=h;exact⟨a,c',b,h1,h2.chg0 c,h3⟩
theorem pieceD {w:World} {g n c k:Nat} {B:Sec} (h:Sees w 1 (.slice (some ⟨g,0,none⟩) (256 * n) c) (256 * n) (Bs B)) (hk:k<n):
  Sees w 1 (.slice (some ⟨g,256 * k,none⟩) 256 (c - 256 * k)) 256 (Bs ((B.drop (256 * k)).take 256)):=by
 have hl:=h.len;rw[Bs_length] at hl;obtain⟨h1,ao,c',h2,h3,h4,h5⟩:=h;simp only[Value.slice.injEq,true_and] at h2;obtain⟨rfl,rfl⟩:=h2;refine⟨by rw[Bs_length,List.length_take,List.length_drop];omega,_,_,rfl,by omega,by simp,fun ad had j u hu=>?_⟩;simp only[Option.some.injEq] at had;subst had;have e:Bs ((B.drop (256 * k)).take 256)=((Bs B).drop (256 * k)).take 256:=by simp[Bs,List.map_take,List.map_drop]
 rw[e,List.getElem?_take] at hu;split at hu
 ·rw[List.getElem?_drop] at hu;have:=h5 _ rfl _ u hu;rw[Addr.add_lit] at this ⊢;rw[Nat.zero_add] at this;exact this
 ·cases hu
set_option maxRecDepth 100000 in
theorem dsect_ok (w0 w:World) (f p l n cap:Nat) (v:Value) (ao:Option Addr) (bs:Sec) (hf:FdB w f p l v) (hb:Fresh w0 w 5 1 (.slice ao n cap) n (Bs bs)) (h2:0<n) (hn:n≤1024) (hlt:f<w0.heap.size):
  Calls Tryz.prog 68 #[.pointer (some ⟨f,0,none⟩),.slice ao n cap] w fun e w'=>∃v' xs,e=.returned v'∧Fresh w0 w' 38 1 v' 4 xs∧∀x∈xs,PcR w0.heap.size w' x:=by
 obtain⟨-,-,c2,-⟩:=fd4 hf;obtain⟨k,hk⟩:∃k,n+k=1024:=⟨1024 - n,by omega⟩;have ew:wrap64 (1024 - (n:Int))=(k:Int):=by unfold wrap64;omega
 have ew':=wIqD ew;have ee:1024 - (n:Int)=(k:Int):=by omega
 have hbl:bs.length=n:=by have:=hb.own.1;rw[Bs_length] at this;omega
 have HH:=zD hk h2 hlt hf hbl;have HE:=zH ee;have HB:=zH hb;clear hf hb h2 hn hlt hk ee hbl;go_enter Tryz.func68,Tryz.ntmps68;go_upto_region 3 with (at_builtin;refine wpList_appZ' (k:=k) rfl _ _ 38 3 rfl sl_u8D rfl rfl Tryz.underlying3 HB.out rfl rfl (by first | exact ew | exact ew' | exact HE.out | rfl) (.inr HH.out.2.1) (by have:=HH.out.1;omega) (by have:=HH.out.1;omega) ?_;intro v1 w1 hF1 cF1;rw[HH.out.1] at hF1;have HF1:=zA hF1 cF1;clear hF1 cF1);obtain⟨hF1,cF1⟩:=HF1.out;obtain⟨g1,c1,rfl,hc1,-,-⟩:=hF1.own.pos (by decide);have e0:Bs bs++List.replicate k (Value.int .u8 0)=Bs (bs++nul k):=by rw[Bs_append];simp[nul,Bs,Bc]
 rw[e0] at hF1;have x2:w1.cell? ⟨f,2,none⟩=some (.int .i64 4):=by
  have hfo:f∉(Value.slice ao n cap).ownBlock.toList:=fun hm=>by have:=HB.out.new f hm;have:=HH.out.2.2.1;omega
  exact cF1.cell_some c2 hfo
 have HS:Hid (Sees w1 1 (.slice (some ⟨g1,0,none⟩) (256 * 4) c1) (256 * 4) (Bs (bs++nul k))∧w0.heap.size≤g1∧Chg [] w0 w1):=⟨hF1.own.sees,hF1.new g1 (by simp[Value.ownBlock]),hF1.chg⟩;have n0:¬c1=0:=by omega
 have n1:¬c1=256:=by omega
 have n2:¬c1=512:=by omega
 have n3:¬c1=768:=by omega
 have l1:(256:Int)≤(c1:Int):=by omega
 have l2:(512:Int)≤(c1:Int):=by omega
 have l3:(768:Int)≤(c1:Int):=by omega
 have l4:(1024:Int)≤(c1:Int):=by omega
 have q1:256≤c1:=by omega
 have q2:512≤c1:=by omega
 have q3:768≤c1:=by omega
 clear hF1 cF1 HF1 e0 c2 ew ew' HE;go_wp2_with fail;go_loopg [5,6] 4 (fun gk (v5 v6:Value) wr=>∃(i:Nat) (a5:Option Addr) (c5:Nat),v5=.slice a5 i c5∧v6=.int .i64 (i:Int)∧i+gk=4∧Hid (∃xs,Fresh w1 wr 38 1 (.slice a5 i c5) i xs∧∀x∈xs,∃j,j<4∧x=.slice (some ⟨g1,256 * j,none⟩) 256 (c1 - 256 * j)));case atStart=>exact⟨0,none,0,rfl,rfl,rfl,[],Fresh.nil _ _ _,fun x hx=>by simp at hx⟩
 case round=>
  obtain⟨i,a5,c5,rfl,rfl,hik,HI⟩:=hrel;obtain⟨xs,hF,hX⟩:=HI.out;have x2':=hF.chg.cell_some x2 (by simp);have HF:=zH hF;have HX:=zH hX;clear hF hX HI;have hP:Hid (∀W,Chg [] w1 W→∀j,j<4→PcR w0.heap.size W (.slice (some ⟨g1,256 * j,none⟩) 256 (c1 - 256 * j))):=fun W cW j hj=>⟨_,_,_,rfl,(pieceD HS.out.1 hj).chg0 cW,fun m hm=>by
    have:m=g1:=by simpa[eyes] using hm
    rw[this];exact HS.out.2.1⟩
  by_cases hi:i<4
  ·have hcase:i=0∨i=1∨i=2∨i=3:=by omega
   have HK:=zH hik;clear hik hi;rcases hcase with rfl | rfl | rfl | rfl
   all_goals
    go_wp2_with (at_builtin;refine wpList_appF (w0:=w1) rfl _ _ 111 rfl sl_sure (by exact HF.out.to ((Chg.refl [] wr).alloc _)) rfl (m:=1) (by exact Sees.row (Blk.new wr _ _) rfl) rfl (by intro u hu;rw[List.mem_singleton.1 hu];rfl) (by decide) (by decide) ?_;intro v4 w4 hF4 c4;obtain⟨a4,p4,rfl,-⟩:=hF4.shape;have HF4:=zH hF4;clear hF4 c4);go_roundg (gk - 1);case measure=>have:=HK.out;omega
    case rel=>exact⟨_,a4,p4,rfl,rfl,by have:=HK.out;omega,_,HF4.out,fun x hx=>by
     rcases List.mem_append.1 hx with h | h
     ·exact HX.out x h
     ·rw[List.mem_singleton.1 h];first | exact⟨0,by decide,rfl⟩ | exact⟨1,by decide,rfl⟩ | exact⟨2,by decide,rfl⟩ | exact⟨3,by decide,rfl⟩⟩
  ·obtain rfl:i=4:=by omega
   clear hik hi;go_wp2_with fail;go_ret;exact⟨_,xs,rfl,⟨HF.out.own,HS.out.2.2.nil HF.out.chg,fun m hm=>Nat.le_trans HS.out.2.2.size (HF.out.new m hm)⟩,fun x hx=>by
    obtain⟨j,h1,rfl⟩:=HX.out x hx;exact hP.out _ HF.out.chg j h1⟩
end
end Go.Proofs.YtlbdklaggalgfaaGreatDoor
