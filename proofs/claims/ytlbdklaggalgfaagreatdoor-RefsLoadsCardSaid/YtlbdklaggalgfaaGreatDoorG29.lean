/- EkB FzL -/
import Derived.Test.YtlbdklaggalgfaaGreatDoorG27
import Derived.Test.YtlbdklaggalgfaaGreatDoorDkN
set_option linter.unusedSimpArgs false
set_option linter.unusedVariables false
set_option maxHeartbeats 8000000
namespace Go.Aq.Fy
open Go.RowKit
theorem allV_app:∀(a b:List ChangeD) (V:View),allV V (a++b)=if (allV V a).2=0 then allV (allV V a).1 b else allV V a
 | [],b,V=>by simp[allV]
 | c::a,b,V=>by
  by_cases h:(oneV V c).2=0
  ·have e1:∀l,allV V (c::l)=allV (oneV V c).1 l:=fun l=>if_pos h
   rw[List.cons_append,e1,e1,allV_app a b (oneV V c).1]
  ·have e1:∀l,allV V (c::l)=oneV V c:=fun l=>if_neg h
   rw[List.cons_append,e1,e1,if_neg h]
theorem oneV_asc {V:View} (c:ChangeD) (h:Asc V):Asc (oneV V c).1∧(oneV V c).1.length≤V.length+1:=by
 have t:∀b,Asc (tellV V c.name b).1∧(tellV V c.name b).1.length≤V.length+1:=fun b=>by
  unfold tellV;split;·exact⟨h,by simp⟩
  ·exact⟨asc_ins _ _ h,ins_length_le _ _ _⟩
 have s:∀e:Nat,Asc ((V,e):View×Nat).1∧((V,e):View×Nat).1.length≤V.length+1:=fun e=>⟨h,by simp⟩
 have d:Asc (delK c.name V)∧(delK c.name V).length≤V.length+1:=⟨asc_del _ h,Nat.le_succ_of_le (del_length_le _ _)⟩;have r:Asc (renameV V c.name c.tonm).1∧(renameV V c.name c.tonm).1.length≤V.length+1:=by
  unfold renameV;split;·exact s 6
  ·split;·exact s 0
   ·split;·exact s 7
    ·exact⟨asc_del _ (asc_ins _ _ h),Nat.le_trans (del_length_le _ _) (ins_length_le _ _ _)⟩
 unfold oneV;split;·exact s 16
 ·split;·exact t _
  ·split;·exact s 7
   ·split
    ·split;·exact t _
     ·exact s 6
    ·split;·exact r
     ·split;·exact s 1
      ·split;·exact d
       ·exact s 6
theorem allV_asc:∀(l:List ChangeD) {V:View},Asc V→Asc (allV V l).1∧(allV V l).1.length≤V.length+l.length
 | [],V,h=>⟨h,by simp[allV]⟩
 | c::l,V,h=>by
  obtain⟨h1,h2⟩:=oneV_asc c h;unfold allV;split
  ·obtain⟨h3,h4⟩:=allV_asc l h1;exact⟨h3,by rw[List.length_cons];omega⟩
  ·exact⟨h1,by rw[List.length_cons];omega⟩
def f0 (x:DF):FC:=⟨x.nm,x.dat.length,[],.slice none 0 0,true,x.dv⟩
theorem fcs_f0 (L:List DF):fcs L=fcc (L.map f0):=by
 unfold fcs fcc;rw[List.flatMap_map];rfl
def pcB (d:Sec):List Sec:=(List.range (cnt d.length)).map fun i=>((d++nul (cnt d.length * 256 - d.length)).drop (256 * i)).take 256
theorem pcB_len (d:Sec):(pcB d).length=cnt d.length:=by simp[pcB]
def pcL (L:List DF):List Sec:=L.flatMap fun x=>pcB x.dat
theorem pcL_len (L:List DF):(pcL L).length=needW (L.map DF.pr):=by
 induction L with
 | nil=>rfl
 | cons x L ih=>
  unfold pcL at ih ⊢;rw[List.flatMap_cons,List.length_append,ih,pcB_len];rfl
theorem pcL_get (L:List DF) (i t:Nat) (hi:i<L.length) (ht:t<cnt (L[i]'hi).dat.length):(pcL L).getD ((pcL (L.take i)).length+t) []=(((L[i]'hi).dat++nul (cnt (L[i]'hi).dat.length * 256 - (L[i]'hi).dat.length)).drop (256 * t)).take 256:=by
 have e:L=L.take i++L[i]::L.drop (i+1):=by rw[←List.drop_eq_getElem_cons hi,List.take_append_drop]
 have e2:pcL L=pcL (L.take i)++(pcB (L[i]'hi).dat++pcL (L.drop (i+1))):=by
  conv=>lhs;rw[e]
  unfold pcL;rw[List.flatMap_append,List.flatMap_cons]
 rw[e2,List.getD_eq_getElem?_getD,List.getElem?_append_right (by omega),Nat.add_sub_cancel_left,List.getElem?_append_left (by rw[pcB_len];exact ht)];simp[pcB,ht]
theorem pcL_take (L:List DF) (i:Nat) (hi:i<L.length):(pcL (L.take (i+1))).length=(pcL (L.take i)).length+cnt (L[i]'hi).dat.length:=by
 rw[List.take_succ_eq_append_getElem hi];unfold pcL;rw[List.flatMap_append,List.length_append];simp[pcB_len]
theorem pcL_le (L:List DF) (i:Nat):(pcL (L.take i)).length≤(pcL L).length:=by
 have e:=congrArg pcL (List.take_append_drop i L);unfold pcL at e ⊢;rw[List.flatMap_append] at e;rw[←e,List.length_append];omega
end Go.Aq.Fy
namespace Go.Aq
open Go.RowKit
theorem Sees.setNe {w:World} {sz n:Nat} {v:Value} {xs:List Value} (h:Sees w sz v n xs) {A:Addr} {y:Value} (hA:w.cell? A=some y) (hy:∀u∈xs,u≠y) (u':Value):Sees (w.setCell A u') sz v n xs:=by
 obtain⟨h1,ao,cap,h2,h3,h4,h5⟩:=h;refine⟨h1,ao,cap,h2,h3,h4,fun ad had j u hu=>?_⟩;have h6:=h5 ad had j u hu;have hne:ad.add j≠A:=fun e=>by
  rw[e,hA] at h6;cases h6;exact hy _ (List.mem_of_getElem? hu) rfl
 rw[World.cell?_setCell_other _ _ _ _ (fun e=>hne e.symm)];exact h6
theorem MapF.eyes {P:Program} {k:TypeId} {w:World} {b:Nat} {f:Value→Option Value} (h:MapF P k w b f) {sz n:Nat} {v:Value} {xs:List Value} (hs:Sees w sz v n xs) (hsz:0<sz):b∉eyes v:=by
 obtain⟨es,clock,h1,-⟩:=h;obtain⟨k1,ao,cap,rfl,k3,k4,k5⟩:=hs;intro hb;cases ao with
 | none=>simp[Aq.eyes] at hb
 | some a=>
  have hb':b∈(if n=0 then [] else [a.block]):=hb;by_cases hn:n=0;·rw[if_pos hn] at hb';cases hb'
  ·rw[if_neg hn,List.mem_singleton] at hb';have hx:0<xs.length:=by rw[k1];exact Nat.mul_pos (Nat.pos_of_ne_zero hn) hsz
   have h0:=k5 a rfl 0 _ (List.getElem?_eq_getElem hx);have hc:w.cell? (a.add 0)=none:=by
    have:(a.add 0)=a:=by simp[Addr.add]
    rw[this];unfold World.cell?;rw[←hb',h1]
   rw[hc] at h0;cases h0
theorem wp_appZ {P:Program} {w0 W:World} {o:Oper} {a:Act} {K:Act→World→Prop} {Q:Exit→Act→World→Prop} (s x:Operand) (t tn:TypeId)
  (ho:o.op=.call { callee:=.builtin .append,args:=#[s,x],argTypes:=#[t,tn] }) {e:TypeId} {z:Value} {bytes:Nat} (ht:SliceTy P t e z 1 bytes) (hzc:z.cells=#[z]) (hz1:z.oneCell'=true) {kn kq:IntKind} (htn:P.underlying tn=some (.int kn))
  {ao:Option Addr} {n cap:Nat} {xs:List Value} (hf:Fresh w0 W e 1 (.slice ao n cap) n xs) (hs:a.eval s=.slice ao n cap) {k:Nat} (hx:a.eval x=.int kq (k:Int)) (hk:k=0∨0<n)
  (hb:(n+k) * bytes≤140737488355328) (h63:n+k≤9223372036854775807)
  (h:∀v' W',Fresh w0 W' e 1 v' (n+k) (xs++List.replicate k z)→Chg (Value.slice ao n cap).ownBlock.toList W W'→K (a.put o.dst v') W'):o.wp P a W K Q:=by
 have fin:∀v' W',(Builtin.append_ #[t,tn] o.type #[.slice ao n cap,.int kq (k:Int)]).run P W=.ok v' W'→Fresh w0 W' e 1 v' (n+k) (xs++List.replicate k z)→Chg (Value.slice ao n cap).ownBlock.toList W W'→o.wp P a W K Q:=fun v' W' hr h1 h2=>by
  unfold Oper.wp execOp;simp only[ho,resolve,invoke,builtin,Sem.run_bind,Sem.run_pure,Result.andThen_ok,List.map_toArray,List.map_cons,List.map_nil,hs,hx,hr];exact h v' W' h1 h2
 obtain⟨ht1,ht2,ht3,ht4⟩:=ht;obtain⟨i,hi,hz0,h1,rfl⟩:=info_parts ht2;by_cases hk0:k=0
 ·subst hk0;obtain⟨_,_,he,hnc⟩:=hf.shape;cases he;exact fin _ _ (run_appZ0 (P:=P) W t tn o.type e i z ht1 kn kq htn hi hz0 _ n _ hnc) (by simpa using hf) (Chg.refl _ _)
 ·obtain⟨g,c,he,-⟩:=hf.own.pos (by omega);cases he;obtain⟨v',w',hr,h2,h3,h4⟩:=run_appZ (P:=P) W t tn o.type e i z ht1 kn kq htn hi hz0 hzc h1 hz1 g n cap xs hf.own k (by omega) h63 hb;exact fin v' w' hr (hf.app h2 (h3.mono fun j hj=>.inl (by simpa[Value.ownBlock] using hj)) (fun b hb=>by simpa[Value.ownBlock] using h4 b hb)) (h3.mono fun j hj=>.inl (by simpa[Value.ownBlock] using hj))
end Go.Aq
namespace Go.Proofs.YtlbdklaggalgfaaGreatDoor
open Go.RowKit Go.Aq Go.Aq.Fy Go.Maps
def DoEndX (w:World) (Sd X:List Nat) (f d l bf:Nat) (R:FsD×Nat) (e:Ending) (w':World):Prop:=
 e=.returned (.int .i64 R.2)∧∃Sd' bf',FsR w' Sd' X f d l bf' R.1∧Upd (f::l::bf::Sd) (f::l::bf'::Sd') w w'
theorem DoEndX.same {w w':World} {Sd X:List Nat} {f d l bf:Nat} {F:FsD} (h:FsR w Sd X f d l bf F) (c:Chg [] w w') (e:Nat):DoEndX w Sd X f d l bf (F,e) (.returned (.int .i64 (e:Int))) w':=
 ⟨rfl,Sd,bf,h.chg0 c,c.toS,fun _ h=>.inl h⟩
theorem lin7 {i k m:Nat} (h:i+k=m) (hi:i<m):i+1+(k - 1)=m∧k - 1<k:=by omega
theorem do_fsr {w w8 w9 w10:World} {Sd S9 T X:List Nat} {f d l bf bf':Nat} {F:FsD} {D2:DiskD} {L9:LogD} {fs:Files} (hF8:FsR w8 Sd X f d l bf F) (hX:∀k∈X,k<w.heap.size) (c8:Chg [] w w8) (hlt:In w (f::l::bf::Sd)) (hD9:DiskR w9 S9 d D2) (hL9:LogR w9 l d L9) (hU9:Upd (l::Sd) (l::S9) w8 w9) (hl9:l∉S9)
  (hr:L9.ring=F.log.ring) (hn:D2.n=F.disk.n) (hfs:FilesR w8 T bf' fs) (hTX:∀k∈X,k∈T) (hT:∀k∈f::l::bf'::Sd,k∈T) (hb:bf'=bf∨w.heap.size≤bf'∧bf'<w8.heap.size) (c10:Chg [f] w9 w10) (hb10:Blk w10 f #[.pointer (some ⟨d,0,none⟩),.pointer (some ⟨l,0,none⟩),.int .i64 F.mt,.map (some bf')] 95):
  FsR w10 S9 X f d l bf' ⟨D2,L9,F.mt,fs⟩∧Upd (f::l::bf::Sd) (f::l::bf'::S9) w w10:=by
 obtain⟨n1,n2,n3,n4,n5,n6⟩:=hF8.ne;have hs8:=c8.size;have hfl:=hlt f (by simp);have hll:=hlt l (by simp);have hbl:=hlt bf (by simp);have hf9:f∉S9:=fun hh=>by
  rcases hU9.new f (by simp[hh]) with h1 | h1
  ·rcases List.mem_cons.1 h1 with h2 | h2
   ·exact n1 h2
   ·exact n4 h2
  ·omega
 have hbS:bf'∉l::Sd:=fun hh=>by
  rcases hb with rfl | ⟨h1,h2⟩
  ·rcases List.mem_cons.1 hh with h3 | h3
   ·exact n3 h3.symm
   ·exact n6 h3
  ·rcases List.mem_cons.1 hh with h3 | h3
   ·omega
   ·have:=hlt bf' (by simp[h3]);omega
 have hb9:bf'∉S9:=fun hh=>by
  rcases hU9.new bf' (by simp[hh]) with h1 | h1
  ·exact hbS h1
  ·rcases hb with rfl | ⟨_,h2⟩ <;> omega
 have hbf:f≠bf':=by rcases hb with rfl | ⟨h1,h2⟩;(exact n2);omega
 have hbl':l≠bf':=fun e=>hbS (by simp[e])
 have hnew:∀k∈S9,k∈l::Sd∨w8.heap.size≤k:=fun k hk=>hU9.new k (by simp[hk])
 have hblk9:=hF8.blk.chg hU9.chg (fun hh=>by rcases List.mem_cons.1 hh with h | h;(exact n1 h);exact n4 h);have hD10:DiskR w10 S9 d D2:=hD9.off1 hblk9 (fun i x=>by rcases i with _ | _ | _ | _ | i <;> simp) c10 hf9;have hL10:LogR w10 l d L9:=hL9.chg c10 (by simpa using fun e=>n1 e.symm);have hsm:=hF8.small;have hfi:firstF ⟨D2,L9,F.mt,fs⟩=firstF F:=by unfold firstF homeL;rw[hr]
 have haway:Disj X (f::l::bf'::S9):=fun k hk hk'=>by
  have h1:=hF8.away k hk;have h2:=hX k hk;simp only[List.mem_cons,not_or] at h1 hk';rcases hk' with h | h | h | h
  ·exact h1.1 h
  ·exact h1.2.1 h
  ·rcases hb with rfl | ⟨h3,_⟩
   ·exact h1.2.2.1 h
   ·omega
  ·rcases hnew k h with h3 | h3
   ·rcases List.mem_cons.1 h3 with h4 | h4
    ·exact h1.2.1 h4
    ·exact h1.2.2.2 h4
   ·omega
 refine⟨⟨hb10,hD10,hL10,?_,⟨n1,hbf,hbl',hf9,hl9,hb9⟩,haway,?_⟩,?_,?_⟩
 ·have h1:=hfs.wide (T:=T++S9) (fun k hk=>by
   rcases List.mem_append.1 hk with h | h
   ·exact .inl h
   ·rcases hnew k h with h2 | h2
    ·refine .inl (hT k ?_);simp only[List.mem_cons] at h2 ⊢;rcases h2 with h2 | h2
     ·exact .inr (.inl h2)
     ·exact .inr (.inr (.inr h2))
    ·exact .inr h2)
  have h2:=h1.chg hU9.chg (fun k hk=>.inl (List.mem_append_left _ (hT k (by
   simp only[List.mem_cons] at hk ⊢;rcases hk with h2 | h2
   ·exact .inr (.inl h2)
   ·exact .inr (.inr (.inr h2)))))) hbS
  have h3:=h2.chg c10 (fun k hk=>.inl (by simp at hk;subst hk;exact List.mem_append_left _ (hT _ (by simp)))) (by simpa using fun e=>hbf e.symm);exact h3.wide fun k hk=>.inl (by
   simp only[List.mem_append,List.mem_cons] at hk;rcases hk with h | h | h | h | h
   ·exact List.mem_append_left _ (hTX k h)
   ·exact List.mem_append_left _ (hT k (by simp[h]))
   ·exact List.mem_append_left _ (hT k (by simp[h]))
   ·exact List.mem_append_left _ (hT k (by simp[h]))
   ·exact List.mem_append_right _ h)
 ·rw[hfi];simp only[hr,hn];exact hsm
 ·refine (c8.toS.tr (hU9.chg.mono (fun k hk=>.inl ?_))).tr (c10.mono (fun k hk=>.inl (by simp at hk;simp[hk])));simp only[List.mem_cons] at hk ⊢;rcases hk with h | h
  ·exact .inr (.inl h)
  ·exact .inr (.inr (.inr h))
 ·intro k hk;simp only[List.mem_cons] at hk ⊢;rcases hk with h | h | h | h
  ·exact .inl (.inl h)
  ·exact .inl (.inr (.inl h))
  ·subst h;rcases hb with rfl | ⟨h1,_⟩
   ·exact .inl (.inr (.inr (.inl rfl)))
   ·exact .inr h1
  ·rcases hnew k h with h2 | h2
   ·simp only[List.mem_cons] at h2;rcases h2 with h2 | h2
    ·exact .inl (.inr (.inl h2))
    ·exact .inl (.inr (.inr (.inr h2)))
   ·exact .inr (by omega)
set_option maxRecDepth 100000 in
theorem rows_nil (a:Option Addr) (n c:Nat) (w:World):(binOp .eql 111 (.slice a n c) (.slice none 0 0)).run Tryz.prog w=.ok (.bool a.isNone) w:=Lib.run_eql_slice_nil w _ _ _ _ _ _ _ Tryz.underlying111
set_option maxRecDepth 100000 in
theorem do_okX {q:Nat} (w:World) (Sd X:List Nat) (f d l bf:Nat) (F:FsD) (hF:FsR w Sd X f d l bf F) (hX:∀k∈X,k<w.heap.size) (hI:FInv q F) (hq:q<2^47) (cs:List ChangeD) (hcs:∀c∈cs,c.name.length≤1048576∧c.tonm.length≤1048576∧c.data.length≤1000000) (hcl:cs.length≤1000) (v:Value) (xs:List Value) (hv:Sees w 4 v cs.length xs) (hx:CellsC w cs xs):
  Calls Tryz.prog 16 #[.pointer (some ⟨f,0,none⟩),v] w (DoEndX w Sd X f d l bf (doF F cs)):=by
 have HX0:=zH hX;clear hX;obtain⟨⟨c0,c1,c2,c3⟩,-⟩:=Blk.c4b hF.blk;have hcl0:=fclone_any w _ bf F.files hF.files;obtain⟨ao,cap,rfl,-⟩:=hv.shape;obtain⟨N,hN⟩:∃N,cs.length=N:=⟨_,rfl⟩;obtain⟨R,hR⟩:∃R,doF F cs=R:=⟨_,rfl⟩;rw[hN] at hv hcl ⊢;rw[hR];have hltF:=hF.lt;have HH:=zH (And.intro hF (And.intro hI (And.intro hq (And.intro hcs (And.intro hcl (And.intro hv (And.intro hx (And.intro hN (And.intro hR hltF)))))))));clear hF hI hq hcs hcl hv hx hN hR hltF;go_enter Tryz.func16,Tryz.ntmps16;go_wp2_with fail;refine hcl0.mono ?_;rintro e w1 ⟨rfl,hL1,c1w,hlt1⟩;clear hcl0;obtain⟨bl,hbl⟩:∃bl,w.heap.size=bl:=⟨_,rfl⟩;rw[hbl] at hL1 hlt1 ⊢;obtain⟨w2,hw2⟩:∃w2,w1.alloc (.map #[] 0)=w2:=⟨_,rfl⟩;obtain⟨br,hbr⟩:∃br,w1.heap.size=br:=⟨_,rfl⟩;have rm:(Instr.makeMap 104 none).run Tryz.prog w1=.ok (.map (some br)) w2:=by rw[←hw2,←hbr];kernel_rfl
 have k2:Chg [] w1 w2:=by rw[←hw2];exact (Chg.refl [] w1).alloc _
 have hRm:MapS Tryz.prog 9 w2 br []:=by rw[←hw2,←hbr];exact MapS.made _ _ _
 have hsz2:=zH (show w2.heap.size=br+1 by rw[←hw2,←hbr];simp);clear hw2;go_upto_region 2 with (fail);obtain⟨w3,hw3⟩:∃w3,w2.alloc (.cells #[.pointer (some ⟨f,0,none⟩),.map (some bl),.map (some br)] 106)=w3:=⟨_,rfl⟩;obtain⟨g,hg⟩:∃g,w2.heap.size=g:=⟨_,rfl⟩;have hbg:Blk w3 g #[.pointer (some ⟨f,0,none⟩),.map (some bl),.map (some br)] 106:=by rw[←hw3,←hg];exact Blk.new _ _ _
 have k3:Chg [] w2 w3:=by rw[←hw3];exact (Chg.refl [] w2).alloc _
 rw[hw3,hg];clear hw3;have hlt:=HH.out.2.2.2.2.2.2.2.2.2;have hold:∀t∈f::l::bf::Sd,t<bl:=fun t ht=>by have:=hlt t ht;omega
 have holdX:∀t∈X++f::l::bf::Sd,t<bl:=fun t ht=>by
  rcases List.mem_append.1 ht with h | h
  ·have:=HX0.out t h;omega
  ·exact hold t h
 have HO:=zH holdX;have hW:WorkR w3 (X++f::l::bf::Sd) g f bl br ⟨F.files,[]⟩:=by
  have hsz2:=hsz2.out;have h1:=hL1 (bl::br::(X++f::l::bf::Sd)) (fun t ht=>by
   rcases List.mem_cons.1 ht with h | ht
   ·exact .inr (by omega)
   rcases List.mem_cons.1 ht with h | h
   ·exact .inr (by omega)
   ·exact .inl h)
  refine⟨hbg,((h1.chg k2 (by simp) (by simp)).chg k3 (by simp) (by simp)),⟨[],hRm.chg0 k3,trivial⟩,by omega,fun hh=>?_,fun hh=>?_,fun hh=>?_⟩
  ·rcases List.mem_cons.1 hh with h | hh
   ·omega
   rcases List.mem_cons.1 hh with h | h
   ·omega
   ·have:=holdX g h;omega
  ·have:=holdX bl hh;omega
  ·have:=holdX br hh;omega
 have H3:=zD hW ((c1w.nil k2).nil k3) hbl hold (show bl<br by omega);have HG:=zH (show bl≤g by have:=hsz2.out;omega);clear hW c1w k2 k3 hRm hbg hL1 hlt1 hbl hbr hg hsz2 hlt hold holdX rm c0 c1 c2 c3;go_wp2_with fail;go_loopg [7,8,25] N (fun k (v7 v8 v25:Value) wr=>∃(i:Nat) (W:WorkD),v25=.int .i64 i∧Hid (i+k=N∧WorkR wr (X++f::l::bf::Sd) g f bl br W∧WorkOk (blks F.files) W∧Chg [] w wr∧allW F ⟨F.files,[]⟩ cs=allW F W (cs.drop i)));case atStart=>exact⟨0,⟨F.files,[]⟩,rfl,Nat.zero_add _,H3.out.1,WorkOk.start HH.out.2.1.files,H3.out.2.1,rfl⟩
 case round=>
  obtain⟨i,W,rfl,HW⟩:=hrel;by_cases hi:i<N
  ·have t0:decide ((i:Int)<(N:Int))=true:=by simp;omega
   have t0':decide (i<N)=true:=by simp;omega
   obtain⟨hik,hW,hWo,cw,hall⟩:=HW.out;have hil:i<cs.length:=by rw[HH.out.2.2.2.2.2.2.2.1];exact hi
   obtain⟨g1,o1,cp1,e,-,-,hcell⟩:=(HH.out.2.2.2.2.2.1.chg0 cw).cells (by omega);cases e;obtain⟨c,hc⟩:∃c,cs[i]'hil=c:=⟨_,rfl⟩;have hget:cs[i]?=some c:=by rw[List.getElem?_eq_getElem hil,hc]
   have hdrop:cs.drop i=c::cs.drop (i+1):=by rw[List.drop_eq_getElem_cons hil,hc]
   obtain⟨dv,k0,k1,k2,k3,hdv⟩:=(HH.out.2.2.2.2.2.2.1).get hget;have hdl:∀j∈eyes dv,j<w.heap.size:=fun j hj=>by
    by_cases h0:c.data.length=0
    ·obtain⟨ad,cd,rfl,-⟩:=hdv.shape;rw[h0] at hj;cases ad <;> simp[eyes] at hj
    ·exact hdv.lt (by decide) j hj
   have hdv':=hdv.chg0 cw;obtain⟨ad,cd,rfl,-⟩:=hdv.shape;have z0:=hcell (i * 4) (by omega);have z1:=hcell (i * 4+1) (by omega);have z2:=hcell (i * 4+2) (by omega);have z3:=hcell (i * 4+3) (by omega);rw[show i * 4=4 * i by omega] at z0 z1 z2 z3;rw[k0] at z0;rw[k1] at z1;rw[k2] at z2;rw[k3] at z3;rw[show 4 * i=i * 4 by omega] at z0 z1 z2 z3;rw[show o1+(i * 4+1)=o1+i * 4+1 by omega] at z1;rw[show o1+(i * 4+2)=o1+i * 4+2 by omega] at z2;rw[show o1+(i * 4+3)=o1+i * 4+3 by omega] at z3;obtain⟨hs,ht,hb⟩:=HH.out.2.2.2.1 c (by rw[←hc];exact List.getElem_mem hil);have hdd:Disj (eyes (.slice ad c.data.length cd)) [bl,br]:=fun j hj hj'=>by
    have h1:=hdl j hj;have h2:=H3.out.2.2.1;have h3:=H3.out.2.2.2.2;simp only[List.mem_cons,List.not_mem_nil,or_false] at hj';rcases hj' with rfl | rfl <;> omega
   have hsub:W.fresh.length≤1000:=by
    have h1:=hWo.few;have h2:W.fresh.length≤W.files.length:=fresh_le hWo;omega
   have hone:=fun w' (k:Chg [] wr w')=>one_ok w' (X++f::l::bf::Sd) g f bl br F W (hW.chg0 k) (fun t ht=>by have h1:=HO.out t ht;have h2:=(cw.nil k).size;have h3:=H3.out.2.2.1;omega) c hs ht (.slice ad c.data.length cd) (hdv'.chg0 k) hdd hb (by have:=hWo.few;omega) hsub
    (fun hh=>bytes_any w' Sd X (X++f::l::bf::Sd) (fun t ht=>by have h1:=HO.out t ht;have h2:=(cw.nil k).size;have h3:=H3.out.2.2.1;omega) (fun t ht=>List.mem_append_right _ ht) g d bl br F W (hW.chg0 k) (HH.out.1.chg0 (cw.nil k)) HH.out.2.1 hWo c.name hs hh)
   have hstep:=one_step (F:=F) hWo c;have e2:wrap64 ((i:Int)+1)=((i+1:Nat):Int):=by unfold wrap64;have:=HH.out.2.2.2.2.1;omega
   have e2w:=wIq e2;obtain⟨nd,hnd⟩:∃nd,c.data.length=nd:=⟨_,rfl⟩;rw[hnd] at z3 hone;obtain⟨ck,hck⟩:∃ck,c.kind=ck:=⟨_,rfl⟩;obtain⟨cn,hcn⟩:∃cn,c.name=cn:=⟨_,rfl⟩;obtain⟨ct,hct⟩:∃ct,c.tonm=ct:=⟨_,rfl⟩;rw[hck] at z0 hone;rw[hcn] at z1 hone;rw[hct] at z2 hone;have hall2:allW F ⟨F.files,[]⟩ cs=if (oneW F W c).2=0 then allW F (oneW F W c).1 (cs.drop (i+1)) else oneW F W c:=by rw[hall,hdrop];rfl
   obtain⟨R1,hR1⟩:∃R1,oneW F W c=R1:=⟨_,rfl⟩;rw[hR1] at hone hall2 hstep;obtain⟨W1,e1⟩:=R1;simp only at hall2;obtain⟨wA,hwA⟩:∃wA,wr.alloc (.cells #[.int .i64 ck,.string (str cn),.string (str ct),.slice ad nd cd] 60)=wA:=⟨_,rfl⟩;obtain⟨K,hK⟩:∃K,wr.heap.size=K:=⟨_,rfl⟩;have hca:Chg [] wr wA:=by rw[←hwA];exact (Chg.refl [] wr).alloc _
   have hbx:Blk wA K #[.int .i64 ck,.string (str cn),.string (str ct),.slice ad nd cd] 60:=by rw[←hwA,←hK];exact Blk.new _ _ _
   obtain⟨⟨b0,b1,b2,b3⟩,-⟩:=Blk.c4b hbx;have hone1:=hone wA hca;have HR:=zC (lin7 hik hi) hall2 hstep.1 (cw.nil hca);clear hik hW hWo cw hall hil hcell hc hget hdrop k0 k1 k2 k3 hdv hdl hdv' hs ht hb hdd hsub hone hstep hnd hck hcn hct hall2 hR1 hbx hca HW;go_wp2_with fail;refine hone1.mono ?_;rintro e w4 ⟨rfl,hW4,c4⟩;have H4:=zA hW4 (show Chg [] w w4 from HR.out.2.2.2.trans c4 (fun t ht=>.inr (by have h2:=H3.out.2.2.1;have h3:=H3.out.2.2.2.2;simp at ht;omega)));clear hW4 c4 hone1 z0 z1 z2 z3 b0 b1 b2 b3 hwA hK;by_cases he:e1=0
   ·subst he;go_wp2_with fail;go_roundg (gk - 1);case measure=>exact HR.out.1.2
    case rel=>exact⟨i+1,W1,by simp,HR.out.1.1,H4.out.1,HR.out.2.2.1,H4.out.2,by have:=HR.out.2.1;simpa using this⟩
   ·have t5:(((e1:Nat):Int) != 0)=true:=by simp;omega
    have t5':(e1 != 0)=true:=by simp;omega
    have HE:=zH he;clear he;go_wp2_with fail;go_ret;have h1:=HR.out.2.1;rw[if_neg HE.out] at h1;rw[←HH.out.2.2.2.2.2.2.2.2.1,doF_err1 h1 HE.out];exact DoEndX.same HH.out.1 H4.out.2 e1
  ·have t0:decide ((i:Int)<(N:Int))=false:=by simp;omega
   have t0':decide (i<N)=false:=by simp;omega
   obtain⟨hik,hW,hWo,cw,hall⟩:=HW.out;have hall2:allW F ⟨F.files,[]⟩ cs=(W,0):=by rw[hall,List.drop_eq_nil_of_le (by rw[HH.out.2.2.2.2.2.2.2.1];omega)];rfl
   have HA:=zC hW hWo cw hall2;clear hik hW hWo cw hall hall2 hi HW;go_wp2_with fail;have hks:=(HH.out.2.1.files.facts (by have:=HH.out.1.small;unfold allF;omega));have hpl:=Go.Proofs.YtlbdklaggalgfaaGreatDoor.place_ok wr Sd X (X++f::l::bf::Sd) (fun t ht=>by have h1:=HO.out t ht;have h2:=HA.out.2.2.1.size;have h3:=H3.out.2.2.1;omega) g f d l bf bl br F W HA.out.1 (fun w' c=>HH.out.1.chg0 (HA.out.2.2.1.trans c (fun t ht=>.inr (by have h2:=H3.out.2.2.1;have h3:=H3.out.2.2.2.2;simp at ht;omega)))) hks.2.2 (fun p hp=>(hks.1 p hp).2)
    (fun p hp=>by
     have h1:=HA.out.2.1.sub p.1 p.2 (look_of_mem HA.out.2.1.asc2 hp);have h2:=nameOk_len (HA.out.2.1.name _ (look_mem h1.1));simp only at h2;exact⟨by omega,h1.2⟩) (by have h1:=fresh_le HA.out.2.1;have h2:=HA.out.2.1.few;omega) HA.out.2.1.few
   clear hks;refine hpl.mono ?_;rintro e w5 (⟨hlt5,rfl,hW5,c5⟩ | ⟨hle5,v9,xs9,rfl,hO9,hP9,hW5,c5⟩)
   ·have H5:=zA hlt5 (HA.out.2.2.1.nil c5);clear hpl hlt5 hW5 c5;go_wp2_with fail;go_ret;rw[←HH.out.2.2.2.2.2.2.2.2.1,doF_err2 HA.out.2.2.2 H5.out.1];exact DoEndX.same HH.out.1 H5.out.2 8
   clear hpl;obtain⟨ok1,-⟩:=Go.Aq.Fy.place_ok (first:=firstF F) (PlaceOk.start HH.out.2.1.files HA.out.2.1 hle5);obtain⟨fs,hfs⟩:∃fs,placeF W.fresh (freeF F) W.files=fs:=⟨_,rfl⟩;obtain⟨B,hB⟩:∃B,placeP (firstF F) W.fresh (freeF F)=B:=⟨_,rfl⟩;rw[hfs] at hW5 ok1;rw[hB] at hO9 hP9;have hall4:allF F≤4096:=by have:=HH.out.1.small;unfold allF;omega
   have hBl:B.length≤4096:=by rw[←hB,placeP_len _ _ _ hle5];have:=free_len F;omega
   obtain⟨m9,hm9⟩:∃m9,B.length=m9:=⟨_,rfl⟩;rw[hm9] at hO9;obtain⟨a9,q9,rfl,-⟩:=hO9.shape;have cw5:Chg [] w w5:=HA.out.2.2.1.trans c5 (fun t ht=>.inr (by have h2:=H3.out.2.2.1;simp at ht;omega));have hF5:=HH.out.1.chg0 cw5;have hfx:=ok1.facts hall4;have hsx:=sectors_ok' w5 f F.mt _ _ _ hF5.blk HH.out.2.1.geo.mt.1 HH.out.2.1.geo.mt.2 _ bl fs hW5.files ok1.few hfx.1 hfx.2.1;obtain⟨⟨y0,y1,y2⟩,-⟩:=hW5.blk.c3b;have H5:=zH (And.intro hle5 (And.intro hfs (And.intro hB (And.intro hm9 (And.intro hO9 (And.intro hP9 (And.intro hW5 (And.intro cw5 (And.intro ok1 (And.intro hBl (And.intro hall4 hfx)))))))))));clear hle5 hfs hB hm9 hO9 hP9 hW5 c5 cw5 ok1 hBl hall4 hF5 hfx;go_wp2_with fail;refine hsx.mono ?_;rintro e w6 ⟨c6,(⟨hno,rfl⟩ | ⟨hfit,ao6,cap6,g6,cg6,rfl,hO6,hao6,hg6,hB6⟩)⟩
   ·have H6:=zA hno (H5.out.2.2.2.2.2.2.2.1.nil c6);clear hsx hno c6;have hnil:=rows_nil none 0 0;go_wp2_with fail;go_ret;rw[←HH.out.2.2.2.2.2.2.2.2.1,doF_err3 HA.out.2.2.2 H5.out.1 (by rw[H5.out.2.1];exact H6.out.1)];exact DoEndX.same HH.out.1 H6.out.2 8
   clear hsx;have H6:=zB c6 hfit (H5.out.2.2.2.2.2.2.2.1.nil c6);have hg6S:g6∉Sd:=fun hh=>by have h1:=HH.out.1.lt g6 (by simp[hh]);have h2:=H5.out.2.2.2.2.2.2.2.1.size;omega
   have hks:=HH.out.2.1.files.facts H5.out.2.2.2.2.2.2.2.2.2.2.1;have hdf:=differ_ok w6 Sd X f d l bf F (HH.out.1.chg0 H6.out.2.2) HH.out.2.1.geo.mt.1 HH.out.2.1.files.few hks.1 hks.2.1 HH.out.2.1.tlen fs hfit ao6 cap6 g6 cg6 hO6.sees hB6 Sd hg6S;clear c6 hfit hO6 hao6 hg6 hB6 hg6S hks y0 y1 y2;have hnil:=rows_nil (some ao6) F.mt cap6;go_wp2_with fail;refine hdf.mono ?_;rintro e w7 ⟨v12,xs12,rfl,hF12,hP12⟩;obtain⟨t,ht⟩:∃t,diffF F fs=t:=⟨_,rfl⟩;obtain⟨nt,hnt⟩:∃nt,t.length=nt:=⟨_,rfl⟩;rw[ht,hnt] at hF12;rw[ht] at hP12;obtain⟨a12,q12,rfl,-⟩:=hF12.shape;have hdl:=(diff_at HH.out.2.1 fs).2.1;rw[ht,hnt] at hdl;have cw7:=H6.out.2.2.nil hF12.chg;have hnd:=fun w'=>need_ok w' (.pointer (some ⟨l,0,none⟩)) nt (by omega)
   have hrg:=fun r=>ring_ok (w7.drewN r) l d F.log ((HH.out.1.log.chg cw7 (by simp)).chg ((Chg.refl [] w7).drewN r) (by simp))
   obtain⟨⟨-,c1,-,-⟩,-⟩:=Blk.c4b (HH.out.1.blk.chg0 cw7);have H7:=zE ht hnt hF12 hP12 cw7 hdl;clear hdf ht hnt hF12 hP12 cw7 hdl;obtain⟨nn,hnn⟩:∃nn,need nt=nn:=⟨_,rfl⟩;obtain⟨rg,hrg2⟩:∃rg,F.log.ring=rg:=⟨_,rfl⟩;rw[hnn] at hnd;rw[hrg2] at hrg;have HN:=zA hnn hrg2;clear hnn hrg2;go_wp2_with fail;go_quiet (first | (exact Calls.quiet_of_same (hnd _)) | (exact Calls.quiet_of_same (hrg _)));have c78:Chg [] w7 (w7.drewN nq):=(Chg.refl _ _).drewN nq;obtain⟨w8,hw8⟩:∃w8,w7.drewN nq=w8:=⟨_,rfl⟩;rw[hw8] at c78 ⊢;clear hw8 hnd hrg c1 hnil;have H8:=zA c78 (H7.out.2.2.2.2.1.nil c78);clear c78;by_cases hbig:rg<nn
   ·have t1:decide ((rg:Int)<(nn:Int))=true:=by simp;omega
    have t1':decide (rg<nn)=true:=by simp;omega
    have HB:=zH hbig;clear hbig;go_wp2_with fail;go_ret;rw[←HH.out.2.2.2.2.2.2.2.2.1,doF_err4 HA.out.2.2.2 H5.out.1 (by rw[H5.out.2.1];exact H6.out.2.1) (by rw[H5.out.2.1,H7.out.1,H7.out.2.1,HN.out.1,HN.out.2];exact HB.out)];exact DoEndX.same HH.out.1 H8.out.2 9
   have t1:decide ((rg:Int)<(nn:Int))=false:=by simp;omega
   have t1':decide (rg<nn)=false:=by simp;omega
   have hroom:need t.length≤F.log.ring:=by rw[H7.out.2.1,HN.out.1,HN.out.2];exact Nat.not_lt.1 hbig
   obtain⟨RR,hRR⟩:∃RR,runP F.disk ((if B=[] then [] else [B])++commitP F.log t)=RR:=⟨_,rfl⟩;have hrun:=doF_run HA.out.2.2.2 H5.out.1 H5.out.2.1 H6.out.2.1 H7.out.1 hroom H5.out.2.2.1 hRR;have hdn:=doF_n HH.out.2.1 HH.out.2.2.1 cs;have hF8:=HH.out.1.chg0 H8.out.2;have hda:=diff_at HH.out.2.1 fs;rw[H7.out.1] at hda;have c58:Chg [] w5 w8:=((H6.out.1).nil H7.out.2.2.1.chg).nil H8.out.1;have hall4:=H5.out.2.2.2.2.2.2.2.2.2.2.1;have hsm:=HH.out.1.small;have hseq:=HH.out.2.1.seq;have hq47:=HH.out.2.2.1;have hpos:=HH.out.2.1.geo.pos;have hwr:=fwrite_ok w8 Sd f F.mt bf l d F.disk F.log hF8.blk ⟨hF8.ne.2.2.2.1,hF8.ne.1⟩ hF8.disk hF8.log hF8.ne.2.2.2.2.1 HH.out.2.1.rest.up B (by rw[HH.out.2.1.rest.pend];have:=H5.out.2.2.2.2.2.2.2.2.2.1;simp only[List.length_nil];omega)
    (fun p hp=>by
     have h1:=placeP_ok (first:=firstF F) (all:=allF F) (r:=W.fresh) (free:=freeF F) (fun k hk=>by unfold freeF at hk;exact List.mem_range.1 (List.mem_filter.1 hk).1);rw[H5.out.2.2.1] at h1;have h2:=(h1 p hp).1;have h3:=firstF_le HH.out.2.1;omega)
    (.slice a9 m9 q9) xs9 (by rw[H5.out.2.2.2.1];exact H5.out.2.2.2.2.1.own.sees.chg0 c58) (H5.out.2.2.2.2.2.1.upd ⟨c58.toS,fun k hk=>.inl (by simp[hk])⟩)
    (fun k hk hk'=>by have h1:=H5.out.2.2.2.2.1.new k (eyes_own _ k hk);have h2:=HH.out.1.lt k (by simp[hk']);have h3:=HA.out.2.2.1.size;omega)
    hsm.2.1 hsm.1 (by omega) (by omega) t nt H7.out.2.1 (.slice a12 nt q12) xs12 (H7.out.2.2.1.own.sees.chg0 H8.out.1) (H7.out.2.2.2.1.upd ⟨H8.out.1.toS,fun k hk=>.inl (List.mem_append_right _ hk)⟩)
    (fun k hk hk'=>by have h1:=H7.out.2.2.1.new k (eyes_own _ k hk);have h2:=HH.out.1.lt k (by simp[hk']);have h3:=H6.out.2.2.size;omega)
    (by have:=H7.out.2.2.2.2.2;omega) hda.2.2 hda.1 (by rw[←H7.out.2.1];exact hroom)
   rw[hRR] at hwr;have hLN:(if t=[] then F.log else nextL F.log nt)=(if t=[] then F.log else nextL F.log t.length):=by rw[H7.out.2.1]
   rw[hLN] at hwr;have HX:=zD hrun hdn hF8 c58 hsm;obtain⟨⟨-,y1,-⟩,-⟩:=(H5.out.2.2.2.2.2.2.1.chg0 c58).blk.c3b;clear hbig hroom hrun hdn hF8 hda c58 hall4 hsm hseq hq47 hpos hRR hLN;obtain⟨D2,e9⟩:=RR;rw[t1'];go_wp2_with fail;refine hwr.mono ?_;rintro e w9 ⟨rfl,S9,hD9,hL9,hl9,hU9⟩;simp only at hD9 hL9;have hoff9:∀k∈f::bf::bl::br::g::[],k∉l::Sd:=fun k hk hk'=>by
    have hne:=HX.out.2.2.1.ne;have hg0:=H5.out.2.2.2.2.2.2.1.offg;have hd1:=H3.out.2.2.2.1;have hd2:=H3.out.2.2.2.2;have hkl:k<bl:=hd1 k (by rcases List.mem_cons.1 hk' with h | h <;> simp[h]);have hgl:bl≤g:=by have h1:=H5.out.2.2.2.2.2.2.1;have:=H3.out.1.blk.lt;have h2:=HG.out;omega
    simp only[List.mem_cons,List.not_mem_nil,or_false] at hk;rcases hk with rfl | rfl | rfl | rfl | rfl
    ·rcases List.mem_cons.1 hk' with h | h
     ·exact hne.1 h
     ·exact hne.2.2.2.1 h
    ·rcases List.mem_cons.1 hk' with h | h
     ·exact hne.2.2.1 h.symm
     ·exact hne.2.2.2.2.2 h
    ·omega
    ·omega
    ·omega
   have hU9':=hU9;have y1:=hU9.chg.cell_some y1 (hoff9 g (by simp));have hb9:=HX.out.2.2.1.blk.chg hU9.chg (hoff9 f (by simp));obtain⟨⟨-,-,-,x3⟩,-,-,-,f3⟩:=Blk.c4b hb9;have H9:=zE hD9 hL9 hl9 hU9 hb9 hoff9;clear hD9 hL9 hl9 hU9 hU9' hb9 hoff9 hwr;by_cases he9:e9=0
   ·subst he9;go_wp2_with fail;go_ret;have hrun:=HX.out.1;simp only[if_true] at hrun;rw[←HH.out.2.2.2.2.2.2.2.2.1,hrun];have hdn:=HX.out.2.1;rw[hrun] at hdn;have hbs:=H9.out.2.2.2.2.1.set 3 (.map (some bl));simp only[List.setIfInBounds_toArray,List.set_cons_zero,List.set_cons_succ] at hbs;have hblw:=H3.out.2.2.1;obtain⟨r1,r2⟩:=do_fsr HX.out.2.2.1 HX0.out H8.out.2 HH.out.2.2.2.2.2.2.2.2.2 H9.out.1 H9.out.2.1 H9.out.2.2.2.1 H9.out.2.2.1 (by show (afterL 0 F.log _).ring=_;unfold afterL;rw[if_pos rfl];split <;> rfl) hdn (H5.out.2.2.2.2.2.2.1.files.chg0 HX.out.2.2.2.1) (fun k hk=>by simp[hk]) (fun k hk=>by
     simp only[List.mem_cons,List.mem_append] at hk ⊢;rcases hk with h | h | h | h
     ·exact .inr (.inr (.inr (.inl h)))
     ·exact .inr (.inr (.inr (.inr (.inl h))))
     ·exact .inl h
     ·exact .inr (.inr (.inr (.inr (.inr (.inr h)))))) (.inr ⟨by omega,by have h1:=(H5.out.2.2.2.2.2.2.1.files.chg0 HX.out.2.2.2.1).lt;exact h1⟩) ((Chg.refl [f] _).setCell (by simp) _) hbs
    exact⟨rfl,S9,bl,r1,r2⟩
   ·have t5:(((e9:Nat):Int) != 0)=true:=by simp;omega
    have t5':(e9 != 0)=true:=by simp;omega
    have HE:=zH he9;clear he9;go_wp2_with fail;go_ret;have hrun:=HX.out.1;rw[if_neg HE.out] at hrun;rw[←HH.out.2.2.2.2.2.2.2.2.1,hrun];have hdn:=HX.out.2.1;rw[hrun] at hdn;obtain⟨r1,r2⟩:=do_fsr HX.out.2.2.1 HX0.out H8.out.2 HH.out.2.2.2.2.2.2.2.2.2 H9.out.1 H9.out.2.1 H9.out.2.2.2.1 H9.out.2.2.1 (by show (afterL e9 F.log _).ring=_;unfold afterL;rw[if_neg HE.out]) hdn HX.out.2.2.1.files (fun k hk=>List.mem_append_left _ hk) (fun k hk=>List.mem_append_right _ hk) (.inl rfl) (Chg.refl [f] _) H9.out.2.2.2.2.1;have ea:afterL e9 F.log (if t=[] then F.log else nextL F.log t.length)=F.log:=by unfold afterL;rw[if_neg HE.out]
    rw[ea] at r1;exact⟨rfl,S9,bf,r1,r2⟩
end Go.Proofs.YtlbdklaggalgfaaGreatDoor
