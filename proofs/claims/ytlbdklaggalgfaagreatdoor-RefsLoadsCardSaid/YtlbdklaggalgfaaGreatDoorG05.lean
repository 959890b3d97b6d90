/- AppZ FyA TakeE Take TakeS -/
import Derived.Test.YtlbdklaggalgfaaGreatDoorG02
import Derived.Lib.AppendZerosOnto
import Derived.Lib.AppendZeros
import Derived.Test.YtlbdklaggalgfaaGreatDoorShelf
import Derived.Test.YtlbdklaggalgfaaGreatDoorShelfC
import Derived.WalkArith
import Derived.Carry
import Derived.OrdersHeld
import Derived.StillTail
set_option linter.unusedSimpArgs false
set_option linter.unusedVariables false
namespace Go.Aq
open Go.RowKit
theorem zeroCells_one (z:Value) (k:Nat):(Builtin.zeroCells #[z] k).toList=List.replicate k z:=by
 apply List.ext_getElem;·simp[Builtin.zeroCells]
 ·intro i h1 h2;simp[Builtin.zeroCells,Nat.mod_one]
theorem run_appZ {P:Program} (w:World) (t tn ty e:TypeId) (i:TypeInfo) (z:Value) (ht:P.underlying t=some (.slice e)) (kn kq:IntKind) (htn:P.underlying tn=some (.int kn)) (hi:P.info? e=some i) (hz:i.zero=some z)
  (hzc:z.cells=#[z]) (hs1:i.size=1) (hz1:z.oneCell'=true) (g n cap:Nat) (xs:List Value) (hown:Own w e 1 (.slice (some ⟨g,0,none⟩) n cap) n xs) (k:Nat) (hk:0<k)
  (h63:n+k≤9223372036854775807) (hbytes:(n+k) * i.bytes≤140737488355328):
  ∃v' w',(Builtin.append_ #[t,tn] ty #[.slice (some ⟨g,0,none⟩) n cap,.int kq k]).run P w=.ok v' w'∧Own w' e 1 v' (n+k) (xs++List.replicate k z)∧Chg [g] w w'∧
   (∀b∈v'.ownBlock.toList,b∈[g]∨w.heap.size≤b):=by
 have h63':n+k≤maxLen:=by simpa[maxLen] using h63
 have hxl:xs.length=n:=by have:=hown.1;omega
 have hkb:k * i.bytes≤140737488355328:=Nat.le_trans (Nat.mul_le_mul_right _ (by omega)) hbytes;obtain⟨cur,hg,hnc,hcm,hcs,htake⟩:∃cur:Array Value,w.heap[g]?=some (.cells cur e (0,0))∧n≤cap∧cap≤maxLen∧cur.size=cap∧xs=cur.toList.take n:=by
  rcases hown.2 with ⟨h,_⟩ | ⟨g',cap',cur,hv,hbg,hg,hnc,hcm,hcs,htake⟩
  ·simp at h
  ·simp only[Value.slice.injEq,Option.some.injEq,Addr.mk.injEq,and_true,true_and] at hv;obtain⟨rfl,rfl⟩:=hv;exact⟨cur,hg,hnc,hcm,by simpa using hcs,by simpa using htake.symm⟩
 by_cases hroom:n+k≤cap
 ·have hw:IntKind.i64.wrap (k:Int)=k:=by rw[IntKind.wrap_i64];omega
  have hst:=run_storeCells_at P g n e (List.replicate k z) 0 cur w hg (by simp;omega) (by simp[hz1]);simp only[Nat.add_zero] at hst;have h48i:¬(281474976710656<(k:Int) * (i.bytes:Int)):=by rw[←Int.natCast_mul];omega
  have hneg:¬((k:Int)<0):=by omega
  have hk0:k≠0:=by omega
  refine⟨.slice (some ⟨g,0,none⟩) (n+k) cap,w.setRow g (cur.toList.take n++List.replicate k z++cur.toList.drop (n+k)).toArray,?_,?_,?_,?_⟩
  ·simp only[List.length_replicate] at hst;simp[Builtin.append_,run_underlying ht,run_underlying htn,sizeOf,typeInfo,zeroValue,hi,hz,asInt,asIntOf,hw,hneg,hk0,h48i,hroom,hs1,hzc,zeroCells_one,Addr.add_lit];rw[hst];simp
  ·refine⟨by simp;omega,.inr ⟨g,cap,_,rfl,Nat.zero_le _,setRow_heap w g cur _ e _ hg,hroom,hcm,?_,?_⟩⟩;·simp;omega
   ·rw[htake];simp only[Nat.mul_one];have:(cur.toList.take n++List.replicate k z).length=n+k:=by simp;omega
    rw[←this];exact List.take_left
  ·exact⟨rfl,rfl,rfl,by simp,fun b _ hb=>setRow_other w g b _ (fun e=>hb (by simp[e]))⟩
  ·intro b hb;left;simpa[Value.ownBlock] using hb
 ·have hold:∀j u,xs[j]?=some u→w.cell? ((⟨g,0,none⟩:Addr).add j)=some u:=World.ownsRow.cells hown (g:=g) rfl;have hfc:(Builtin.firstCells i.size n (.slice (some ⟨g,0,none⟩) n cap)).run P w.drew=.ok xs.toArray w.drew:=
   run_firstCells_some (P:=P) w.drew i.size n ⟨g,0,none⟩ n cap xs (by rw[hs1];omega) hold
  have hr:=Lib.run_append_grow_zeros (P:=P) w t tn ty e i z kq kn ht htn hi hz (some ⟨g,0,none⟩) n cap xs hfc k hk (by omega) (by omega) (by omega) (by omega) (growslice_fits (by omega) hbytes);have hge:=grownCap_ge w (n+k) cap e;have hcm:grownCap w (n+k) cap e≤maxLen:=grownCap_le_maxLen w (n+k) cap e h63';refine⟨_,_,hr,⟨by simp;omega,.inr ⟨w.heap.size,_,_,rfl,Nat.zero_le _,heap_alloc_new w.drew _,hge,hcm,?_,?_⟩⟩,((Chg.refl [g] w).drew).alloc _,by simp[Value.ownBlock]⟩
  ·rw[hzc];simp[size_zeroCells];omega
  ·rw[hzc];simp only[Array.toList_append,zeroCells_one,Nat.mul_one];have:(xs++List.replicate k z).length=n+k:=by simp;omega
   rw[←this];exact List.take_left
theorem wpList_appZ {P:Program} {w0 W:World} {ops:Array Oper} {rest:List Oper} {o:Oper} {a:Act} {Q:Exit→Act→World→Prop} (hgd:o.guard=none) (s x:Operand) (t tn:TypeId)
  (ho:o.op=.call { callee:=.builtin .append,args:=#[s,x],argTypes:=#[t,tn] }) {e:TypeId} {z:Value} {bytes:Nat} (ht:SliceTy P t e z 1 bytes) (hzc:z.cells=#[z]) (hz1:z.oneCell'=true) {kn kq:IntKind} (htn:P.underlying tn=some (.int kn))
  {g n cap:Nat} {xs:List Value} (hf:Fresh w0 W e 1 (.slice (some ⟨g,0,none⟩) n cap) n xs) (hs:a.eval s=.slice (some ⟨g,0,none⟩) n cap) {k:Nat} {L:Int} (hx:a.eval x=.int kq L) (hL:L=(k:Int)) (hk:0<k)
  (hb:(n+k) * bytes≤140737488355328) (h63:n+k≤9223372036854775807)
  (h:∀v' W',Fresh w0 W' e 1 v' (n+k) (xs++List.replicate k z)→Chg [g] W W'→wpList P ops Q rest (a.put o.dst v') W'):wpList P ops Q (o::rest) a W:=by
 obtain⟨ht1,ht2,ht3,ht4⟩:=ht;obtain⟨i,hi,hz0,h1,rfl⟩:=info_parts ht2;subst hL;obtain⟨v',w',hr,h2,h3,h4⟩:=run_appZ (P:=P) W t tn o.type e i z ht1 kn kq htn hi hz0 hzc h1 hz1 g n cap xs hf.own k hk h63 hb;exact Lib.wpList_append_run W hgd s x t tn ho _ _ hs hx v' w' hr (h v' w' (hf.app h2 h3 h4) h3)
theorem Fresh.of_owns {w w':World} {e:TypeId} {v:Value} {n:Nat} {xs:List Value} (h:w'.ownsRow w.heap.size e 1 v n xs) (hb:Below w.heap.size w w'):Fresh w w' e 1 v n xs:=by
 refine⟨⟨h.1,?_⟩,Chg.of_below hb,?_⟩
 ·rcases h.2 with h2 | ⟨g,cap,cur,h3,_,h4⟩
  ·exact .inl h2
  ·exact .inr ⟨g,cap,cur,h3,Nat.zero_le _,h4⟩
 ·intro k hk;rcases h.2 with ⟨rfl,_⟩ | ⟨g,cap,cur,rfl,hg,_⟩
  ·simp[Value.ownBlock] at hk
  ·simp[Value.ownBlock] at hk;omega
theorem Blk.c8 {w:World} {p:Nat} {a b c d e f g h:Value} {t:TypeId} (hb:Blk w p #[a,b,c,d,e,f,g,h] t):
  (w.cell? ⟨p,0,none⟩=some a∧w.cell? ⟨p,1,none⟩=some b∧w.cell? ⟨p,2,none⟩=some c∧w.cell? ⟨p,3,none⟩=some d∧w.cell? ⟨p,4,none⟩=some e∧w.cell? ⟨p,5,none⟩=some f∧w.cell? ⟨p,6,none⟩=some g∧w.cell? ⟨p,7,none⟩=some h)∧
  w.frozen? ⟨p,0,none⟩=false∧w.frozen? ⟨p,1,none⟩=false∧w.frozen? ⟨p,2,none⟩=false∧w.frozen? ⟨p,3,none⟩=false∧w.frozen? ⟨p,4,none⟩=false∧w.frozen? ⟨p,5,none⟩=false∧w.frozen? ⟨p,6,none⟩=false∧w.frozen? ⟨p,7,none⟩=false:=
 ⟨⟨hb.cell 0,hb.cell 1,hb.cell 2,hb.cell 3,hb.cell 4,hb.cell 5,hb.cell 6,hb.cell 7⟩,hb.frozen 0,hb.frozen 1,hb.frozen 2,hb.frozen 3,hb.frozen 4,hb.frozen 5,hb.frozen 6,hb.frozen 7⟩
end Go.Aq
namespace Go.Aq.Fy
open Go.Aq Go.RowKit Go.Maps
structure SecV (w:World) (S:List Nat) (v:Value) (b:Sec):Prop where
 sees:Sees w 1 v 256 (Bs b)
 off:Disj (eyes v) S
theorem SecV.len {w:World} {S:List Nat} {v:Value} {b:Sec} (h:SecV w S v b):b.length=256:=by
 have:=h.sees.len;rw[Bs_length] at this;omega
theorem SecV.chg {w w':World} {S T:List Nat} {v:Value} {b:Sec} (h:SecV w S v b) (c:Chg T w w') (hT:∀k∈T,k∈S∨w.heap.size≤k):SecV w' S v b:=by
 have c':Chg S w w':=c.mono hT;exact⟨h.sees.chg c' h.off,h.off⟩
theorem SecV.wide {w:World} {S S':List Nat} {v:Value} {b:Sec} (h:SecV w S v b) (hs:∀k∈S',k∈S∨w.heap.size≤k):SecV w S' v b:=by
 refine⟨h.sees,fun k hk hk'=>?_⟩;rcases hs k hk' with h1 | h1
 ·exact h.off k hk h1
 ·have:=h.sees.lt (by decide) k hk;omega
theorem SecV.upd {w w':World} {S S':List Nat} {v:Value} {b:Sec} (h:SecV w S v b) (u:Upd S S' w w'):SecV w' S' v b:=
 ⟨h.sees.chg u.chg h.off,(h.wide u.new).off⟩
def SecsF (w:World) (S:List Nat) (f:Value→Option Value) (g:Nat→Sec):Prop:=
 ∀k:Nat,(f (.int .i64 k)=none∧g k=zsec)∨∃v,f (.int .i64 k)=some v∧SecV w S v (g k)
theorem SecsF.upd {w w':World} {S S':List Nat} {f:Value→Option Value} {g:Nat→Sec} (h:SecsF w S f g) (u:Upd S S' w w'):SecsF w' S' f g:=fun k=>by
 rcases h k with h1 | ⟨v,h1,h2⟩
 ·exact .inl h1
 ·exact .inr ⟨v,h1,h2.upd u⟩
theorem SecsF.put {w:World} {S:List Nat} {f:Value→Option Value} {g:Nat→Sec} (h:SecsF w S f g) (k:Nat) {v:Value} {b:Sec} (hv:SecV w S v b):SecsF w S (updF f (.int .i64 k) v) (setS g k b):=fun j=>by
 by_cases e:j=k
 ·subst e;right;refine⟨v,by simp[updF],?_⟩;simp only[setS,if_true];exact hv
 ·have e':¬((j:Int)=(k:Int)):=by omega
  simp only[updF,Value.int.injEq,true_and,e',if_false,setS,e];exact h j
theorem SecsF.none (w:World) (S:List Nat):SecsF w S (fun _=>none) fun _=>zsec:=fun k=>.inl ⟨rfl,rfl⟩
inductive PendR (w:World) (S:List Nat):Puts→List Value→Prop
 | nil:PendR w S [] []
 | cons {k:Nat} {b:Sec} {l:Puts} {v:Value} {xs:List Value}:SecV w S v b→PendR w S l xs→PendR w S ((k,b)::l) (.int .i64 k::v::xs)
theorem PendR.upd {w w':World} {S S':List Nat} (u:Upd S S' w w'):∀{l:Puts} {xs:List Value},PendR w S l xs→PendR w' S' l xs
 | _,_,.nil=>.nil
 | _,_,.cons h1 h2=>.cons (h1.upd u) (h2.upd u)
theorem PendR.length {w:World} {S:List Nat}:∀{l:Puts} {xs:List Value},PendR w S l xs→xs.length=l.length * 2
 | _,_,.nil=>rfl
 | _,_,.cons h1 h2=>by simp[h2.length];omega
theorem PendR.snoc {w:World} {S:List Nat} {k:Nat} {b:Sec} {v:Value} (hv:SecV w S v b):∀{l:Puts} {xs:List Value},PendR w S l xs→PendR w S (l++[(k,b)]) (xs++[.int .i64 k,v])
 | _,_,.nil=>.cons hv .nil
 | _,_,.cons h1 h2=>.cons h1 (h2.snoc hv)
theorem PendR.get {w:World} {S:List Nat}:∀{l:Puts} {xs:List Value},PendR w S l xs→∀i (hi:i<l.length),xs[2 * i]?=some (.int .i64 (l[i]'hi).1)∧∃v,xs[2 * i+1]?=some v∧SecV w S v (l[i]'hi).2
 | _,_,.cons h1 h2,0,hi=>⟨rfl,_,rfl,h1⟩
 | _,_,.cons h1 h2,i+1,hi=>by
  have:=h2.get i (by simpa using hi);simpa[show 2 * (i+1)=2 * i+1+1 by omega] using this
theorem PendR.one {w:World} {S:List Nat}:∀{l:Puts} {xs:List Value},PendR w S l xs→∀u∈xs,u.oneCell'=true
 | _,_,.cons h1 h2,u,hu=>by
  rcases List.mem_cons.1 hu with rfl | hu
  ·rfl
  ·rcases List.mem_cons.1 hu with rfl | hu
   ·obtain⟨_,_,rfl,_⟩:=h1.sees.shape;rfl
   ·exact h2.one u hu
end Go.Aq.Fy
namespace Go.Proofs.YtlbdklaggalgfaaGreatDoor
open Go.RowKit Go.Aq Go.Aq.Fy Go.Maps
theorem sl_u8y:SliceTy Tryz.prog 38 5 (.int .u8 0) 1 1:=⟨Tryz.underlying38,by kernel_rfl,rfl,by decide⟩
theorem lawI:Keyed Tryz.prog 3:=int_keyed Tryz.underlying3
theorem goodI (k:Nat) (hk:k≤1000000000000):GoodKey Tryz.prog 3 (.int .i64 k):=
 ⟨_,keyOf_int_mk Tryz.underlying3 (WalkArith.wf_i64 (by omega))⟩
theorem zeroB8 (w:World):(zeroValue 38).run Tryz.prog w=.ok (.slice none 0 0) w:=by kernel_rfl
structure DiskB (w:World) (p bn bd:Nat) (fn fd:Value→Option Value) (pv:Value) (xs:List Value) (mv:Value) (D:DiskD):Prop where
 blk:Blk w p #[.int .i64 D.n,.map (some bn),.map (some bd),pv,.int .i64 D.writes,.int .i64 D.falls,mv,.bool D.down] 80
 now:MapF Tryz.prog 3 w bn fn
 dur:MapF Tryz.prog 3 w bd fd
 ne:bn≠bd
 nowS:SecsF w (p::bn::bd::pv.ownBlock.toList) fn D.now
 durS:SecsF w (p::bn::bd::pv.ownBlock.toList) fd D.dur
 own:Own w 169 2 pv D.pend.length xs
 pend:PendR w (p::bn::bd::pv.ownBlock.toList) D.pend xs
 mask:Sees w 1 mv D.mask.length (Bs D.mask)∧Disj (eyes mv) (p::bn::bd::pv.ownBlock.toList)
 least:4≤D.n∧D.n≤4096
 plc:∀q∈D.pend,q.1<D.n
 room:D.falls≤9223372036854775807
 nil0:D.pend=[]→pv=.slice none 0 0
def DiskR (w:World) (S:List Nat) (p:Nat) (D:DiskD):Prop:=∃bn bd fn fd pv xs mv,DiskB w p bn bd fn fd pv xs mv D∧S=p::bn::bd::pv.ownBlock.toList
theorem DiskR.chg {w w':World} {S:List Nat} {p:Nat} {D:DiskD} (h:DiskR w S p D) (c:Chg [] w w'):DiskR w' S p D:=by
 obtain⟨bn,bd,fn,fd,pv,xs,mv,h,rfl⟩:=h;have u:Upd (p::bn::bd::pv.ownBlock.toList) (p::bn::bd::pv.ownBlock.toList) w w':=⟨c.toS,fun _ h=>.inl h⟩;exact⟨bn,bd,fn,fd,pv,xs,mv,⟨h.blk.chg0 c,h.now.chg c (by simp),h.dur.chg c (by simp),h.ne,h.nowS.upd u,h.durS.upd u,h.own.chg c (fun _ _=>by simp),h.pend.upd u,⟨h.mask.1.chg0 c,h.mask.2⟩,h.least,h.plc,h.room,h.nil0⟩,rfl⟩
theorem DiskR.lt {w:World} {S:List Nat} {p:Nat} {D:DiskD} (h:DiskR w S p D):In w S:=by
 obtain⟨bn,bd,fn,fd,pv,xs,mv,h,rfl⟩:=h;intro k hk;simp only[List.mem_cons] at hk;rcases hk with rfl | rfl | rfl | hk
 ·exact h.blk.lt
 ·exact h.now.lt
 ·exact h.dur.lt
 ·exact h.own.lt k hk
theorem bclone_any (w:World) (v:Value) (n:Nat) (b:List UInt8) (hv:Sees w 1 v n (Bs b)) (hn:n≤140737488355328):
  Calls Tryz.prog 93 #[v] w fun e w'=>∃v',e=.returned v'∧Fresh w w' 5 1 v' n (Bs b):=by
 obtain⟨hl,ao,cap,rfl,hc,hno,hcells⟩:=hv;cases ao with
 | none=>
  obtain⟨rfl,rfl⟩:=hno rfl;have:b=[]:=List.eq_nil_of_length_eq_zero (by simpa[Bs] using hl);subst this;refine (Tryz.bytes_Clone_nil 0 0 w).mono fun e w' ⟨h1,h2⟩=>?_
  subst h2;exact⟨_,h1,Fresh.nil _ _ _⟩
 | some a=>
  have hbl:b.length=n:=by rw[Bs_length] at hl;omega
  refine (Tryz.bytes_Clone_at a n cap (b.map fun c=>(c.toNat:Int)) w (by simpa using hbl) hn (fun i hi=>?_)).mono fun e w' ⟨v',h1,h2,h3,h4⟩=>?_
  ·rw[hcells a rfl i _ (Bs_get b i (by omega))];simp[List.getD_eq_getElem?_getD,show i<b.length by omega]
  ·refine⟨v',h1,Fresh.of_owns ?_ h4⟩;have:(b.map fun c=>(c.toNat:Int)).map (Value.int .u8)=Bs b:=by simp[Bs,Bc]
   rw[this] at h2;exact h2
theorem rep_nul (n:Nat):List.replicate n (Value.int .u8 0)=Bs (nul n):=by simp[nul,Bs,Bc]
theorem at_any (w:World) (b k:Nat) (f:Value→Option Value) (S:List Nat) (g:Nat→Sec) (hm:MapF Tryz.prog 3 w b f) (hs:SecsF w S f g) (hk:k≤1000000000000):
  Calls Tryz.prog 97 #[.map (some b),.int .i64 k] w fun e w'=>∃v',e=.returned v'∧Fresh w w' 5 1 v' 256 (Bs (g k)):=by
 have LL:=hm.look lawI Tryz.underlying77 (zeroB8 w) (goodI k hk);rcases hs k with ⟨h1,h2⟩ | ⟨v,h1,h2⟩
 ·rw[h1] at LL;rw[h2];obtain⟨l1,l2⟩:=LL;clear h1 h2 hs hm;go_enter Tryz.func97,Tryz.ntmps97;go_wp2_with (at_make;refine wpList_mk rfl _ _ 38 rfl sl_u8y rfl .i64 .i64 256 rfl rfl rfl rfl (by decide) (by decide) ?_;intro w' h1 h2 h3);go_ret;rw[rep_nul] at h1;exact⟨_,rfl,h1,h2,by simp[Value.ownBlock]⟩
 ·rw[h1] at LL;obtain⟨l1,l2⟩:=LL;have hcl:=bclone_any w v 256 (g k) h2.sees (by decide);obtain⟨ao,cap,rfl,-⟩:=h2.sees.shape;clear h1 h2 hs hm;go_enter Tryz.func97,Tryz.ntmps97;go_wp2_with fail;refine hcl.mono ?_;rintro e w' ⟨v',rfl,hF⟩
  go_wp2
  go_ret;exact⟨_,rfl,hF⟩
theorem wrong_ok (w:World) (S:List Nat) (p:Nat) (D:DiskD) (k:Nat) (h:DiskR w S p D) (hd:D.down=false) (hk:k<D.n):
  Calls Tryz.prog 92 #[.pointer (some ⟨p,0,none⟩),.int .i64 k] w fun e w'=>e=.returned (.int .i64 0)∧w'=w:=by
 obtain⟨bn,bd,fn,fd,pv,xs,mv,h,rfl⟩:=h;have hb:=h.blk;rw[hd] at hb;obtain⟨⟨c0,c1,c2,c3,c4,c5,c6,c7⟩,-⟩:=hb.c8;have t1:decide ((k:Int)<0)=false:=decide_eq_false (by omega);have t2:decide ((D.n:Int)≤(k:Int))=false:=decide_eq_false (by omega);have t3:decide (D.n≤k)=false:=decide_eq_false (by omega);generalize D.n=n at *;clear h hb hk;go_enter Tryz.func92,Tryz.ntmps92
 go_wp2
 go_ret;exact⟨rfl,rfl⟩
theorem read_ok (w:World) (S:List Nat) (p:Nat) (D:DiskD) (k:Nat) (h:DiskR w S p D) (hd:D.down=false) (hk:k<D.n):
  Calls Tryz.prog 37 #[.pointer (some ⟨p,0,none⟩),.int .i64 k] w fun e w'=>∃v',e=.returned (.tuple #[v',.int .i64 0])∧Fresh w w' 5 1 v' 256 (Bs (D.now k)):=by
 have hw:=wrong_ok w S p D k h hd hk;obtain⟨bn,bd,fn,fd,pv,xs,mv,h,rfl⟩:=h;obtain⟨⟨c0,c1,c2,c3,c4,c5,c6,c7⟩,-⟩:=h.blk.c8;have ha:=at_any w bn k fn _ D.now h.now h.nowS (by have:=h.least;omega);generalize D.now k=b at *;clear h hk hd;go_enter Tryz.func37,Tryz.ntmps37;go_wp2_with fail;refine hw.mono ?_;rintro e w' ⟨rfl,rfl⟩;go_wp2_with fail;refine ha.mono ?_;rintro e w1 ⟨v',rfl,hF⟩
 go_wp2
 go_ret2;exact⟨_,rfl,hF⟩
end Go.Proofs.YtlbdklaggalgfaaGreatDoor
namespace Go.Aq
section
open Go.RowKit
section
variable {P:Program} {ops:Array Oper} {Q:Exit→Act→World→Prop} {md:Region.Mode} {S:List Nat} {w0:World}
def yieldsAtE (P:Program) (w1:World) (v:Value):Result Next→Prop
 | .ok (.value u) w'=>w'=w1∧u=v
 | .ok (.enter f args) w'=>w'=w1∧Calls P f args w1 (fun e w''=>e=.returned v∧w''=w1)
 | _=>False
def YieldsE (S:List Nat) (w0:World) (P:Program) (ops:Array Oper) (o:Oper) (v:Value) (a:Act):Prop:=
 (Region.wanted o (yielded ops a.tmps)=true∧∀w1,Chg S w0 w1→yieldsAtE P w1 v ((execOp a.eval o).run P w1))∨
 (Region.wanted o (yielded ops a.tmps)=false∧v=undef)
theorem YieldsE.of_same {o:Oper} {v:Value} {a a':Act} (hy:YieldsE S w0 P ops o v a) (he:execOp a'.eval o=execOp a.eval o)
  (hw:Region.wanted o (yielded ops a'.tmps)=Region.wanted o (yielded ops a.tmps)):YieldsE S w0 P ops o v a':=by
 unfold YieldsE at *;rw[he,hw];exact hy
theorem YieldsE.wpOp {i:Nat} {o:Oper} {v:Value} {a:Act} {w1:World} (hi:ops[i]?=some o) (hy:YieldsE S w0 P ops o v a) (c1:Chg S w0 w1)
  {K:Act→World→Prop} (h:K (a.put o.dst v) w1):wpOp P ops Q i K a w1:=by
 unfold Go.wpOp;simp only[hi];rcases hy with ⟨hw,hv⟩ | ⟨hw,rfl⟩
 ·simp only[hw,if_true];refine .inl ?_;have h3:=hv w1 c1;unfold Oper.wp;generalize (execOp a.eval o).run P w1=r at *;cases r with
  | ok n w'=>
   cases n <;> simp only[yieldsAtE] at h3 <;> simp only[Oper.upon];case value u=>
    obtain⟨e1,e2⟩:=h3;rw[e1,e2];exact h
   case enter f args=>
    obtain⟨e1,hc⟩:=h3;rw[e1];exact hc.mono fun e w'' ⟨he,hw''⟩=>by subst he;subst hw'';exact h
  | halt x w'=>simp only[yieldsAtE] at h3
 ·simp only[hw,Bool.false_eq_true,if_false];exact h
theorem wpOp_putE {j:Nat} {oi oj:Oper} {v:Value} (hj:ops[j]?=some oj) (hap:oi.apart ops oj=true)
  (hsi:∀cs b,oi.op≠.select cs b) (hsj:∀cs b,oj.op≠.select cs b)
  (hQ:∀c a w,Q (.panic c) (a.put oi.dst v) w→Q (.panic c) a w) {K:Act→World→Prop} {a:Act} {w:World}
  (hy:YieldsE S w0 P ops oi v a) (h:wpOp P ops Q j K (a.put oi.dst v) w):
  wpOp P ops Q j (fun a' w'=>YieldsE S w0 P ops oi v a'∧K (a'.put oi.dst v) w') a w:=by
 obtain⟨h1,h2,h3⟩:=Oper.apart_spec hap;have keep:∀(a:Act),YieldsE S w0 P ops oi v a→∀u,YieldsE S w0 P ops oi v (a.put oj.dst u):=fun a hy u=>
  hy.of_same (execOp_put oi hsi a oj.dst u h3) (wanted_put oi a oj.dst u h3)
 have keepD:∀d,YieldsE S w0 P ops oi v { a with defers:=d::a.defers }:=fun d=>hy.of_same rfl rfl
 unfold wpOp at *;simp only[hj] at *;rw[wanted_put oj a oi.dst v h1] at h;split
 ·rename_i hw;simp only[hw,if_true] at h;rcases h with h | ⟨hasks,hlets⟩
  case inr=>exact .inr ⟨by unfold Oper.asks at *;rw[execOp_put oj hsj a oi.dst v h1] at hasks;exact hasks,hlets⟩
  refine .inl ?_;unfold Oper.wp at *;rw[execOp_put oj hsj a oi.dst v h1] at h;generalize (execOp a.eval oj).run P w=r at *;cases r with
  | ok n w'=>
   cases n <;> simp only[Oper.upon] at h ⊢;case value u=>exact⟨keep a hy u,by rw[←Act.put_comm a v u h2];exact h⟩
   case skip=>exact⟨keep a hy _,by rw[←Act.put_comm a v undef h2];exact h⟩
   case defer d=>
    refine⟨keep _ (keepD d) _,?_⟩;rw[←Act.put_comm _ v undef h2,←Act.put_defers];exact h
   case enter f args=>
    refine Calls.mono h fun e w'' he=>?_
    cases e with
    | returned u=>exact⟨keep a hy u,by rw[←Act.put_comm a v u h2];exact he⟩
    | panicked c=>exact hQ _ _ _ he
    | outgrown=>exact he
   case row row args=>exact Rows.mono h fun u w'' he=>⟨keep a hy u,by rw[←Act.put_comm a v u h2];exact he⟩
  | halt x w'=>
   cases x <;> simp only[Oper.upon] at h ⊢;case panic u=>exact hQ _ _ _ h
 ·rename_i hw;simp only[hw] at h;exact⟨keep a hy _,by rw[←Act.put_comm a v undef h2];exact h⟩
def wpAnyE (S:List Nat) (w0:World) (P:Program) (md:Region.Mode) (ops:Array Oper) (Q:Exit→Act→World→Prop):Nat→Array Bool→Act→World→Prop
 | 0,listed,a,w=>Region.ready md ops listed=[]∧Q .normal a w
 | fuel+1,listed,a,w=>(Region.ready md ops listed=[]→Q .normal a w)∧
  ∀i∈Region.ready md ops listed,wpOp P ops Q i (fun a' w'=>Chg S w0 w'∧wpAnyE S w0 P md ops Q fuel (listed.setIfInBounds i true) a' w') a w
theorem wpAny_of_E:∀(fuel:Nat) (listed:Array Bool) (a:Act) (w:World),wpAnyE S w0 P md ops Q fuel listed a w→wpAny P md ops Q fuel listed a w
 | 0,_,_,w,h=>⟨h.1,h.2⟩
 | fuel+1,_,_,w,h=>⟨h.1,fun i hi=>wpOp_mono (fun a' w' h'=>wpAny_of_E fuel _ a' w' h'.2) (h.2 i hi)⟩
theorem wpAnyE_first {i:Nat} {oi:Oper} {v:Value} (hi:ops[i]?=some oi) (hsel:∀(j:Nat) (o:Oper) cs b,ops[j]?=some o→o.op≠.select cs b)
  (hQ:∀c a w,Q (.panic c) (a.put oi.dst v) w→Q (.panic c) a w):
  ∀(fuel:Nat) (listed:Array Bool) (a:Act) (w:World),
   (∀j oj,ops[j]?=some oj→j≠i→listed.getD j true=false→(∀e∈oj.after,Region.binds md e=true→e.on≠i)→oi.apart ops oj=true)→
   i∈Region.ready md ops listed→YieldsE S w0 P ops oi v a→Chg S w0 w→
   wpAnyE S w0 P md ops Q fuel (listed.setIfInBounds i true) (a.put oi.dst v) w→wpAnyE S w0 P md ops Q (fuel+1) listed a w:=by
 intro fuel
 induction fuel with
 | zero=>
  intro listed a w _ hr hy c H;refine⟨fun h=>(by rw[h] at hr;cases hr),fun j hj=>?_⟩;by_cases hji:j=i;·subst hji;exact hy.wpOp hi c ⟨c,H⟩
  ·have:=ready_mono hj hji;rw[H.1] at this;cases this
 | succ fuel ih=>
  intro listed a w hfree hr hy c H;refine⟨fun h=>(by rw[h] at hr;cases hr),fun j hj=>?_⟩;by_cases hji:j=i;·subst hji;exact hy.wpOp hi c ⟨c,H⟩
  ·have h1:=H.2 j (ready_mono hj hji);obtain⟨hjun,oj,hoj,hall⟩:=mem_ready.1 hj;have hnot:∀e∈oj.after,Region.binds md e=true→e.on≠i:=fun e he hb heq=>by
    have h1:=hall e he hb;have h0:=(mem_ready.1 hr).1;rw[heq] at h1;rcases Nat.lt_or_ge i listed.size with h' | h'
    ·simp[h'] at h0 h1;rw[h0] at h1;cases h1
    ·simp[Array.getElem?_eq_none h'] at h1
   have h2:=wpOp_putE hoj (hfree j oj hoj hji hjun hnot) (fun cs b=>hsel i oi cs b hi) (fun cs b=>hsel j oj cs b hoj) hQ hy h1;have hfree':∀k ok,ops[k]?=some ok→k≠i→(listed.setIfInBounds j true).getD k true=false→
     (∀e∈ok.after,Region.binds md e=true→e.on≠i)→oi.apart ops ok=true:=fun k ok hk hki hun hno=>by
    refine hfree k ok hk hki ?_ hno;by_cases hjk:j=k;·subst hjk;exact hjun
    ·rw[getD_set_ne true hjk] at hun;exact hun
   refine wpOp_mono (fun a' w' h3=>⟨h3.2.1,ih (listed.setIfInBounds j true) a' w' hfree' (ready_mono hr (Ne.symm hji)) h3.1 h3.2.1 ?_⟩) h2;rw[Array.setIfInBounds_comm _ _ hji];exact h3.2.2
theorem wpAnyE_take (i:Nat) {oi:Oper} {v:Value} {fuel:Nat} {listed:Array Bool} {a:Act} {w:World} (c:Chg S w0 w) (hi:ops[i]?=some oi)
  (hs:Region.noSelect ops=true) (hf:Region.free md ops listed i=true) (hr:(Region.ready md ops listed).contains i=true)
  (hQ:∀c a w,Q (.panic c) (a.put oi.dst v) w→Q (.panic c) a w) (hw:Region.wanted oi (yielded ops a.tmps)=true)
  (hy:∀w1,Chg S w0 w1→(execOp a.eval oi).run P w1=.ok (.value v) w1)
  (h:wpAnyE S w0 P md ops Q fuel (listed.setIfInBounds i true) (a.put oi.dst v) w):wpAnyE S w0 P md ops Q (fuel+1) listed a w:=
 wpAnyE_first hi (Region.noSelect_spec hs) hQ fuel listed a w (Region.free_spec hi hf) (by simpa using hr)
  (.inl ⟨hw,fun w1 c1=>by rw[hy w1 c1];exact⟨rfl,rfl⟩⟩) c h
theorem wpAnyE_call (i:Nat) {oi:Oper} {f:FuncId} {args:Array Value} {v:Value} {fuel:Nat} {listed:Array Bool} {a:Act} {w:World} (c:Chg S w0 w) (hi:ops[i]?=some oi)
  (hs:Region.noSelect ops=true) (hf:Region.free md ops listed i=true) (hr:(Region.ready md ops listed).contains i=true)
  (hQ:∀c a w,Q (.panic c) (a.put oi.dst v) w→Q (.panic c) a w) (hw:Region.wanted oi (yielded ops a.tmps)=true)
  (hy:∀w1,Chg S w0 w1→(execOp a.eval oi).run P w1=.ok (.enter f args) w1)
  (hc:∀w1,Chg S w0 w1→Calls P f args w1 (fun e w''=>e=.returned v∧w''=w1))
  (h:wpAnyE S w0 P md ops Q fuel (listed.setIfInBounds i true) (a.put oi.dst v) w):wpAnyE S w0 P md ops Q (fuel+1) listed a w:=
 wpAnyE_first hi (Region.noSelect_spec hs) hQ fuel listed a w (Region.free_spec hi hf) (by simpa using hr)
  (.inl ⟨hw,fun w1 c1=>by rw[hy w1 c1];exact⟨rfl,hc w1 c1⟩⟩) c h
theorem wpAnyE_only (i:Nat) {oi:Oper} {fuel:Nat} {listed:Array Bool} {a:Act} {w:World} (hi:ops[i]?=some oi) (hr:Region.ready md ops listed=[i])
  (hw:Region.wanted oi (yielded ops a.tmps)=true)
  (h:oi.wp P a w (fun a' w'=>Chg S w0 w'∧wpAnyE S w0 P md ops Q fuel (listed.setIfInBounds i true) a' w') Q):wpAnyE S w0 P md ops Q (fuel+1) listed a w:=by
 refine⟨fun h0=>(by rw[hr] at h0;cases h0),fun j hj=>?_⟩;rw[hr] at hj;simp only[List.mem_singleton] at hj;subst hj;unfold wpOp;simp only[hi,hw,if_true];exact .inl h
theorem wpAnyE_two (i j:Nat) {oi oj:Oper} {fuel:Nat} {listed:Array Bool} {a:Act} {w:World} (hi:ops[i]?=some oi) (hj:ops[j]?=some oj) (hr:Region.ready md ops listed=[i,j])
  (hwi:Region.wanted oi (yielded ops a.tmps)=true) (hwj:Region.wanted oj (yielded ops a.tmps)=true)
  (h1:oi.wp P a w (fun a' w'=>Chg S w0 w'∧wpAnyE S w0 P md ops Q fuel (listed.setIfInBounds i true) a' w') Q)
  (h2:oj.wp P a w (fun a' w'=>Chg S w0 w'∧wpAnyE S w0 P md ops Q fuel (listed.setIfInBounds j true) a' w') Q):wpAnyE S w0 P md ops Q (fuel+1) listed a w:=by
 refine⟨fun h0=>(by rw[hr] at h0;cases h0),fun k hk=>?_⟩;rw[hr] at hk;simp only[List.mem_cons,List.not_mem_nil,or_false] at hk;rcases hk with rfl | rfl
 ·unfold wpOp;simp only[hi,hwi,if_true];exact .inl h1
 ·unfold wpOp;simp only[hj,hwj,if_true];exact .inl h2
theorem wpAnyE_done {listed:Array Bool} {a:Act} {w:World} (hr:Region.ready md ops listed=[]) (h:Q .normal a w):∀fuel,wpAnyE S w0 P md ops Q fuel listed a w
 | 0=>⟨hr,h⟩
 | _+1=>⟨fun _=>h,by rw[hr];simp⟩
theorem wp_region_E (S:List Nat) {id:Nat} {a:Act} {w:World} (hm:P.follows .mixedOrders=true)
  (h:wpAnyE S w.drew P .any ops Q ops.size (Array.replicate ops.size false) a w.drew):(Code.region id ops true).wp P Q a w:=
 wp_region_any hm (wpAny_of_E _ _ _ _ h)
theorem tE (i:Nat) {oi:Oper} (v:Value) {fuel:Nat} {listed:Array Bool} {a:Act} {w:World} (c:Chg S w0 w) (hy:∀w1,Chg S w0 w1→(execOp a.eval oi).run P w1=.ok (.value v) w1)
  (h:wpAnyE S w0 P md ops Q fuel (listed.setIfInBounds i true) (a.put oi.dst v) w) (hi:ops[i]?=some oi:=by exact rfl) (hs:Region.noSelect ops=true:=by kernel_rfl) (hf:Region.free md ops listed i=true:=by kernel_rfl) (hr:(Region.ready md ops listed).contains i=true:=by kernel_rfl) (hQ:∀c a w,Q (.panic c) (a.put oi.dst v) w→Q (.panic c) a w:=by exact fun _ _ _ h=>h) (hw:Region.wanted oi (yielded ops a.tmps)=true:=by exact rfl):wpAnyE S w0 P md ops Q (fuel+1) listed a w:=wpAnyE_take i c hi hs hf hr hQ hw hy h
theorem oE (i:Nat) {oi:Oper} {fuel:Nat} {listed:Array Bool} {a:Act} {w:World}
  (h:oi.wp P a w (fun a' w'=>Chg S w0 w'∧wpAnyE S w0 P md ops Q fuel (listed.setIfInBounds i true) a' w') Q) (hi:ops[i]?=some oi:=by exact rfl) (hr:Region.ready md ops listed=[i]:=by kernel_rfl)
  (hw:Region.wanted oi (yielded ops a.tmps)=true:=by exact rfl):wpAnyE S w0 P md ops Q (fuel+1) listed a w:=wpAnyE_only i hi hr hw h
end
end
section
open Go.RowKit
section
variable {P:Program} {ops:Array Oper} {Q:Exit→Act→World→Prop} {md:Region.Mode}
def yieldsAt (P:Program) (w1:World) (v:Value):Result Next→Prop
 | .ok (.value u) w'=>w'=w1∧u=v
 | .ok (.enter f args) w'=>w'=w1∧Calls P f args w1 (fun e w''=>e=.returned v∧Chg [] w1 w'')
 | _=>False
def YieldsT (P:Program) (ops:Array Oper) (o:Oper) (v:Value) (a:Act) (w:World):Prop:=
 (Region.wanted o (yielded ops a.tmps)=true∧∀w1,Chg [] w w1→yieldsAt P w1 v ((execOp a.eval o).run P w1))∨
 (Region.wanted o (yielded ops a.tmps)=false∧v=undef)
theorem YieldsT.mono {o:Oper} {v:Value} {a:Act} {w w':World} (h:YieldsT P ops o v a w) (c:Chg [] w w'):YieldsT P ops o v a w':=
 h.imp (fun⟨h1,h2⟩=>⟨h1,fun w1 c1=>h2 w1 (c.nil c1)⟩) id
theorem YieldsT.of_same {o:Oper} {v:Value} {a a':Act} {w:World} (hy:YieldsT P ops o v a w) (he:execOp a'.eval o=execOp a.eval o)
  (hw:Region.wanted o (yielded ops a'.tmps)=Region.wanted o (yielded ops a.tmps)):YieldsT P ops o v a' w:=by
 unfold YieldsT at *;rw[he,hw];exact hy
theorem YieldsT.wpOp {i:Nat} {o:Oper} {v:Value} {a:Act} {w w1:World} (hi:ops[i]?=some o) (hy:YieldsT P ops o v a w) (c1:Chg [] w w1)
  {K:Act→World→Prop} (h:∀w',Chg [] w1 w'→K (a.put o.dst v) w'):wpOp P ops Q i K a w1:=by
 unfold Go.wpOp;simp only[hi];rcases hy with ⟨hw,hv⟩ | ⟨hw,rfl⟩
 ·simp only[hw,if_true];refine .inl ?_;have h3:=hv w1 c1;unfold Oper.wp;generalize (execOp a.eval o).run P w1=r at *;cases r with
  | ok n w'=>
   cases n <;> simp only[yieldsAt] at h3 <;> simp only[Oper.upon];case value u=>
    obtain⟨e1,e2⟩:=h3;rw[e1,e2];exact h _ (Chg.refl _ _)
   case enter f args=>
    obtain⟨e1,hc⟩:=h3;rw[e1];exact hc.mono fun e w'' ⟨he,hw''⟩=>by subst he;exact h _ hw''
  | halt x w'=>simp only[yieldsAt] at h3
 ·simp only[hw,Bool.false_eq_true,if_false];exact h _ (Chg.refl _ _)
theorem wpOp_putT {j:Nat} {oi oj:Oper} {v:Value} {w0:World} (hj:ops[j]?=some oj) (hap:oi.apart ops oj=true)
  (hsi:∀cs b,oi.op≠.select cs b) (hsj:∀cs b,oj.op≠.select cs b)
  (hQ:∀c a w,Q (.panic c) (a.put oi.dst v) w→Q (.panic c) a w) {K:Act→World→Prop} {a:Act} {w:World}
  (hy:YieldsT P ops oi v a w0) (h:wpOp P ops Q j K (a.put oi.dst v) w):
  wpOp P ops Q j (fun a' w'=>YieldsT P ops oi v a' w0∧K (a'.put oi.dst v) w') a w:=by
 obtain⟨h1,h2,h3⟩:=Oper.apart_spec hap;have keep:∀(a:Act),YieldsT P ops oi v a w0→∀u,YieldsT P ops oi v (a.put oj.dst u) w0:=fun a hy u=>
  hy.of_same (execOp_put oi hsi a oj.dst u h3) (wanted_put oi a oj.dst u h3)
 have keepD:∀d,YieldsT P ops oi v { a with defers:=d::a.defers } w0:=fun d=>hy.of_same rfl rfl
 unfold wpOp at *;simp only[hj] at *;rw[wanted_put oj a oi.dst v h1] at h;split
 ·rename_i hw;simp only[hw,if_true] at h;rcases h with h | ⟨hasks,hlets⟩
  case inr=>exact .inr ⟨by unfold Oper.asks at *;rw[execOp_put oj hsj a oi.dst v h1] at hasks;exact hasks,hlets⟩
  refine .inl ?_;unfold Oper.wp at *;rw[execOp_put oj hsj a oi.dst v h1] at h;generalize (execOp a.eval oj).run P w=r at *;cases r with
  | ok n w'=>
   cases n <;> simp only[Oper.upon] at h ⊢;case value u=>exact⟨keep a hy u,by rw[←Act.put_comm a v u h2];exact h⟩
   case skip=>exact⟨keep a hy _,by rw[←Act.put_comm a v undef h2];exact h⟩
   case defer d=>
    refine⟨keep _ (keepD d) _,?_⟩;rw[←Act.put_comm _ v undef h2,←Act.put_defers];exact h
   case enter f args=>
    refine Calls.mono h fun e w'' he=>?_
    cases e with
    | returned u=>exact⟨keep a hy u,by rw[←Act.put_comm a v u h2];exact he⟩
    | panicked c=>exact hQ _ _ _ he
    | outgrown=>exact he
   case row row args=>exact Rows.mono h fun u w'' he=>⟨keep a hy u,by rw[←Act.put_comm a v u h2];exact he⟩
  | halt x w'=>
   cases x <;> simp only[Oper.upon] at h ⊢;case panic u=>exact hQ _ _ _ h
 ·rename_i hw;simp only[hw] at h;exact⟨keep a hy _,by rw[←Act.put_comm a v undef h2];exact h⟩
def wpAnyT (P:Program) (md:Region.Mode) (ops:Array Oper) (Q:Exit→Act→World→Prop):Nat→Array Bool→Act→World→Prop
 | 0,listed,a,w=>Region.ready md ops listed=[]∧∀w1,Chg [] w w1→Q .normal a w1
 | fuel+1,listed,a,w=>∀w1,Chg [] w w1→(Region.ready md ops listed=[]→Q .normal a w1)∧
  ∀i∈Region.ready md ops listed,wpOp P ops Q i (fun a' w'=>Chg [] w1 w'∧wpAnyT P md ops Q fuel (listed.setIfInBounds i true) a' w') a w1
theorem wpAnyT.mono {fuel:Nat} {listed:Array Bool} {a:Act} {w w':World} (h:wpAnyT P md ops Q fuel listed a w) (c:Chg [] w w'):wpAnyT P md ops Q fuel listed a w':=by
 cases fuel with
 | zero=>exact⟨h.1,fun w1 c1=>h.2 w1 (c.nil c1)⟩
 | succ n=>exact fun w1 c1=>h w1 (c.nil c1)
end
end
section
open Go.RowKit
theorem results_AT {P:Program} {fn:Func} {p u:Tmp} {ty:TypeId} (h:fn.results=#[.cell p ty,.tmp u]) (tmps:Array Value) (w:World) {g:Nat} {e:TypeId} {cs:Array Value}
  (hb:Blk w g cs e) (ht:ArrTy P ty cs.size) (hp:tmps.getD p undef=.pointer (some ⟨g,0,none⟩)):(results fn tmps).run P w=.ok (.tuple #[.agg cs,tmps.getD u undef]) w:=by
 obtain⟨⟨d,h1,h2⟩,h3⟩:=ht;have hp':tmps[p]?.getD undef=.pointer (some ⟨g,0,none⟩):=by simpa using hp
 have hl:=run_loadVar_row w g e ty cs (0,0) d hb h1 (by cases d <;> simp_all) h3;rw[results_cell_tmp h];simp[hp',asAddr,Result.andThen,hl]
theorem wp_stA {P:Program} {o:Oper} {a:Act} {w:World} {K:Act→World→Prop} {Q:Exit→Act→World→Prop} (ty:TypeId) (x y:Operand) (ho:o.op=.store ty x y)
  {g:Nat} {old cs:Array Value} {e:TypeId} (hb:Blk w g old e) (ht:ArrTy P ty cs.size) (hs:old.size=cs.size) (h1:∀v∈cs.toList,v.oneCell'=true) (hx:a.eval x=.pointer (some ⟨g,0,none⟩)) (hy:a.eval y=.agg cs)
  (h:∀w',Blk w' g cs e→Chg [g] w w'→w'.heap.size=w.heap.size→K (a.put o.dst undef) w'):o.wp P a w K Q:=by
 obtain⟨-,h3⟩:=ht;refine wp_store_row ty x y ho g cs hx hy e old hb h3 hs (Array.all_eq_true_iff_forall_mem.2 fun v hv=>h1 v (by simpa using hv)) ?_;exact h _ (setRow_heap w g old cs e _ hb) ⟨rfl,rfl,rfl,by simp,fun k _ hk=>setRow_other w g k cs (fun e=>hk (by simp[e]))⟩ (by simp)
section
variable {P:Program} {ops:Array Oper} {Q:Exit→Act→World→Prop} {md:Region.Mode} {L:Nat→Bool}
def wpAnyS (P:Program) (md:Region.Mode) (ops:Array Oper) (Q:Exit→Act→World→Prop) (L:Nat→Bool):Nat→Array Bool→Act→World→Prop
 | 0,listed,a,w=>Region.ready md ops listed=[]∧∀w1,Chg [] w w1→Q .normal a w1
 | fuel+1,listed,a,w=>∀w1,Chg [] w w1→(Region.ready md ops listed=[]→Q .normal a w1)∧
  ∀i∈Region.ready md ops listed,wpOp P ops Q i (fun a' w'=>(L i=true→wpAny P md ops Q fuel (listed.setIfInBounds i true) a' w')∧(L i=false→Chg [] w1 w'∧wpAnyS P md ops Q L fuel (listed.setIfInBounds i true) a' w')) a w1
theorem wpAnyS.mono {fuel:Nat} {listed:Array Bool} {a:Act} {w w':World} (h:wpAnyS P md ops Q L fuel listed a w) (c:Chg [] w w'):wpAnyS P md ops Q L fuel listed a w':=by
 cases fuel with
 | zero=>exact⟨h.1,fun w1 c1=>h.2 w1 (c.nil c1)⟩
 | succ n=>exact fun w1 c1=>h w1 (c.nil c1)
theorem wpAny_of_S:∀(fuel:Nat) (listed:Array Bool) (a:Act) (w:World),wpAnyS P md ops Q L fuel listed a w→wpAny P md ops Q fuel listed a w
 | 0,_,_,w,h=>⟨h.1,h.2 w (Chg.refl _ _)⟩
 | fuel+1,_,_,w,h=>⟨(h w (Chg.refl _ _)).1,fun i hi=>wpOp_mono (fun a' w' h'=>by
   cases hL:L i with
   | true=>exact h'.1 hL
   | false=>exact wpAny_of_S fuel _ a' w' (h'.2 hL).2) ((h w (Chg.refl _ _)).2 i hi)⟩
def lastsWait (md:Region.Mode) (ops:Array Oper) (L:Nat→Bool) (i:Nat):Bool:=!L i&&(List.range ops.size).all fun j=>!L j || Region.waitsFor md ops j i
theorem wpAnyS_first {i:Nat} {oi:Oper} {v:Value} (hi:ops[i]?=some oi) (hsel:∀(j:Nat) (o:Oper) cs b,ops[j]?=some o→o.op≠.select cs b) (hl:lastsWait md ops L i=true)
  (hQ:∀c a w,Q (.panic c) (a.put oi.dst v) w→Q (.panic c) a w):
  ∀(fuel:Nat) (listed:Array Bool) (a:Act) (w:World),
   (∀j oj,ops[j]?=some oj→j≠i→listed.getD j true=false→(∀e∈oj.after,Region.binds md e=true→e.on≠i)→oi.apart ops oj=true)→
   i∈Region.ready md ops listed→YieldsT P ops oi v a w→
   wpAnyS P md ops Q L fuel (listed.setIfInBounds i true) (a.put oi.dst v) w→wpAnyS P md ops Q L (fuel+1) listed a w:=by
 unfold lastsWait at hl;simp only[Bool.and_eq_true,Bool.not_eq_true',List.all_eq_true,List.mem_range,Bool.or_eq_true] at hl;obtain⟨hLi,hLj⟩:=hl;intro fuel
 induction fuel with
 | zero=>
  intro listed a w _ hr hy H w1 c1;refine⟨fun h=>(by rw[h] at hr;cases hr),fun j hj=>?_⟩;by_cases hji:j=i;·subst hji;exact hy.wpOp hi c1 fun w' c'=>⟨fun h=>(by rw[hLi] at h;cases h),fun _=>⟨c',H.mono (c1.nil c')⟩⟩
  ·have:=ready_mono hj hji;rw[H.1] at this;cases this
 | succ fuel ih=>
  intro listed a w hfree hr hy H w1 c1;refine⟨fun h=>(by rw[h] at hr;cases hr),fun j hj=>?_⟩;by_cases hji:j=i;·subst hji;exact hy.wpOp hi c1 fun w' c'=>⟨fun h=>(by rw[hLi] at h;cases h),fun _=>⟨c',H.mono (c1.nil c')⟩⟩
  ·have h1:=(H w1 c1).2 j (ready_mono hj hji);obtain⟨hjun,oj,hoj,hall⟩:=mem_ready.1 hj;have hnot:∀e∈oj.after,Region.binds md e=true→e.on≠i:=fun e he hb heq=>by
    have h1:=hall e he hb;have h0:=(mem_ready.1 hr).1;rw[heq] at h1;rcases Nat.lt_or_ge i listed.size with h' | h'
    ·simp[h'] at h0 h1;rw[h0] at h1;cases h1
    ·simp[Array.getElem?_eq_none h'] at h1
   have hLf:L j=false:=by
    cases hL:L j with
    | false=>rfl
    | true=>
     have hjs:j<ops.size:=(Array.getElem?_eq_some_iff.1 hoj).1;rcases hLj j hjs with h | h
     ·rw[hL] at h;cases h
     ·obtain⟨oj',ho',e,he,hb,heq⟩:=Region.waitsFor_spec h;have:oj'=oj:=Option.some.inj (ho'.symm.trans hoj);subst this;exact absurd heq (hnot e he hb)
   have h2:=wpOp_putT hoj (hfree j oj hoj hji hjun hnot) (fun cs b=>hsel i oi cs b hi) (fun cs b=>hsel j oj cs b hoj) hQ hy h1;have hfree':∀k ok,ops[k]?=some ok→k≠i→(listed.setIfInBounds j true).getD k true=false→
     (∀e∈ok.after,Region.binds md e=true→e.on≠i)→oi.apart ops ok=true:=fun k ok hk hki hun hno=>by
    refine hfree k ok hk hki ?_ hno;by_cases hjk:j=k;·subst hjk;exact hjun
    ·rw[getD_set_ne true hjk] at hun;exact hun
   refine wpOp_mono (fun a' w' h3=>⟨fun h=>(by rw[hLf] at h;cases h),fun _=>⟨(h3.2.2 hLf).1,ih (listed.setIfInBounds j true) a' w' hfree' (ready_mono hr (Ne.symm hji)) (h3.1.mono (c1.nil (h3.2.2 hLf).1)) ?_⟩⟩) h2;rw[Array.setIfInBounds_comm _ _ hji];exact (h3.2.2 hLf).2
theorem wpAnyS_take (i:Nat) {oi:Oper} {v:Value} {fuel:Nat} {listed:Array Bool} {a:Act} {w:World} (hi:ops[i]?=some oi)
  (hs:Region.noSelect ops=true) (hf:Region.free md ops listed i=true) (hr:(Region.ready md ops listed).contains i=true) (hl:lastsWait md ops L i=true)
  (hQ:∀c a w,Q (.panic c) (a.put oi.dst v) w→Q (.panic c) a w) (hw:Region.wanted oi (yielded ops a.tmps)=true)
  (hy:∀w1,Chg [] w w1→(execOp a.eval oi).run P w1=.ok (.value v) w1)
  (h:wpAnyS P md ops Q L fuel (listed.setIfInBounds i true) (a.put oi.dst v) w):wpAnyS P md ops Q L (fuel+1) listed a w:=
 wpAnyS_first hi (Region.noSelect_spec hs) hl hQ fuel listed a w (Region.free_spec hi hf) (by simpa using hr)
  (.inl ⟨hw,fun w1 c1=>by rw[hy w1 c1];exact⟨rfl,rfl⟩⟩) h
theorem wpAnyS_last (i:Nat) {oi:Oper} {fuel:Nat} {listed:Array Bool} {a:Act} {w:World} (hi:ops[i]?=some oi) (hr:Region.ready md ops listed=[i]) (hl:L i=true)
  (hw:Region.wanted oi (yielded ops a.tmps)=true)
  (h:∀w1,Chg [] w w1→oi.wp P a w1 (fun a' w'=>wpAny P md ops Q fuel (listed.setIfInBounds i true) a' w') Q):wpAnyS P md ops Q L (fuel+1) listed a w:=by
 intro w1 c1;refine⟨fun h0=>(by rw[hr] at h0;cases h0),fun j hj=>?_⟩;rw[hr] at hj;simp only[List.mem_singleton] at hj;subst hj;unfold wpOp;simp only[hi,hw,if_true];exact .inl (Oper.wp_mono (fun a' w' h'=>⟨fun _=>h',fun h0=>(by rw[hl] at h0;cases h0)⟩) (h w1 c1))
theorem wpAny_only (i:Nat) {oi:Oper} {fuel:Nat} {listed:Array Bool} {a:Act} {w:World} (hi:ops[i]?=some oi) (hr:Region.ready md ops listed=[i])
  (hw:Region.wanted oi (yielded ops a.tmps)=true)
  (h:oi.wp P a w (fun a' w'=>wpAny P md ops Q fuel (listed.setIfInBounds i true) a' w') Q):wpAny P md ops Q (fuel+1) listed a w:=by
 refine⟨fun h0=>(by rw[hr] at h0;cases h0),fun j hj=>?_⟩;rw[hr] at hj;simp only[List.mem_singleton] at hj;subst hj;unfold wpOp;simp only[hi,hw,if_true];exact .inl h
theorem wpAny_fin {listed:Array Bool} {a:Act} {w:World} (hr:Region.ready md ops listed=[]) (h:Q .normal a w):∀fuel,wpAny P md ops Q fuel listed a w
 | 0=>⟨hr,h⟩
 | _+1=>⟨fun _=>h,by rw[hr];simp⟩
theorem wp_region_S (L:Nat→Bool) {id:Nat} {a:Act} {w:World} (hm:P.follows .mixedOrders=true)
  (h:wpAnyS P .any ops Q L ops.size (Array.replicate ops.size false) a w):(Code.region id ops true).wp P Q a w:=
 wp_region_any hm (wpAny_of_S _ _ _ _ (h.mono (Chg.refl [] w).drew))
theorem tS (i:Nat) {oi:Oper} (v:Value) {fuel:Nat} {listed:Array Bool} {a:Act} {w:World} (hy:∀w1,Chg [] w w1→(execOp a.eval oi).run P w1=.ok (.value v) w1)
  (h:wpAnyS P md ops Q L fuel (listed.setIfInBounds i true) (a.put oi.dst v) w) (hi:ops[i]?=some oi:=by exact rfl) (hs:Region.noSelect ops=true:=by kernel_rfl) (hf:Region.free md ops listed i=true:=by kernel_rfl) (hr:(Region.ready md ops listed).contains i=true:=by kernel_rfl) (hl:lastsWait md ops L i=true:=by kernel_rfl) (hQ:∀c a w,Q (.panic c) (a.put oi.dst v) w→Q (.panic c) a w:=by exact fun _ _ _ h=>h) (hw:Region.wanted oi (yielded ops a.tmps)=true:=by exact rfl):wpAnyS P md ops Q L (fuel+1) listed a w:=wpAnyS_take i hi hs hf hr hl hQ hw hy h
end
end
end Go.Aq
