/- ObO ObP -/
import Derived.Test.YtlidiclfpklliaaGreatDoorObN
set_option linter.unusedSimpArgs false
set_option linter.unusedVariables false
set_option maxHeartbeats 8000000
namespace Go.Proofs.YtlidiclfpklliaaGreatDoor
open Go.RowKit Go.Aq Go.Aq.Fy
def ObjR (w:World):ObjD→Value→Prop
 | .tile s px,x=>∃pv,x=.iface 270 (rasV s pv)∧Sees w 1 pv px.length (Bs px)
 | .tree t,x=>∃v,x=.iface 271 (treeV t v)∧Sees w 1 v t.keys.length (names t.keys)
 | .comm c,x=>∃v,x=.iface 273 (commV c v)∧Sees w 1 v c.pars.length (names c.pars)
def ParsedO (w:World):Option ObjD→Value→Prop
 | none,x=>x=.nilIface
 | some o,x=>ObjR w o x
theorem num1_cons (k:UInt8) (t:List UInt8):numR 1 ⟨k::t,false⟩=(k.toNat,⟨t,false⟩):=by
 unfold numR takeR
 rw[if_neg (by simp)]
 simp[beVal]
theorem parse_of {b:List UInt8} {o:ObjD} (h:readO b=some o):parseO b=if o.bytes=b then some o else none:=by
 unfold parseO
 rw[h]
 simp[Option.filter]
theorem method_tile (f:Nat) (w:World) (a b c d e:Value):(method (f+1) 270 (.agg #[a,b,c,d,e]) "Bytes").run Tryz.prog w=.ok (366,.agg #[a,b,c,d,e]) w:=by kernel_rfl
theorem method_tree (f:Nat) (w:World) (a b c d e:Value):(method (f+1) 271 (.agg #[a,b,c,d,e]) "Bytes").run Tryz.prog w=.ok (372,.agg #[a,b,c,d,e]) w:=by kernel_rfl
theorem method_comm (f:Nat) (w:World) (a b c d e:Value):(method (f+1) 273 (.agg #[a,b,c,d,e]) "Bytes").run Tryz.prog w=.ok (382,.agg #[a,b,c,d,e]) w:=by kernel_rfl
theorem dec_len (t:List UInt8):(decPL t).2.1.length≤t.length:=by
 unfold decPL
 split
 ·simp
 ·split
  ·simp
  ·split
   ·simp
   ·split
    ·simp
    ·simp
theorem hexL_short (n:Nat) (r:RdD) (h:n≤32):(hexL (takeR n r).1).length≤64:=by
 rw[hexL_length]
 have:=takeR_len n r
 omega
theorem keysR_short:∀(n:Nat) (r:RdD),∀k∈(keysR n r).1,k.length≤1000000
 | 0,r,k,hk=>by simp[keysR] at hk
 | n+1,r,k,hk=>by
  unfold keysR at hk
  split at hk
  ·simp at hk
  ·rcases List.mem_cons.1 hk with rfl | h
   ·have:=hexL_short 32 r (Nat.le_refl _);omega
   ·exact keysR_short n _ k h
theorem keys_le (t:List UInt8):(treeR ⟨t,false⟩).1.keys.length≤100000:=by
 have h:=keysR_len ((gridD (treeR ⟨t,false⟩).1.shp).1 * (gridD (treeR ⟨t,false⟩).1.shp).2).toNat (numR 1 (numR 1 (numR 2 (numR 2 ⟨t,false⟩).2).2).2).2
 have h2:=(mul_nat (grid_le (treeR ⟨t,false⟩).1.shp).1 (grid_le (treeR ⟨t,false⟩).1.shp).2).1
 exact Nat.le_trans h (by omega)
theorem keys_short (t:List UInt8):∀k∈(treeR ⟨t,false⟩).1.keys,k.length≤1000000:=keysR_short _ _
theorem pars_le (t:List UInt8):(commR ⟨t,false⟩).1.pars.length≤100000:=by
 have h:=keysR_len (numR 1 (takeR 32 ⟨t,false⟩).2).1 (numR 1 (takeR 32 ⟨t,false⟩).2).2
 have h2:=numR_lt 1 (takeR 32 ⟨t,false⟩).2
 exact Nat.le_trans h (by omega)
theorem pars_short (t:List UInt8):∀k∈(commR ⟨t,false⟩).1.pars,k.length≤1000000:=keysR_short _ _
theorem tree_short (t:List UInt8):(commR ⟨t,false⟩).1.tree.length≤1000000:=by
 have h:=hexL_short 32 ⟨t,false⟩ (Nat.le_refl _)
 have e:(commR ⟨t,false⟩).1.tree=hexL (takeR 32 ⟨t,false⟩).1:=rfl
 rw[e]
 omega
set_option maxRecDepth 100000 in
theorem parse_tile (w:World) (v:Value) (t:List UInt8) (n:Nat) (hn:(1::t).length=n) (hv:Sees w 1 v n (Bs (1::t))) (hb:n≤1000000):
  Calls Tryz.prog 112 #[v] w fun e w'=>∃x,e=.returned x∧ParsedO w' (parseO (1::t)) x∧Chg [] w w':=by
 obtain⟨ao,cap,rfl,-⟩:=hv.shape
 obtain⟨K,hK⟩:∃K,w.heap.size=K:=⟨_,rfl⟩
 have hlt:∀k∈eyes (Value.slice ao n cap),k<K:=fun k hk=>by rw[←hK];exact hv.lt (by decide) k hk
 have hc0:Chg [] w (w.alloc (.cells #[.slice ao n cap,.bool false] 268)):=(Chg.refl [] w).alloc _
 have hb0:Blk (w.alloc (.cells #[.slice ao n cap,.bool false] 268)) K #[.slice ao n cap,.bool false] 268:=Blk.new_at w _ _ hK
 have hr0:RdO (w.alloc (.cells #[.slice ao n cap,.bool false] 268)) K K ⟨1::t,false⟩:=⟨_,hb0,by rw[hn];exact hv.chg0 hc0,fun h=>by have:=hlt K h;omega,hlt⟩
 have hnum:=onumber_ok _ K K ⟨1::t,false⟩ 1 (by decide) (by decide) hr0 (by simp only;rw[hn];omega)
 rw[num1_cons] at hnum
 have hK1:K≤(w.alloc (.cells #[.slice ao n cap,.bool false] 268)).heap.size:=Nat.le_of_lt hb0.lt
 have HC0:=zE hc0 hn hb hK1 hK hv
 obtain⟨P,hP⟩:∃P,parseO (1::t)=P:=⟨_,rfl⟩
 rw[hP]
 have HP:=zH hP
 clear hn hv hb hlt hc0 hb0 hr0 hP hK1
 go_enter Tryz.func112,Tryz.ntmps112
 go_wp2_with fail
 generalize w.alloc (.cells #[.slice ao n cap,.bool false] 268)=w0 at *
 refine hnum.mono ?_
 rintro e w1 ⟨rfl,hr1,c1⟩
 clear hnum
 have htl:t.length≤1000000:=by have h1:=HC0.out.2.1;have h2:=HC0.out.2.2.1;rw[List.length_cons] at h1;omega
 have ct1:Chg [] w w1:=HC0.out.1.trans c1 (fun k hk=>by simp at hk;right;have:=HC0.out.2.2.2.2.1;omega)
 have hK1:Hid (K≤w1.heap.size):=Nat.le_trans HC0.out.2.2.2.1 c1.size
 have k1:((1:UInt8).toNat:Int)=1:=rfl
 have hSb:=HC0.out.2.2.2.2.2.chg0 ct1
 have HT:=zB ct1 htl hSb
 clear c1 ct1 htl hSb
 obtain⟨v1,hb1,hs1,hp1,he1⟩:=hr1
 obtain⟨ao1,cap1,rfl,-⟩:=hs1.shape
 have y0:w1.cell? ⟨K,0,none⟩=some (.slice ao1 t.length cap1):=hb1.cell 0
 have hd:=decode_pix _ _ t w1 hs1 (by have:=HT.out.2.1;simp only at this ⊢;omega)
 clear hb1 hs1 hp1 he1
 obtain⟨s,hs⟩:∃s,(decPL t).1=s:=⟨_,rfl⟩
 obtain⟨px,hpx⟩:∃px,(decPL t).2.1=px:=⟨_,rfl⟩
 obtain⟨en,hen⟩:∃en,(decPL t).2.2=en:=⟨_,rfl⟩
 have hpl:px.length≤1000000:=by have h1:=dec_len t;rw[hpx] at h1;have:=HT.out.2.1;omega
 have HR:Hid (readO (1::t)=some (.tile s px)):=by show _=_;rw[←hs,←hpx];rfl
 rw[hs,hpx,hen] at hd
 clear hs hpx hen
 have mt:=method_tile
 unfold rasV at hd
 go_wp2_with fail
 refine hd.mono ?_
 rintro e w2 ⟨v2,rfl,hs2,hn2,c2⟩
 clear hd y0
 obtain⟨ao2,cap2,rfl,-⟩:=hs2.shape
 have hHW:Chg [] w w2:=HT.out.1.nil c2
 have hSW:=HT.out.2.2.chg0 c2
 have ca:Chg [] w2 (w2.alloc (.cells #[.int .i64 s.w,.int .i64 s.h,.int .i64 s.c,.int .i64 s.d,.slice ao2 px.length cap2] 147)):=(Chg.refl [] w2).alloc _
 have hby:=ibytes_ok (w2.alloc (.cells #[.int .i64 s.w,.int .i64 s.h,.int .i64 s.c,.int .i64 s.d,.slice ao2 px.length cap2] 147)) s _ px (hs2.chg0 ca) (by omega)
 have HW:=zA (hHW.nil ca) (hSW.chg0 ca)
 have HO:Hid (∀w',Chg [] (w2.alloc (.cells #[.int .i64 s.w,.int .i64 s.h,.int .i64 s.c,.int .i64 s.d,.slice ao2 px.length cap2] 147)) w'→ObjR w' (.tile s px) (.iface 270 (rasV s (.slice ao2 px.length cap2)))):=fun w' c=>⟨_,rfl,(hs2.chg0 ca).chg0 c⟩
 unfold rasV at hby HO
 clear hs2 hn2 c2 hHW hSW ca hpl
 go_wp2_with fail
 refine hby.mono ?_
 rintro e w5 ⟨v5,rfl,hs5,c5⟩
 clear hby
 obtain⟨ao5,cap5,rfl,-⟩:=hs5.shape
 have heq:=equal_any w5 _ _ _ _ _ _ hs5 (HW.out.2.chg0 c5)
 have HV5:=zH c5
 clear hs5 c5
 by_cases hE:tileB s px=1::t
 ·rw[decide_eq_true hE] at heq
  have HE:=zH hE
  clear hE
  go_wp2_with fail
  refine heq.mono ?_
  rintro e w6 ⟨rfl,rfl⟩
  clear heq
  go_wp2_with fail
  go_ret
  refine⟨_,rfl,?_,HW.out.1.nil HV5.out⟩
  have e:P=some (.tile s px):=by rw[←HP.out,parse_of HR.out];exact if_pos HE.out
  rw[e]
  exact HO.out _ HV5.out
 ·rw[decide_eq_false hE] at heq
  have HE:=zH hE
  clear hE
  go_wp2_with fail
  refine heq.mono ?_
  rintro e w6 ⟨rfl,rfl⟩
  clear heq
  go_wp2_with fail
  go_ret
  refine⟨_,rfl,?_,HW.out.1.nil HV5.out⟩
  have e:P=none:=by rw[←HP.out,parse_of HR.out];exact if_neg HE.out
  rw[e]
  rfl
set_option maxRecDepth 100000 in
theorem parse_tree (w:World) (v:Value) (t:List UInt8) (n:Nat) (hn:(2::t).length=n) (hv:Sees w 1 v n (Bs (2::t))) (hb:n≤1000000):
  Calls Tryz.prog 112 #[v] w fun e w'=>∃x,e=.returned x∧ParsedO w' (parseO (2::t)) x∧Chg [] w w':=by
 obtain⟨ao,cap,rfl,-⟩:=hv.shape
 obtain⟨K,hK⟩:∃K,w.heap.size=K:=⟨_,rfl⟩
 have hlt:∀k∈eyes (Value.slice ao n cap),k<K:=fun k hk=>by rw[←hK];exact hv.lt (by decide) k hk
 have hc0:Chg [] w (w.alloc (.cells #[.slice ao n cap,.bool false] 268)):=(Chg.refl [] w).alloc _
 have hb0:Blk (w.alloc (.cells #[.slice ao n cap,.bool false] 268)) K #[.slice ao n cap,.bool false] 268:=Blk.new_at w _ _ hK
 have hr0:RdO (w.alloc (.cells #[.slice ao n cap,.bool false] 268)) K K ⟨2::t,false⟩:=⟨_,hb0,by rw[hn];exact hv.chg0 hc0,fun h=>by have:=hlt K h;omega,hlt⟩
 have hnum:=onumber_ok _ K K ⟨2::t,false⟩ 1 (by decide) (by decide) hr0 (by simp only;rw[hn];omega)
 rw[num1_cons] at hnum
 have hK1:K≤(w.alloc (.cells #[.slice ao n cap,.bool false] 268)).heap.size:=Nat.le_of_lt hb0.lt
 have HC0:=zE hc0 hn hb hK1 hK hv
 obtain⟨P,hP⟩:∃P,parseO (2::t)=P:=⟨_,rfl⟩
 rw[hP]
 have HP:=zH hP
 clear hn hv hb hlt hc0 hb0 hr0 hP hK1
 go_enter Tryz.func112,Tryz.ntmps112
 go_wp2_with fail
 generalize w.alloc (.cells #[.slice ao n cap,.bool false] 268)=w0 at *
 refine hnum.mono ?_
 rintro e w1 ⟨rfl,hr1,c1⟩
 clear hnum
 have htl:t.length≤1000000:=by have h1:=HC0.out.2.1;have h2:=HC0.out.2.2.1;rw[List.length_cons] at h1;omega
 have ct1:Chg [] w w1:=HC0.out.1.trans c1 (fun k hk=>by simp at hk;right;have:=HC0.out.2.2.2.2.1;omega)
 have hK1:Hid (K≤w1.heap.size):=Nat.le_trans HC0.out.2.2.2.1 c1.size
 have k1:((2:UInt8).toNat:Int)=2:=rfl
 have hSb:=HC0.out.2.2.2.2.2.chg0 ct1
 have HT:=zB ct1 htl hSb
 clear c1 ct1 htl hSb
 have hot:=otree_ok w1 K K hK1.out ⟨t,false⟩ hr1 (by have:=HT.out.2.1;simp only;omega)
 clear hr1
 obtain⟨T,hT⟩:∃T,(treeR ⟨t,false⟩).1=T:=⟨_,rfl⟩
 have hkl:=keys_le t
 rw[hT] at hot hkl
 have HR:Hid (readO (2::t)=some (.tree T)):=by show _=_;rw[←hT];rfl
 have hks:=keys_short t
 rw[hT] at hks
 clear hT
 obtain⟨ts,tk⟩:=T
 simp only at hot hkl hks
 have mt:=method_tree
 unfold treeV at hot
 go_wp2_with fail
 refine hot.mono ?_
 rintro e w2 ⟨v2,rfl,ho2,-,c2⟩
 clear hot
 have hs2:=ho2.own.sees
 obtain⟨ao2,cap2,rfl,-⟩:=hs2.shape
 have hHW:Chg [] w w2:=HT.out.1.trans c2 (fun k hk=>by simp at hk;right;have:=HC0.out.2.2.2.2.1;omega)
 have hSW:=HC0.out.2.2.2.2.2.chg0 hHW
 have hby:=tbytes_ok w2 ⟨ts,tk⟩ _ _ rfl hs2 (by omega) hks
 have HW:=zA hHW hSW
 have HO:Hid (∀w',Chg [] w2 w'→ObjR w' (.tree ⟨ts,tk⟩) (.iface 271 (treeV ⟨ts,tk⟩ (.slice ao2 tk.length cap2)))):=fun w' c=>⟨_,rfl,hs2.chg0 c⟩
 unfold treeV at hby HO
 simp only at hby HO
 clear hs2 ho2 c2 hHW hSW hkl hks
 go_wp2_with fail
 refine hby.mono ?_
 rintro e w5 ⟨v5,rfl,hs5,c5⟩
 clear hby
 obtain⟨ao5,cap5,rfl,-⟩:=hs5.shape
 have heq:=equal_any w5 _ _ _ _ _ _ hs5 (HW.out.2.chg0 c5)
 have HV5:=zH c5
 clear hs5 c5
 by_cases hE:treeB ⟨ts,tk⟩=2::t
 ·rw[decide_eq_true hE] at heq
  have HE:=zH hE
  clear hE
  go_wp2_with fail
  refine heq.mono ?_
  rintro e w6 ⟨rfl,rfl⟩
  clear heq
  go_wp2_with fail
  go_ret
  refine⟨_,rfl,?_,HW.out.1.nil HV5.out⟩
  have e:P=some (.tree ⟨ts,tk⟩):=by rw[←HP.out,parse_of HR.out];exact if_pos HE.out
  rw[e]
  exact HO.out _ HV5.out
 ·rw[decide_eq_false hE] at heq
  have HE:=zH hE
  clear hE
  go_wp2_with fail
  refine heq.mono ?_
  rintro e w6 ⟨rfl,rfl⟩
  clear heq
  go_wp2_with fail
  go_ret
  refine⟨_,rfl,?_,HW.out.1.nil HV5.out⟩
  have e:P=none:=by rw[←HP.out,parse_of HR.out];exact if_neg HE.out
  rw[e]
  rfl
set_option maxRecDepth 100000 in
theorem parse_comm (w:World) (hT:Tabs w) (v:Value) (t:List UInt8) (n:Nat) (hn:(3::t).length=n) (hv:Sees w 1 v n (Bs (3::t))) (hb:n≤1000000):
  Calls Tryz.prog 112 #[v] w fun e w'=>∃x,e=.returned x∧ParsedO w' (parseO (3::t)) x∧Chg [] w w':=by
 have HTb:=zH hT
 clear hT
 obtain⟨ao,cap,rfl,-⟩:=hv.shape
 obtain⟨K,hK⟩:∃K,w.heap.size=K:=⟨_,rfl⟩
 have hlt:∀k∈eyes (Value.slice ao n cap),k<K:=fun k hk=>by rw[←hK];exact hv.lt (by decide) k hk
 have hc0:Chg [] w (w.alloc (.cells #[.slice ao n cap,.bool false] 268)):=(Chg.refl [] w).alloc _
 have hb0:Blk (w.alloc (.cells #[.slice ao n cap,.bool false] 268)) K #[.slice ao n cap,.bool false] 268:=Blk.new_at w _ _ hK
 have hr0:RdO (w.alloc (.cells #[.slice ao n cap,.bool false] 268)) K K ⟨3::t,false⟩:=⟨_,hb0,by rw[hn];exact hv.chg0 hc0,fun h=>by have:=hlt K h;omega,hlt⟩
 have hnum:=onumber_ok _ K K ⟨3::t,false⟩ 1 (by decide) (by decide) hr0 (by simp only;rw[hn];omega)
 rw[num1_cons] at hnum
 have hK1:K≤(w.alloc (.cells #[.slice ao n cap,.bool false] 268)).heap.size:=Nat.le_of_lt hb0.lt
 have HC0:=zE hc0 hn hb hK1 hK hv
 obtain⟨P,hP⟩:∃P,parseO (3::t)=P:=⟨_,rfl⟩
 rw[hP]
 have HP:=zH hP
 clear hn hv hb hlt hc0 hb0 hr0 hP hK1
 go_enter Tryz.func112,Tryz.ntmps112
 go_wp2_with fail
 generalize w.alloc (.cells #[.slice ao n cap,.bool false] 268)=w0 at *
 refine hnum.mono ?_
 rintro e w1 ⟨rfl,hr1,c1⟩
 clear hnum
 have htl:t.length≤1000000:=by have h1:=HC0.out.2.1;have h2:=HC0.out.2.2.1;rw[List.length_cons] at h1;omega
 have ct1:Chg [] w w1:=HC0.out.1.trans c1 (fun k hk=>by simp at hk;right;have:=HC0.out.2.2.2.2.1;omega)
 have hK1:Hid (K≤w1.heap.size):=Nat.le_trans HC0.out.2.2.2.1 c1.size
 have k1:((3:UInt8).toNat:Int)=3:=rfl
 have hSb:=HC0.out.2.2.2.2.2.chg0 ct1
 have HT:=zB ct1 htl hSb
 clear c1 ct1 htl hSb
 have hot:=ocomm_ok w1 K K hK1.out ⟨t,false⟩ hr1 (by have:=HT.out.2.1;simp only;omega)
 clear hr1
 obtain⟨T,hT⟩:∃T,(commR ⟨t,false⟩).1=T:=⟨_,rfl⟩
 have hkl:=pars_le t
 have hsh:=commR_short ⟨t,false⟩
 have hks:=pars_short t
 have htr:=tree_short t
 rw[hT] at hot hkl hks hsh htr
 have HR:Hid (readO (3::t)=some (.comm T)):=by show _=_;rw[←hT];rfl
 clear hT
 obtain⟨tt,tp,ts,ta,tx⟩:=T
 simp only at hot hkl hks hsh htr
 have mt:=method_comm
 unfold commV at hot
 go_wp2_with fail
 refine hot.mono ?_
 rintro e w2 ⟨v2,rfl,ho2,-,c2⟩
 clear hot
 have hs2:=ho2.own.sees
 obtain⟨ao2,cap2,rfl,-⟩:=hs2.shape
 have hHW:Chg [] w w2:=HT.out.1.trans c2 (fun k hk=>by simp at hk;right;have:=HC0.out.2.2.2.2.1;omega)
 have hSW:=HC0.out.2.2.2.2.2.chg0 hHW
 have hby:=cbytes_ok w2 (HTb.out.chg hHW) ⟨tt,tp,ts,ta,tx⟩ _ _ rfl hs2 (by omega) hks htr hsh.1 hsh.2
 have HW:=zA hHW hSW
 have HO:Hid (∀w',Chg [] w2 w'→ObjR w' (.comm ⟨tt,tp,ts,ta,tx⟩) (.iface 273 (commV ⟨tt,tp,ts,ta,tx⟩ (.slice ao2 tp.length cap2)))):=fun w' c=>⟨_,rfl,hs2.chg0 c⟩
 unfold commV at hby HO
 simp only at hby HO
 clear hs2 ho2 c2 hHW hSW hkl hks hsh htr
 go_wp2_with fail
 refine hby.mono ?_
 rintro e w5 ⟨v5,rfl,hs5,c5⟩
 clear hby
 obtain⟨ao5,cap5,rfl,-⟩:=hs5.shape
 have heq:=equal_any w5 _ _ _ _ _ _ hs5 (HW.out.2.chg0 c5)
 have HV5:=zH c5
 clear hs5 c5
 by_cases hE:commB ⟨tt,tp,ts,ta,tx⟩=3::t
 ·rw[decide_eq_true hE] at heq
  have HE:=zH hE
  clear hE
  go_wp2_with fail
  refine heq.mono ?_
  rintro e w6 ⟨rfl,rfl⟩
  clear heq
  go_wp2_with fail
  go_ret
  refine⟨_,rfl,?_,HW.out.1.nil HV5.out⟩
  have e:P=some (.comm ⟨tt,tp,ts,ta,tx⟩):=by rw[←HP.out,parse_of HR.out];exact if_pos HE.out
  rw[e]
  exact HO.out _ HV5.out
 ·rw[decide_eq_false hE] at heq
  have HE:=zH hE
  clear hE
  go_wp2_with fail
  refine heq.mono ?_
  rintro e w6 ⟨rfl,rfl⟩
  clear heq
  go_wp2_with fail
  go_ret
  refine⟨_,rfl,?_,HW.out.1.nil HV5.out⟩
  have e:P=none:=by rw[←HP.out,parse_of HR.out];exact if_neg HE.out
  rw[e]
  rfl
set_option maxRecDepth 100000 in
theorem parse_other (w:World) (v:Value) (b:List UInt8) (n:Nat) (hn:b.length=n) (hv:Sees w 1 v n (Bs b)) (hb:n≤1000000) (k:Nat) (hk:(numR 1 ⟨b,false⟩).1=k) (k1:k≠1) (k2:k≠2) (k3:k≠3):
  Calls Tryz.prog 112 #[v] w fun e w'=>e=.returned .nilIface∧Chg [] w w':=by
 obtain⟨ao,cap,rfl,-⟩:=hv.shape
 obtain⟨K,hK⟩:∃K,w.heap.size=K:=⟨_,rfl⟩
 have hlt:∀k∈eyes (Value.slice ao n cap),k<K:=fun k hk=>by rw[←hK];exact hv.lt (by decide) k hk
 have hc0:Chg [] w (w.alloc (.cells #[.slice ao n cap,.bool false] 268)):=(Chg.refl [] w).alloc _
 have hb0:Blk (w.alloc (.cells #[.slice ao n cap,.bool false] 268)) K #[.slice ao n cap,.bool false] 268:=Blk.new_at w _ _ hK
 have hr0:RdO (w.alloc (.cells #[.slice ao n cap,.bool false] 268)) K K ⟨b,false⟩:=⟨_,hb0,by rw[hn];exact hv.chg0 hc0,fun h=>by have:=hlt K h;omega,hlt⟩
 have hnum:=onumber_ok _ K K ⟨b,false⟩ 1 (by decide) (by decide) hr0 (by simp only;rw[hn];omega)
 rw[hk] at hnum
 have d1:((k:Int)==1)=false:=by simp;omega
 have d2:((k:Int)==2)=false:=by simp;omega
 have d3:((k:Int)==3)=false:=by simp;omega
 have HC0:=zA hc0 hK
 clear hn hv hb hlt hc0 hb0 hr0 hk k1 k2 k3
 go_enter Tryz.func112,Tryz.ntmps112
 go_wp2_with fail
 generalize w.alloc (.cells #[.slice ao n cap,.bool false] 268)=w0 at *
 refine hnum.mono ?_
 rintro e w1 ⟨rfl,-,c1⟩
 clear hnum
 have HT:=zH (HC0.out.1.trans c1 (fun k hk=>by simp at hk;right;have:=HC0.out.2;omega))
 clear c1
 go_wp2_with fail
 go_ret
 exact⟨rfl,HT.out⟩
theorem oparse_ok (w:World) (hT:Tabs w) (v:Value) (b:List UInt8) (hv:Sees w 1 v b.length (Bs b)) (hb:b.length≤1000000):
  Calls Tryz.prog 112 #[v] w fun e w'=>∃x,e=.returned x∧ParsedO w' (parseO b) x∧Chg [] w w':=by
 have other:∀k,(numR 1 ⟨b,false⟩).1=k→k≠1→k≠2→k≠3→readO b=none→Calls Tryz.prog 112 #[v] w fun e w'=>∃x,e=.returned x∧ParsedO w' (parseO b) x∧Chg [] w w':=by
  intro k hk k1 k2 k3 hr
  refine (parse_other w v b _ rfl hv hb k hk k1 k2 k3).mono ?_
  rintro e w' ⟨rfl,c⟩
  refine⟨_,rfl,?_,c⟩
  have e:parseO b=none:=by unfold parseO;rw[hr];rfl
  rw[e]
  rfl
 match b,hv,hb,other with
 | [],hv,hb,other=>exact other 0 rfl (by decide) (by decide) (by decide) rfl
 | k::t,hv,hb,other=>
  by_cases h1:k=1
  ·subst h1;exact parse_tile w v t _ rfl hv hb
  ·by_cases h2:k=2
   ·subst h2;exact parse_tree w v t _ rfl hv hb
   ·by_cases h3:k=3
    ·subst h3;exact parse_comm w hT v t _ rfl hv hb
    ·have ne:∀m:Nat,m<256→k≠UInt8.ofNat m→k.toNat≠m:=fun m hm hk e=>hk (by rw[←e,UInt8.ofNat_toNat])
     refine other k.toNat (by rw[num1_cons]) (ne 1 (by decide) h1) (ne 2 (by decide) h2) (ne 3 (by decide) h3) ?_
     unfold readO
     simp[h1,h2,h3]
theorem kmethod_tile (f:Nat) (w:World) (a b c d e:Value):(method (f+1) 270 (.agg #[a,b,c,d,e]) "Kind").run Tryz.prog w=.ok (367,.agg #[a,b,c,d,e]) w:=by kernel_rfl
theorem kmethod_tree (f:Nat) (w:World) (a b c d e:Value):(method (f+1) 271 (.agg #[a,b,c,d,e]) "Kind").run Tryz.prog w=.ok (373,.agg #[a,b,c,d,e]) w:=by kernel_rfl
theorem kmethod_comm (f:Nat) (w:World) (a b c d e:Value):(method (f+1) 273 (.agg #[a,b,c,d,e]) "Kind").run Tryz.prog w=.ok (383,.agg #[a,b,c,d,e]) w:=by kernel_rfl
theorem tkind_ok (w:World) (a b c d e:Value):Calls Tryz.prog 367 #[.agg #[a,b,c,d,e]] w fun x w'=>x=.returned (.int .i64 1)∧Chg [] w w':=by
 have HC:=zH ((Chg.refl [] w).alloc (.cells #[a,b,c,d,e] 270))
 go_enter Tryz.func367,Tryz.ntmps367
 go_wp2_with fail
 go_ret
 exact⟨rfl,by first | exact HC.out | exact Chg.refl _ _⟩
theorem rkind_ok (w:World) (a b c d e:Value):Calls Tryz.prog 373 #[.agg #[a,b,c,d,e]] w fun x w'=>x=.returned (.int .i64 2)∧Chg [] w w':=by
 have HC:=zH ((Chg.refl [] w).alloc (.cells #[a,b,c,d,e] 271))
 go_enter Tryz.func373,Tryz.ntmps373
 go_wp2_with fail
 go_ret
 exact⟨rfl,by first | exact HC.out | exact Chg.refl _ _⟩
theorem ckind_ok (w:World) (a b c d e:Value):Calls Tryz.prog 383 #[.agg #[a,b,c,d,e]] w fun x w'=>x=.returned (.int .i64 3)∧Chg [] w w':=by
 have HC:=zH ((Chg.refl [] w).alloc (.cells #[a,b,c,d,e] 273))
 go_enter Tryz.func383,Tryz.ntmps383
 go_wp2_with fail
 go_ret
 exact⟨rfl,by first | exact HC.out | exact Chg.refl _ _⟩
def kindP:Option ObjD→Nat
 | some o=>o.kind
 | none=>0
theorem kindO_P (b:List UInt8):kindO b=kindP (parseO b):=by unfold kindO kindP;cases parseO b <;> rfl
theorem okind_ok (w:World) (hT:Tabs w) (v:Value) (b:List UInt8) (hv:Sees w 1 v b.length (Bs b)) (hb:b.length≤1000000):
  Calls Tryz.prog 48 #[v] w fun e w'=>e=.returned (.tuple #[.int .i64 (kindO b:Nat),.int .i64 (if kindO b=0 then 4 else 0)])∧Chg [] w w':=by
 have hp:=oparse_ok w hT v b hv hb
 obtain⟨ao,cap,rfl,-⟩:=hv.shape
 obtain⟨P,hP⟩:∃P,parseO b=P:=⟨_,rfl⟩
 have eK:kindO b=kindP P:=by rw[kindO_P,hP]
 rw[eK]
 rw[hP] at hp
 clear hT hv hb hP eK
 go_enter Tryz.func48,Tryz.ntmps48
 go_wp2_with fail
 refine hp.mono ?_
 rintro e w1 ⟨x,rfl,hx,c1⟩
 clear hp
 have HC:=zH c1
 clear c1
 cases P with
 | none=>
  have hx2:x=.nilIface:=hx
  clear hx
  subst hx2
  go_wp2_with fail
  go_ret2
  exact⟨rfl,HC.out⟩
 | some o=>
  cases o with
  | tile s px=>
   obtain⟨pv,rfl,-⟩:=hx
   have mt:=kmethod_tile
   have hk:=tkind_ok w1 (.int .i64 s.w) (.int .i64 s.h) (.int .i64 s.c) (.int .i64 s.d) pv
   unfold rasV
   go_wp2_with fail
   refine hk.mono ?_
   rintro e w2 ⟨rfl,c2⟩
   clear hk
   have HC2:=zH c2
   clear c2
   go_wp2_with fail
   go_ret2
   exact⟨rfl,HC.out.nil HC2.out⟩
  | tree t=>
   obtain⟨pv,rfl,-⟩:=hx
   have mt:=kmethod_tree
   have hk:=rkind_ok w1 (.int .i64 t.shp.w) (.int .i64 t.shp.h) (.int .i64 t.shp.c) (.int .i64 t.shp.d) pv
   unfold treeV
   go_wp2_with fail
   refine hk.mono ?_
   rintro e w2 ⟨rfl,c2⟩
   clear hk
   have HC2:=zH c2
   clear c2
   go_wp2_with fail
   go_ret2
   exact⟨rfl,HC.out.nil HC2.out⟩
  | comm c=>
   obtain⟨pv,rfl,-⟩:=hx
   have mt:=kmethod_comm
   have hk:=ckind_ok w1 (.string (str c.tree)) pv (.int .i64 c.stamp) (.string (str c.author)) (.string (str c.text))
   unfold commV
   go_wp2_with fail
   refine hk.mono ?_
   rintro e w2 ⟨rfl,c2⟩
   clear hk
   have HC2:=zH c2
   clear c2
   go_wp2_with fail
   go_ret2
   exact⟨rfl,HC.out.nil HC2.out⟩
end Go.Proofs.YtlidiclfpklliaaGreatDoor
