/- FyK FyD Map Arr -/
import Derived.Test.YtlbdklaggalgfaaGreatDoorG01
import Derived.Maps.Ext
import Derived.Maps.OwnSet
import Derived.Maps.RangeWalk
import Derived.Sort.KeysCollected
import Derived.Maps.Own
import Derived.Maps.OwnOps
import Derived.Laws.Rows
set_option linter.unusedSimpArgs false
set_option linter.unusedVariables false
namespace Go.Aq.Fy
section
open Go.Aq Go.RowKit
abbrev Nm:=List UInt8
section
variable {α β:Type}
def lookK (s:Nm):List (Nm×α)→Option α
 | []=>none
 | (k,v)::l=>if k=s then some v else lookK s l
def insK (s:Nm) (v:α):List (Nm×α)→List (Nm×α)
 | []=>[(s,v)]
 | (k,x)::l=>if k=s then (s,v)::l else if s<k then (s,v)::(k,x)::l else (k,x)::insK s v l
def delK (s:Nm) (l:List (Nm×α)):List (Nm×α):=l.filter fun p=>!decide (p.1=s)
def Asc (l:List (Nm×α)):Prop:=l.Pairwise fun p q=>p.1<q.1
theorem nlt_of {a b:Nm} (h1:a≠b) (h2:¬b<a):a<b:=by
 rcases List.le_iff_lt_or_eq.1 (List.not_lt.1 h2) with h | h
 ·exact h
 ·exact absurd h h1
theorem asc_nil:Asc ([]:List (Nm×α)):=List.Pairwise.nil
theorem mem_ins {s:Nm} {v:α}:∀{l:List (Nm×α)} {p:Nm×α},p∈insK s v l→p=(s,v)∨p∈l
 | [],p,h=>by simp only[insK,List.mem_singleton] at h;exact .inl h
 | (k,x)::l,p,h=>by
  unfold insK at h;split at h
  ·rcases List.mem_cons.1 h with h | h
   ·exact .inl h
   ·exact .inr (.tail _ h)
  ·split at h
   ·rcases List.mem_cons.1 h with h | h
    ·exact .inl h
    ·exact .inr h
   ·rcases List.mem_cons.1 h with h | h
    ·exact .inr (by rw[h];exact .head _)
    ·rcases mem_ins h with h | h
     ·exact .inl h
     ·exact .inr (.tail _ h)
theorem asc_ins (s:Nm) (v:α):∀{l:List (Nm×α)},Asc l→Asc (insK s v l)
 | [],_=>List.pairwise_singleton _ _
 | (k,x)::l,h=>by
  obtain⟨h1,h2⟩:=List.pairwise_cons.1 h;unfold insK;split;·rename_i e;subst e;exact List.pairwise_cons.2 ⟨h1,h2⟩
  ·split
   ·rename_i hlt;refine List.pairwise_cons.2 ⟨fun p hp=>?_,h⟩;rcases List.mem_cons.1 hp with rfl | hp
    ·exact hlt
    ·exact List.lt_trans hlt (h1 p hp)
   ·rename_i hne hlt;refine List.pairwise_cons.2 ⟨fun p hp=>?_,asc_ins s v h2⟩;rcases mem_ins hp with rfl | hp
    ·exact nlt_of hne hlt
    ·exact h1 p hp
theorem asc_del (s:Nm) {l:List (Nm×α)} (h:Asc l):Asc (delK s l):=h.filter _
theorem look_mem {s:Nm} {v:α}:∀{l:List (Nm×α)},lookK s l=some v→(s,v)∈l
 | [],h=>by cases h
 | (k,x)::l,h=>by
  unfold lookK at h;split at h;·rename_i e;subst e;cases h;exact .head _
  ·exact .tail _ (look_mem h)
theorem look_of_mem {s:Nm} {v:α}:∀{l:List (Nm×α)},Asc l→(s,v)∈l→lookK s l=some v
 | [],_,h=>by cases h
 | (k,x)::l,ha,h=>by
  obtain⟨h1,h2⟩:=List.pairwise_cons.1 ha;unfold lookK;rcases List.mem_cons.1 h with e | h
  ·cases e;rw[if_pos rfl]
  ·rw[if_neg (fun e=>?_),look_of_mem h2 h];have:=h1 _ h;simp only[e] at this;exact List.lt_irrefl _ this
theorem look_none {s:Nm}:∀{l:List (Nm×α)},lookK s l=none↔∀p∈l,p.1≠s
 | []=>by simp[lookK]
 | (k,x)::l=>by
  unfold lookK;split;·rename_i e;simp[e]
  ·rename_i e;rw[look_none];simp[e]
theorem look_ins_same (s:Nm) (v:α):∀l:List (Nm×α),lookK s (insK s v l)=some v
 | []=>by simp[insK,lookK]
 | (k,x)::l=>by
  unfold insK;split;·simp[lookK]
  ·split;·simp[lookK]
   ·rename_i h1 _;simp[lookK,h1,look_ins_same s v l]
theorem look_ins_ne {s s':Nm} (h:s'≠s) (v:α):∀l:List (Nm×α),lookK s' (insK s v l)=lookK s' l
 | []=>by simp[insK,lookK,Ne.symm h]
 | (k,x)::l=>by
  unfold insK;split;·rename_i e;subst e;simp[lookK,Ne.symm h]
  ·split;·simp[lookK,Ne.symm h]
   ·simp[lookK,look_ins_ne h v l]
theorem look_del_same (s:Nm) (l:List (Nm×α)):lookK s (delK s l)=none:=by
 rw[look_none];intro p hp;simpa[delK] using (List.mem_filter.1 hp).2
theorem look_del_ne {s s':Nm} (h:s'≠s):∀l:List (Nm×α),lookK s' (delK s l)=lookK s' l
 | []=>rfl
 | (k,x)::l=>by
  have ih:=look_del_ne h l;unfold delK at *;by_cases hk:k=s
  ·subst hk;rw[List.filter_cons_of_neg (by simp)];simp[lookK,Ne.symm h,ih]
  ·rw[List.filter_cons_of_pos (by simp[hk])];simp[lookK,ih]
theorem asc_ext:∀{l m:List (Nm×α)},Asc l→Asc m→(∀s,lookK s l=lookK s m)→l=m:=by
 intro l m hl hm h;refine List.Perm.eq_of_pairwise (le:=fun p q:Nm×α=>p.1<q.1) (fun a b _ _ h1 h2=>absurd (List.lt_trans h1 h2) (List.lt_irrefl _)) hl hm ?_;refine (List.perm_ext_iff_of_nodup (hl.imp fun {a b} hab e=>by rw[e] at hab;exact List.lt_irrefl _ hab) (hm.imp fun {a b} hab e=>by rw[e] at hab;exact List.lt_irrefl _ hab)).2 fun p=>?_
 obtain⟨s,v⟩:=p;exact⟨fun hp=>look_mem (by rw[←h];exact look_of_mem hl hp),fun hp=>look_mem (by rw[h];exact look_of_mem hm hp)⟩
theorem ins_length_new (s:Nm) (v:α):∀{l:List (Nm×α)},lookK s l=none→(insK s v l).length=l.length+1
 | [],_=>rfl
 | (k,x)::l,h=>by
  unfold lookK at h;split at h;·cases h
  ·rename_i hk;unfold insK;rw[if_neg hk];split;·rfl
   ·simp[ins_length_new s v h]
theorem ins_length_old (s:Nm) (v:α):∀{l:List (Nm×α)},Asc l→lookK s l≠none→(insK s v l).length=l.length
 | [],_,h=>absurd rfl h
 | (k,x)::l,ha,h=>by
  obtain⟨h1,h2⟩:=List.pairwise_cons.1 ha;unfold lookK at h;unfold insK;split;·rfl
  ·rename_i hk;rw[if_neg hk] at h;split
   ·rename_i hlt;exfalso;cases hv:lookK s l with
    | none=>exact h hv
    | some v'=>exact List.lt_irrefl _ (List.lt_trans hlt (h1 _ (look_mem hv)))
   ·simp[ins_length_old s v h2 h]
theorem ins_length_le (s:Nm) (v:α) (l:List (Nm×α)):(insK s v l).length≤l.length+1:=by
 induction l with
 | nil=>simp[insK]
 | cons p l ih=>
  obtain⟨k,x⟩:=p;unfold insK;split;·simp
  ·split;·simp
   ·simp;omega
theorem del_length_le (s:Nm) (l:List (Nm×α)):(delK s l).length≤l.length:=List.length_filter_le _ _
theorem mem_del {s:Nm} {l:List (Nm×α)} {p:Nm×α} (h:p∈delK s l):p∈l∧p.1≠s:=by
 obtain⟨h1,h2⟩:=List.mem_filter.1 h;exact⟨h1,by simpa using h2⟩
def Two (R:Nm→α→β→Prop):List (Nm×α)→List (Nm×β)→Prop
 | [],[]=>True
 | (k,x)::l,(k',y)::m=>k=k'∧R k x y∧Two R l m
 | _,_=>False
theorem Two.nil {R:Nm→α→β→Prop}:Two R [] []:=trivial
theorem Two.keys {R:Nm→α→β→Prop}:∀{l:List (Nm×α)} {m:List (Nm×β)},Two R l m→l.map (·.1)=m.map (·.1)
 | [],[],_=>rfl
 | [],_::_,h=>h.elim
 | _::_,[],h=>h.elim
 | (k,x)::l,(k',y)::m,h=>by
  obtain⟨rfl,_,h⟩:=h;simp[h.keys]
theorem Two.len {R:Nm→α→β→Prop} {l:List (Nm×α)} {m:List (Nm×β)} (h:Two R l m):l.length=m.length:=by
 have:=congrArg List.length h.keys;simpa using this
theorem Two.imp {R R':Nm→α→β→Prop} (hR:∀k x y,R k x y→R' k x y):∀{l:List (Nm×α)} {m:List (Nm×β)},Two R l m→Two R' l m
 | [],[],_=>trivial
 | [],_::_,h=>h.elim
 | _::_,[],h=>h.elim
 | (k,x)::l,(k',y)::m,h=>⟨h.1,hR _ _ _ h.2.1,h.2.2.imp hR⟩
theorem Two.ins {R:Nm→α→β→Prop} {s:Nm} {v:α} {v':β} (hv:R s v v'):∀{l:List (Nm×α)} {m:List (Nm×β)},Two R l m→Two R (insK s v l) (insK s v' m)
 | [],[],_=>⟨rfl,hv,trivial⟩
 | [],_::_,h=>h.elim
 | _::_,[],h=>h.elim
 | (k,x)::l,(k',y)::m,h=>by
  obtain⟨rfl,h1,h2⟩:=h;unfold insK;by_cases e1:k=s;·simp only[e1,if_true];exact⟨rfl,hv,h2⟩
  ·simp only[e1,if_false];by_cases e2:s<k;·simp only[e2,if_true];exact⟨rfl,hv,rfl,h1,h2⟩
   ·simp only[e2,if_false];exact⟨rfl,h1,h2.ins hv⟩
theorem Two.del {R:Nm→α→β→Prop} (s:Nm):∀{l:List (Nm×α)} {m:List (Nm×β)},Two R l m→Two R (delK s l) (delK s m)
 | [],[],_=>trivial
 | [],_::_,h=>h.elim
 | _::_,[],h=>h.elim
 | (k,x)::l,(k',y)::m,h=>by
  obtain⟨rfl,h1,h2⟩:=h;have ih:=h2.del s;unfold delK at *;by_cases e:k=s;·rw[List.filter_cons_of_neg (by simp[e]),List.filter_cons_of_neg (by simp[e])];exact ih
  ·rw[List.filter_cons_of_pos (by simp[e]),List.filter_cons_of_pos (by simp[e])];exact⟨rfl,h1,ih⟩
theorem Two.look {R:Nm→α→β→Prop} (s:Nm):∀{l:List (Nm×α)} {m:List (Nm×β)},Two R l m→(lookK s l=none∧lookK s m=none)∨∃x y,lookK s l=some x∧lookK s m=some y∧R s x y
 | [],[],_=>.inl ⟨rfl,rfl⟩
 | [],_::_,h=>h.elim
 | _::_,[],h=>h.elim
 | (k,x)::l,(k',y)::m,h=>by
  obtain⟨rfl,h1,h2⟩:=h;unfold lookK;by_cases e:k=s;·subst e;simp only[if_true];exact .inr ⟨x,y,rfl,rfl,h1⟩
  ·simp only[e,if_false];exact h2.look s
theorem Two.asc {R:Nm→α→β→Prop} {l:List (Nm×α)} {m:List (Nm×β)} (h:Two R l m) (ha:Asc l):Asc m:=by
 have h1:(l.map (·.1)).Pairwise (·<·):=List.pairwise_map.2 ha;rw[h.keys] at h1;exact List.pairwise_map.1 h1
end
def heldR (v:Value):Option (DataW Value×List MemPlace):=some (.held v,[])
def datS (l:List (Nm×Value)):DataW Value:=.map (l.map fun p=>(Lit.string p.1,.held p.2))
theorem before_iff:∀a b:Nm,bytesBefore a b=true↔a<b
 | [],[]=>by simp[bytesBefore]
 | [],_::_=>by simp[bytesBefore]
 | _::_,[]=>by simp[bytesBefore]
 | a::r,b::s=>by
  unfold bytesBefore;rw[List.cons_lt_cons_iff];simp[before_iff r s]
theorem str_key (s:Nm):WideAt.IsKeyLit (.string s):=by simp[WideAt.IsKeyLit]
theorem canonS {l:List (Nm×Value)} (h:Asc l):Maps.Canon (datS l):=
 ⟨_,rfl,List.pairwise_map.2 (h.imp fun {p q} hpq=>(before_iff _ _).2 hpq),fun p hp=>by obtain⟨q,_,rfl⟩:=List.mem_map.1 hp;exact str_key _⟩
theorem sameKey_s (a b:Nm):(Lit.string a).sameKey (.string b)=decide (a=b):=Bool.eq_iff_iff.2 (by simp[Lit.sameKey])
theorem datS_look (l:List (Nm×Value)) (s:Nm) (z:DataW Value):(datS l).atKey (.string s) z=(match lookK s l with | some v=>.held v | none=>z)∧Maps.has (datS l) (.string s)=(lookK s l).isSome:=by
 induction l with
 | nil=>exact⟨rfl,rfl⟩
 | cons p l ih=>
  obtain⟨k,v⟩:=p;obtain⟨h1,h2⟩:=ih;unfold datS DataW.atKey at h1 ⊢;rw[Maps.has_eq];unfold datS at h2;rw[Maps.has_eq] at h2;simp only[List.map_cons,List.find?_cons,List.any_cons,sameKey_s,lookK];by_cases e:k=s;·simp[e]
  ·simp only[e,decide_false,Bool.false_or,if_false];exact⟨h1,h2⟩
theorem datS_other (l:List (Nm×Value)) (k:Lit) (hk:∀s,k≠.string s):Maps.has (datS l) k=false:=by
 unfold datS;rw[Maps.has_eq,List.any_eq_false];intro p hp;obtain⟨q,_,rfl⟩:=List.mem_map.1 hp;cases k <;> simp[Lit.sameKey];rename_i s;exact absurd rfl (hk s)
theorem datS_put {l:List (Nm×Value)} (h:Asc l) (s:Nm) (v:Value) (hc:Maps.Canon ((datS l).put (.string s) (.held v))):(datS l).put (.string s) (.held v)=datS (insK s v l):=by
 have hm:Maps.IsMap (datS l):=⟨_,rfl⟩;refine Maps.ext hc (canonS (asc_ins s v h)) (fun k=>?_) (fun k z hk=>?_)
 ·by_cases e:k=.string s;·subst e;rw[Maps.has_put_same hm (str_key s),(datS_look _ s .nil).2,look_ins_same];rfl
  ·rw[Maps.has_put_other e];by_cases e':∃t,k=.string t
   ·obtain⟨t,rfl⟩:=e';rw[(datS_look _ t .nil).2,(datS_look _ t .nil).2,look_ins_ne (fun e2=>e (by rw[e2]))]
   ·rw[datS_other _ _ (fun t e2=>e' ⟨t,e2⟩),datS_other _ _ (fun t e2=>e' ⟨t,e2⟩)]
 ·by_cases e:k=.string s;·subst e;rw[Maps.atKey_put_same hm (str_key s),(datS_look _ s z).1,look_ins_same]
  ·rw[Maps.atKey_put_other e];by_cases e':∃t,k=.string t
   ·obtain⟨t,rfl⟩:=e';rw[(datS_look _ t z).1,(datS_look _ t z).1,look_ins_ne (fun e2=>e (by rw[e2]))]
   ·rw[Maps.has_put_other e,datS_other _ _ (fun t e2=>e' ⟨t,e2⟩)] at hk;cases hk
theorem datS_del {l:List (Nm×Value)} (h:Asc l) (s:Nm) (hc:Maps.Canon ((datS l).del (.string s))):(datS l).del (.string s)=datS (delK s l):=by
 refine Maps.ext hc (canonS (asc_del s h)) (fun k=>?_) (fun k z hk=>?_)
 ·by_cases e:k=.string s;·subst e;rw[Maps.has_del_same,(datS_look _ s .nil).2,look_del_same];rfl
  ·rw[Maps.has_del_other e];by_cases e':∃t,k=.string t
   ·obtain⟨t,rfl⟩:=e';rw[(datS_look _ t .nil).2,(datS_look _ t .nil).2,look_del_ne (fun e2=>e (by rw[e2]))]
   ·rw[datS_other _ _ (fun t e2=>e' ⟨t,e2⟩),datS_other _ _ (fun t e2=>e' ⟨t,e2⟩)]
 ·by_cases e:k=.string s;·subst e;rw[Maps.has_del_same] at hk;cases hk
  ·rw[Maps.atKey_del_other e];by_cases e':∃t,k=.string t
   ·obtain⟨t,rfl⟩:=e';rw[(datS_look _ t z).1,(datS_look _ t z).1,look_del_ne (fun e2=>e (by rw[e2]))]
   ·rw[Maps.has_del_other e,datS_other _ _ (fun t e2=>e' ⟨t,e2⟩)] at hk;cases hk
theorem datS_size (l:List (Nm×Value)):Maps.size (datS l)=l.length:=by simp[datS,Maps.size_eq]
theorem datS_keys (l:List (Nm×Value)):strKeys (datS l)=l.map (·.1):=by simp[datS,strKeys,strOf]
theorem sorted_asc {α:Type} {l:List (Nm×α)} (h:Asc l) {ss:List Nm} (hp:ss.Perm (l.map (·.1))):ss.mergeSort (fun x y=>decide (x≤y))=l.map (·.1):=by
 have tr:∀a b c:Nm,decide (a≤b)=true→decide (b≤c)=true→decide (a≤c)=true:=fun a b c h1 h2=>by simp only[decide_eq_true_eq] at *;exact List.le_trans h1 h2
 have tot:∀a b:Nm,(decide (a≤b) || decide (b≤a))=true:=fun a b=>by simp only[Bool.or_eq_true,decide_eq_true_eq];exact List.le_total a b
 refine List.Perm.eq_of_pairwise (le:=fun a b=>decide (a≤b)=true) (fun a b _ _ h1 h2=>?_) (List.pairwise_mergeSort tr tot ss) ?_ ((List.mergeSort_perm ss _).trans hp);·simp only[decide_eq_true_eq] at h1 h2;exact List.le_antisymm h1 h2
 ·refine List.pairwise_map.2 (h.imp fun {p q} hpq=>?_);rw[decide_eq_true_eq];exact List.le_of_lt hpq
structure MapS (P:Program) (k:TypeId) (w:World) (b:Nat) (l:List (Nm×Value)):Prop where
 asc:Asc l
 short:∀p∈l,p.1.length≤1048576
 owns:w.ownsMap P k heldR b l.length (datS l)
section
variable {P:Program} {k:TypeId} {w w':World} {b:Nat} {l:List (Nm×Value)}
theorem own_chg {w w':World} {b n:Nat} {D:DataW Value} {S:List Nat} (h:w.ownsMap P k heldR b n D) (c:Chg S w w') (hb:b∉S):w'.ownsMap P k heldR b n D:=by
 have hlt:=h.lt;obtain⟨es,clock,h1,F,hs,hD⟩:=h;exact⟨es,clock,by rw[c.block b hlt hb];exact h1,F,hs,hD⟩
theorem own_size {n:Nat} {D:DataW Value} (h:w.ownsMap P k heldR b n D):w.ownsMap P k heldR b (Maps.size D) D:=by
 obtain⟨es,clock,h1,F,hs,rfl⟩:=h;exact⟨es,clock,h1,F,by rw[Maps.size_eq,length_read];exact Nat.le_refl _,rfl⟩
theorem MapS.lt (h:MapS P k w b l):b<w.heap.size:=h.owns.lt
theorem MapS.chg {S:List Nat} (h:MapS P k w b l) (c:Chg S w w') (hb:b∉S):MapS P k w' b l:=⟨h.asc,h.short,own_chg h.owns c hb⟩
theorem MapS.chg0 (h:MapS P k w b l) (c:Chg [] w w'):MapS P k w' b l:=h.chg c (by simp)
theorem MapS.made (P:Program) (k:TypeId) (w:World):MapS P k (w.alloc (.map #[] 0)) w.heap.size []:=⟨asc_nil,by simp,World.ownsMap_made _ _ _ _⟩
theorem chg_grown {w w':World} {b:Nat} (h:w.grownBy w' (some b)):Chg [b] w w':=Chg.of_grown h
variable (hk:P.underlying k=some .string)
include hk
theorem key_s (s:Nm) (hs:s.length≤1048576):keyOf P k (.string (str s))=some (.string s):=by
 have:=Go.WideMaps.keyOf_string_mk (P:=P) (s:=str s) hk (by rw[str_size];simp only[maxLen];omega);simpa[str] using this
theorem MapS.look (h:MapS P k w b l) {t e:TypeId} (ht:P.underlying t=some (.map k e)) {z:Value} (hz:(zeroValue e).run P w=.ok z w) (s:Nm) (hs:s.length≤1048576):
  (Instr.lookup t (.map (some b)) (.string (str s)) false).run P w=.ok ((lookK s l).getD z) w∧
  (Instr.lookup t (.map (some b)) (.string (str s)) true).run P w=.ok (.tuple #[(lookK s l).getD z,.bool (lookK s l).isSome]) w:=by
 have K:=Maps.string_keyed hk;have hl:=datS_look l s (.held z);have get:∀{v:Value},(match lookK s l with | some v=>DataW.held v | none=>.held z)=.held v→v=(lookK s l).getD z:=fun {v} hv=>by
  cases h2:lookK s l <;> rw[h2] at hv <;> (simp only[DataW.held.injEq] at hv;simp[hv])
 constructor
 ·obtain⟨v,ps,hr,hv⟩:=h.owns.lookup K ht hz (zd:=.held z) (zp:=[]) rfl (key_s hk s hs);rw[hl.1] at hv;simp only[heldR,Option.some.injEq,Prod.mk.injEq] at hv;rw[hr,←get hv.1.symm]
 ·obtain⟨v,ps,hr,hv⟩:=h.owns.look_ok K ht hz (zd:=.held z) (zp:=[]) rfl (key_s hk s hs);rw[hl.1] at hv;simp only[heldR,Option.some.injEq,Prod.mk.injEq] at hv;rw[hr,←get hv.1.symm,hl.2]
theorem MapS.put (h:MapS P k w b l) {t e:TypeId} (ht:P.underlying t=some (.map k e)) (hn:l.length≤1000000) (s:Nm) (hs:s.length≤1048576) (v:Value):
  ∃w',(Instr.mapUpdate t (.map (some b)) (.string (str s)) v).run P w=.ok () w'∧MapS P k w' b (insK s v l)∧Chg [b] w w':=by
 obtain⟨w',hr,ho,hg⟩:=h.owns.update (Maps.string_keyed hk) ht (by simp only[maxLen];omega) (key_s hk s hs) (show heldR v=some (.held v,[]) from rfl);have e:=datS_put h.asc s v (ho.canon (Maps.string_keyed hk));rw[e] at ho;have ho':=own_size ho;rw[datS_size] at ho';refine⟨w',hr,⟨asc_ins s v h.asc,fun p hp=>?_,ho'⟩,chg_grown hg⟩;rcases mem_ins hp with rfl | hp
 ·exact hs
 ·exact h.short p hp
theorem MapS.drop (h:MapS P k w b l) {t e:TypeId} (ht:P.underlying t=some (.map k e)) (s:Nm) (hs:s.length≤1048576) (ty:TypeId):
  ∃w',(Builtin.delete_ #[t,k] ty #[.map (some b),.string (str s)]).run P w=.ok (.tuple #[]) w'∧MapS P k w' b (delK s l)∧Chg [b] w w':=by
 obtain⟨w',hr,ho,hg⟩:=h.owns.drop (Maps.string_keyed hk) ht (key_s hk s hs) ty;have e:=datS_del h.asc s (ho.canon (Maps.string_keyed hk));rw[e] at ho;have ho':=own_size ho;rw[datS_size] at ho';exact⟨w',hr,⟨asc_del s h.asc,fun p hp=>h.short p (mem_del hp).1,ho'⟩,chg_grown hg.grown⟩
end
theorem MapS.len {P:Program} {k:TypeId} {w:World} {b:Nat} {l:List (Nm×Value)} (h:MapS P k w b l) {t e:TypeId} (ht:P.underlying t=some (.map k e)) (ty:TypeId):
  (Builtin.len_ #[t] ty #[.map (some b)]).run P w=.ok (.int .i64 l.length) w:=by
 have:=h.owns.len ht ty;rw[datS_size] at this;exact this
end
section
open Go.Aq Go.RowKit
abbrev Sec:=List UInt8
def nul (n:Nat):Sec:=List.replicate n 0
def zsec:Sec:=nul 256
def fill (b:Sec):Sec:=b++nul (256 - b.length)
def setS (f:Nat→Sec) (k:Nat) (b:Sec):Nat→Sec:=fun j=>if j=k then b else f j
abbrev Puts:=List (Nat×Sec)
def setAll (f:Nat→Sec) (l:Puts):Nat→Sec:=l.foldl (fun g p=>setS g p.1 p.2) f
structure DiskD where
 n:Nat
 now:Nat→Sec
 dur:Nat→Sec
 pend:Puts
 writes:Int
 falls:Nat
 mask:Sec
 down:Bool
def bitL (m:Sec) (i:Nat):Bool:=(m.getD (i / 8) 0).toNat.testBit (i % 8)
def crashS (m:Sec):Nat→(Nat→Sec)→Puts→(Nat→Sec)
 | _,f,[]=>f
 | i,f,(k,b)::l=>crashS m (i+1) (if bitL m i then setS f k b else f) l
def newD (n:Nat):DiskD:=⟨n,fun _=>zsec,fun _=>zsec,[],0,0,[],false⟩
def crashD (D:DiskD) (m:Sec):DiskD:=if D.down then D else { D with now:=crashS m 0 D.dur D.pend,dur:=crashS m 0 D.dur D.pend,pend:=[],down:=true }
def flushD (D:DiskD):DiskD×Nat:=if D.down then (D,12) else ({ D with dur:=setAll D.dur D.pend,pend:=[] },0)
def putD (D:DiskD) (k:Nat) (b:Sec):DiskD×Nat:=
 if D.falls=0 then ({ D with writes:=wrap64 (D.writes+1),pend:=D.pend++[(k,b)],now:=setS D.now k b },0)
 else if D.falls=1 then (crashD { D with writes:=wrap64 (D.writes+1),pend:=D.pend++[(k,b)],falls:=0 } D.mask,12)
 else ({ D with writes:=wrap64 (D.writes+1),pend:=D.pend++[(k,b)],falls:=D.falls - 1,now:=setS D.now k b },0)
def writeD (D:DiskD) (k:Nat) (b:Sec):DiskD×Nat:=
 if D.down then (D,12) else if D.n≤k then (D,1) else if b.length≠256 then (D,4) else putD D k b
def eachD:DiskD→Puts→DiskD×Nat
 | D,[]=>(D,0)
 | D,p::l=>if (writeD D p.1 p.2).2=0 then eachD (writeD D p.1 p.2).1 l else writeD D p.1 p.2
def writesD (D:DiskD) (l:Puts):DiskD×Nat:=if (eachD D l).2=0 then flushD (eachD D l).1 else eachD D l
def runP:DiskD→List Puts→DiskD×Nat
 | D,[]=>(D,0)
 | D,s::l=>if (writesD D s).2=0 then runP (writesD D s).1 l else writesD D s
structure LogD where
 ring:Nat
 seq:Nat
 pos:Nat
def headB (ring seq pos:Nat):Sec:=fill ([65,81]++beB ring 2++beB seq 6++beB pos 2)
def markB (seq pos n:Nat):Sec:=fill ([65,67]++beB seq 6++beB pos 2++beB n 2)
def need (n:Nat):Nat:=if n<1 then 0 else n+(n - 1) / 64+1
def homeL (L:LogD):Nat:=2+L.ring
def inL (L:LogD) (i:Nat):Nat:=2+(L.pos+i) % L.ring
def atHome (D:DiskD) (L:LogD) (k:Nat):Bool:=decide (homeL L≤k)&&decide (k<D.n)
def descs (l:Puts) (d:Nat):List Sec:=(List.range d).map fun i=>fill (((l.drop (64 * i)).take 64).flatMap fun p=>beB p.1 2)
def changeL (L:LogD) (l:Puts):Puts:=(descs l ((l.length+63) / 64)++l.map (·.2)).mapIdx fun i b=>(inL L i,b)
def nextL (L:LogD) (n:Nat):LogD:=⟨L.ring,L.seq+1,(L.pos+need n) % L.ring⟩
def headL (L:LogD):Puts:=[(0,headB L.ring L.seq L.pos)]
def commitP (L:LogD) (l:Puts):List Puts:=if l=[] then [] else [changeL L l,[(1,markB L.seq L.pos l.length)],l,headL (nextL L l.length)]
def markedN (D:DiskD) (L:LogD):Nat:=
 let n:=beVal (((D.now 1).drop 10).take 2)
 if D.now 1=markB L.seq L.pos n∧need n≤L.ring then n else 0
def readAt (D:DiskD) (L:LogD) (i:Nat):Nat:=beVal (((D.now (inL L (i / 64))).drop (i % 64 * 2)).take 2)
def readL (D:DiskD) (L:LogD) (n:Nat):Puts:=(List.range n).map fun i=>(readAt D L i,D.now (inL L (need n - n+i)))
def redoP (D:DiskD) (L:LogD):List Puts:=
 let n:=markedN D L
 if n=0 then [] else if (readL D L n).all (fun p=>atHome D L p.1) then [readL D L n,headL (nextL L n)] else []
def headOf (b:Sec):LogD:=⟨beVal ((b.drop 2).take 2),beVal ((b.drop 4).take 6),beVal ((b.drop 10).take 2)⟩
structure FileD where
 size:Nat
 blocks:List Nat
deriving DecidableEq
abbrev Files:=List (Nm×FileD)
structure FsD where
 disk:DiskD
 log:LogD
 mt:Nat
 files:Files
def nameOk (s:Nm):Bool:=s.all (fun c=>decide (33≤c.toNat)&&decide (c.toNat≤126))&&decide (s≠[])&&decide (s.length≤80)
def cnt (n:Nat):Nat:=(n+255) / 256
def topB (m:Nat):Sec:=fill ([65,70]++beB m 2)
def firstF (F:FsD):Nat:=homeL F.log+1+F.mt
def allF (F:FsD):Nat:=F.disk.n - firstF F
def rowB (p:Nm×FileD):Sec:=UInt8.ofNat p.1.length::p.1++beB p.2.size 4++p.2.blocks.flatMap fun k=>beB k 2
def tableB (l:Files):Sec:=beB l.length 2++l.flatMap rowB
def sectorsB (m:Nat) (l:Files):List Sec:=
 if m * 256<(tableB l).length then [] else (List.range m).map fun i=>(((tableB l++nul (m * 256 - (tableB l).length)).drop (256 * i)).take 256)
def differB (b:Nat) (old new:List Sec):Puts:=((List.range old.length).filter fun i=>old.getD i []≠new.getD i []).map fun i=>(b+i,new.getD i [])
structure ChangeD where
 kind:Int
 name:Nm
 tonm:Nm
 data:Sec
structure WorkD where
 files:Files
 fresh:List (Nm×Sec)
def hasF (l:Files) (s:Nm):Bool:=(lookK s l).isSome
def bytesB (F:FsD) (x:FileD):Sec:=(x.blocks.flatMap fun k=>F.disk.now (firstF F+k)).take x.size
def bytesW (F:FsD) (w:WorkD) (s:Nm):Sec:=match lookK s w.fresh with
 | some b=>b
 | none=>match lookK s w.files with
  | some x=>bytesB F x
  | none=>[]
def tellW (w:WorkD) (s:Nm) (b:Sec):WorkD×Nat:=
 if 65535<b.length∨(hasF w.files s=false∧400≤w.files.length) then (w,10) else (⟨insK s ⟨b.length,[]⟩ w.files,insK s b w.fresh⟩,0)
def goneW (w:WorkD) (s:Nm):WorkD:=⟨delK s w.files,delK s w.fresh⟩
def renameW (w:WorkD) (s t:Nm):WorkD×Nat:=
 match lookK s w.files with
 | none=>(w,6)
 | some x=>if s=t then (w,0) else if hasF w.files t then (w,7) else
  (goneW ⟨insK t x w.files,match lookK s w.fresh with | some b=>insK t b w.fresh | none=>w.fresh⟩ s,0)
def oneW (F:FsD) (w:WorkD) (c:ChangeD):WorkD×Nat:=
 if nameOk c.name=false∨(c.kind=4∧nameOk c.tonm=false) then (w,16)
 else if c.kind=2∨(c.kind=1∧hasF w.files c.name=false) then tellW w c.name c.data
 else if c.kind=1 then (w,7)
 else if c.kind=3 then (if hasF w.files c.name then tellW w c.name (bytesW F w c.name++c.data) else (w,6))
 else if c.kind=4 then renameW w c.name c.tonm
 else if c.kind≠5 then (w,1)
 else if hasF w.files c.name then (goneW w c.name,0) else (w,6)
def allW (F:FsD):WorkD→List ChangeD→WorkD×Nat
 | w,[]=>(w,0)
 | w,c::l=>if (oneW F w c).2=0 then allW F (oneW F w c).1 l else oneW F w c
def usedF (l:Files) (k:Nat):Bool:=l.any fun p=>p.2.blocks.contains k
def freeF (F:FsD):List Nat:=(List.range (allF F)).filter fun k=>!usedF F.files k
def needW (l:List (Nm×Sec)):Nat:=(l.map fun p=>cnt p.2.length).sum
def placeF:List (Nm×Sec)→List Nat→Files→Files
 | [],_,l=>l
 | (s,b)::r,free,l=>placeF r (free.drop (cnt b.length)) (insK s ⟨b.length,free.take (cnt b.length)⟩ l)
def blockP (first:Nat) (b:Sec) (ks:List Nat):Puts:=ks.mapIdx fun i k=>(first+k,((b++nul (cnt b.length * 256 - b.length)).drop (256 * i)).take 256)
def placeP (first:Nat):List (Nm×Sec)→List Nat→Puts
 | [],_=>[]
 | (s,b)::r,free=>blockP first b (free.take (cnt b.length))++placeP first r (free.drop (cnt b.length))
def prepF (F:FsD) (l:List ChangeD):Nat×List Puts×Files×LogD:=
 let r:=allW F ⟨F.files,[]⟩ l
 if r.2≠0 then (r.2,[],[],F.log)
 else if (freeF F).length<needW r.1.fresh then (8,[],[],F.log)
 else
  let fs:=placeF r.1.fresh (freeF F) r.1.files
  if F.mt * 256<(tableB fs).length then (8,[],[],F.log)
  else
   let t:=differB (homeL F.log+1) (sectorsB F.mt F.files) (sectorsB F.mt fs)
   if F.log.ring<need t.length then (9,[],[],F.log)
   else
    let bl:=placeP (firstF F) r.1.fresh (freeF F)
    (0,(if bl=[] then [] else [bl])++commitP F.log t,fs,if t=[] then F.log else nextL F.log t.length)
def doF (F:FsD) (l:List ChangeD):FsD×Nat:=
 let p:=prepF F l
 if p.1≠0 then (F,p.1)
 else
  let r:=runP F.disk p.2.1
  if r.2=0 then (⟨r.1,p.2.2.2,F.mt,p.2.2.1⟩,0) else ({ F with disk:=r.1 },r.2)
end
end Go.Aq.Fy
namespace Go.Aq
section
open Go.RowKit Go.Maps
def GoodKey (P:Program) (k:TypeId) (v:Value):Prop:=∃l,keyOf P k v=some l
def MapF (P:Program) (k:TypeId) (w:World) (b:Nat) (f:Value→Option Value):Prop:=
 ∃es clock,w.heap[b]?=some (.map es clock)∧(es.toList.map (·.key)).Nodup∧(∀e∈es.toList,GoodKey P k e.key∧f e.key=some e.val)∧∀key v,f key=some v→∃e∈es.toList,e.key=key
theorem run_obj {P:Program} {w:World} {r:Nat} {es:Array MapEntry} {c:Nat} (h:w.heap[r]?=some (.map es c)):(getObj r).run P w=.ok (.map es c) w:=by
 simp[getObj,Sem.run,h]
theorem run_setMap {P:Program} {w:World} {r:Nat} {es:Array MapEntry} {c:Nat} (h:w.heap[r]?=some (.map es c)) (o:Obj):(setObj r o).run P w=.ok () (ChangeMaps.setBlock w r o):=by
 simp[setObj,Sem.run,h,ChangeMaps.setBlock]
theorem nodup_get {α β:Type} {g:α→β} {l:List α} (h:(l.map g).Nodup) {i j:Nat} {x y:α} (hi:l[i]?=some x) (hj:l[j]?=some y) (hxy:g x=g y):i=j:=by
 have h1:(l.map g)[i]?=some (g x):=by simp[hi]
 have h2:(l.map g)[j]?=some (g y):=by simp[hj]
 obtain⟨hi',e1⟩:=List.getElem?_eq_some_iff.1 h1;obtain⟨hj',e2⟩:=List.getElem?_eq_some_iff.1 h2;exact (List.getElem_inj h).1 (by rw[e1,e2,hxy])
theorem MapF.lt {P:Program} {k:TypeId} {w:World} {b:Nat} {f:Value→Option Value} (h:MapF P k w b f):b<w.heap.size:=by
 obtain⟨es,clock,h1,_⟩:=h;exact (Array.getElem?_eq_some_iff.1 h1).1
theorem MapF.chg {P:Program} {k:TypeId} {w w':World} {b:Nat} {f:Value→Option Value} {S:List Nat} (h:MapF P k w b f) (c:Chg S w w') (hb:b∉S):MapF P k w' b f:=by
 have hl:=h.lt;obtain⟨es,clock,h1,h2⟩:=h;exact⟨es,clock,by rw[c.block b hl hb];exact h1,h2⟩
theorem MapF.new (P:Program) (k:TypeId) (w:World):MapF P k (w.alloc (.map #[] 0)) w.heap.size fun _=>none:=
 ⟨#[],0,heap_alloc_new w _,by simp,by simp,by simp⟩
theorem MapF.blk {P:Program} {k:TypeId} {w:World} {b p:Nat} {f:Value→Option Value} {cs:Array Value} {e:TypeId} (h:MapF P k w b f) (hb:Blk w p cs e):b≠p:=by
 rintro rfl;obtain⟨es,clock,h1,_⟩:=h;unfold Blk at hb;rw[h1] at hb;simp at hb
theorem MapF.own {P:Program} {k:TypeId} {w:World} {b:Nat} {f:Value→Option Value} {e:TypeId} {size:Nat} {v:Value} {n:Nat} {xs:List Value} (h:MapF P k w b f) (ho:Own w e size v n xs):b∉v.ownBlock.toList:=by
 intro hb;rcases ho.2 with ⟨rfl,_⟩ | ⟨g,cap,cur,rfl,_,hg,_⟩
 ·simp[Value.ownBlock] at hb
 ·simp[Value.ownBlock] at hb;subst hb;obtain⟨es,clock,h1,_⟩:=h;rw[h1] at hg;simp at hg
theorem MapF.find {P:Program} {k:TypeId} (K:Keyed P k) {f:Value→Option Value} {es:Array MapEntry} {key:Value} (hkey:GoodKey P k key)
  (h2:∀e∈es.toList,GoodKey P k e.key∧f e.key=some e.val) (h3:∀key v,f key=some v→∃e∈es.toList,e.key=key) (w:World):
  (f key=none∧(Instr.findKey k key es.toList).run P w=.ok none w)∨∃j e,f key=some e.val∧e.key=key∧es.toList[j]?=some e∧(Instr.findKey k key es.toList).run P w=.ok (some (j,e.val)) w:=by
 obtain⟨l,hl⟩:=hkey;rcases K.find w hl es.toList (fun e he=>(h2 e he).1) with ⟨h4,h5⟩ | ⟨j,e,h4,h5,h6⟩
 ·left;refine⟨?_,h4⟩;cases hf:f key with
  | none=>rfl
  | some v=>obtain⟨e,he,hk⟩:=h3 key v hf;exact absurd hk (h5 e he)
 ·right;have hm:e∈es.toList:=List.mem_of_getElem? h5;exact⟨j,e,by rw[←h6];exact (h2 e hm).2,h6,h5,h4⟩
theorem MapF.look {P:Program} {t k e:TypeId} {w:World} {b:Nat} {f:Value→Option Value} (h:MapF P k w b f) (K:Keyed P k) (ht:P.underlying t=some (.map k e)) {z:Value} (hz:(zeroValue e).run P w=.ok z w) {key:Value} (hkey:GoodKey P k key):
  (Instr.lookup t (.map (some b)) key false).run P w=.ok ((f key).getD z) w∧(Instr.lookup t (.map (some b)) key true).run P w=.ok (.tuple #[(f key).getD z,.bool (f key).isSome]) w:=by
 obtain⟨es,clock,h1,hnd,h2,h3⟩:=h;have hc:∀em,(Instr.checkKey em 10000 k key).run P w=.ok () w:=fun em=>by obtain⟨l,hl⟩:=hkey;exact K.check w em hl
 rcases MapF.find K hkey h2 h3 w with ⟨h4,h5⟩ | ⟨j,e0,h4,_,_,h5⟩
 ·constructor <;> simp[Instr.lookup,run_underlying ht,run_obj h1,hc,h5,h4,hz]
 ·constructor <;> simp[Instr.lookup,run_underlying ht,run_obj h1,hc,h5,h4]
open Classical in
noncomputable def updF (f:Value→Option Value) (key v:Value):Value→Option Value:=fun x=>if x=key then some v else f x
theorem MapF.put {P:Program} {t k e:TypeId} {w:World} {b:Nat} {f:Value→Option Value} (h:MapF P k w b f) (K:Keyed P k) (ht:P.underlying t=some (.map k e)) {key v:Value} (hkey:GoodKey P k key):
  ∃w',(Instr.mapUpdate t (.map (some b)) key v).run P w=.ok () w'∧MapF P k w' b (updF f key v)∧Chg [b] w w':=by
 have hlt:=h.lt;obtain⟨es,clock,h1,hnd,h2,h3⟩:=h;have hc:∀em,(Instr.checkKey em 10000 k key).run P w=.ok () w:=fun em=>by obtain⟨l,hl⟩:=hkey;exact K.check w em hl
 have hs:(Instr.keyThatStays key key).run P w=.ok key w:=by obtain⟨l,hl⟩:=hkey;exact K.stays w hl
 have chg:∀o,Chg [b] w (ChangeMaps.setBlock w b o):=fun o=>⟨rfl,rfl,rfl,by simp[ChangeMaps.setBlock],fun k _ hk=>by
  have hne:b≠k:=fun e=>hk (by simp[e])
  simp[ChangeMaps.setBlock,hne]⟩
 have at_:∀o,(ChangeMaps.setBlock w b o).heap[b]?=some o:=fun o=>by
  simp[ChangeMaps.setBlock,hlt]
 rcases MapF.find K hkey h2 h3 w with ⟨h4,h5⟩ | ⟨j,e0,h4,h6,h7,h5⟩
 ·refine⟨_,by simp[Instr.mapUpdate,run_underlying ht,run_obj h1,hc,h5,run_setMap h1];rfl,⟨_,_,at_ _,?_,?_,?_⟩,chg _⟩
  ·simp only[Array.toList_push,List.map_append,List.map_cons,List.map_nil];rw[List.nodup_append];refine⟨hnd,by simp,?_⟩;intro x hx y hy;simp at hy;subst hy;obtain⟨e,he,rfl⟩:=List.mem_map.1 hx;rintro rfl;have:=(h2 e he).2;rw[h4] at this;simp at this
  ·intro e he;simp at he;rcases he with he | rfl
   ·have:=h2 e (by simpa using he);refine⟨this.1,?_⟩;have hne:e.key≠key:=fun hk=>by rw[hk,h4] at this;simp at this
    simp[updF,hne,this.2]
   ·exact⟨hkey,by simp[updF]⟩
  ·intro x v' hx;by_cases hxk:x=key;·exact⟨⟨key,v,clock⟩,by simp,hxk.symm⟩
   ·simp[updF,hxk] at hx;obtain⟨e,he,hk⟩:=h3 x v' hx;exact⟨e,by simp at he ⊢;exact .inl he,hk⟩
 ·have hj:j<es.size:=by have:=(List.getElem?_eq_some_iff.1 h7).1;simpa using this
  have hes:es[j]?=some e0:=by simpa using h7
  have hkeys:(es.modify j fun e=>{ e with key:=key,val:=v }).toList.map (·.key)=es.toList.map (·.key):=by
   apply List.ext_getElem?;intro i;rw[List.getElem?_map,List.getElem?_map,Array.getElem?_toList,Array.getElem?_toList,Array.getElem?_modify];split
   ·rename_i hij;subst hij;rw[hes];simp[h6]
   ·rfl
  refine⟨_,by simp[Instr.mapUpdate,run_underlying ht,run_obj h1,hc,h5,hes,h6,hs,run_setMap h1];rfl,⟨_,_,at_ _,?_,?_,?_⟩,chg _⟩;·rw[hkeys];exact hnd
  ·intro e he;obtain⟨i,hi⟩:=List.getElem?_of_mem he;rw[Array.getElem?_toList,Array.getElem?_modify] at hi;split at hi
   ·rename_i hij;subst hij;rw[hes] at hi;simp at hi;subst hi;exact⟨hkey,by simp[updF]⟩
   ·rename_i hij;have hi':es.toList[i]?=some e:=by rw[Array.getElem?_toList];exact hi
    have hm:e∈es.toList:=List.mem_of_getElem? hi';have hh:=h2 e hm;refine⟨hh.1,?_⟩;have hek:e.key≠key:=fun hk=>hij (nodup_get hnd h7 hi' (by rw[h6,hk]))
    simp[updF,hek,hh.2]
  ·intro x v' hx;have hx':∃e∈es.toList,e.key=x:=by
    by_cases hxk:x=key;·exact⟨e0,List.mem_of_getElem? h7,by rw[h6,hxk]⟩
    ·simp[updF,hxk] at hx;exact h3 x v' hx
   obtain⟨e,he,hk⟩:=hx';have:x∈(es.modify j fun e=>{ e with key:=key,val:=v }).toList.map (·.key):=by
    rw[hkeys];exact List.mem_map.2 ⟨e,he,hk⟩
   obtain⟨e',he',hk'⟩:=List.mem_map.1 this;exact⟨e',he',hk'⟩
end
section
open Go.RowKit
def ArrTy (P:Program) (ty:TypeId) (n:Nat):Prop:=(∃d,P.underlying ty=some d∧(match d with | .struct _ | .array _ _=>true | _=>false)=true)∧(P.info? ty).map (·.size)=some n
theorem wpList_stA {P:Program} {ops:Array Oper} {rest:List Oper} {o:Oper} {a:Act} {w:World} {Q:Exit→Act→World→Prop} (hgd:o.guard=none) (ty:TypeId) (x y:Operand) (ho:o.op=.store ty x y)
  {g:Nat} {old cs:Array Value} {e:TypeId} (hb:Blk w g old e) (ht:ArrTy P ty cs.size) (hs:old.size=cs.size) (h1:∀v∈cs.toList,v.oneCell'=true) (hx:a.eval x=.pointer (some ⟨g,0,none⟩)) (hy:a.eval y=.agg cs)
  (h:∀w',Blk w' g cs e→Chg [g] w w'→w'.heap.size=w.heap.size→wpList P ops Q rest (a.put o.dst undef) w'):wpList P ops Q (o::rest) a w:=by
 obtain⟨-,h3⟩:=ht;refine wpList_store_row hgd ty x y ho g cs hx hy e old hb h3 hs (Array.all_eq_true_iff_forall_mem.2 fun v hv=>h1 v (by simpa using hv)) ?_;exact h _ (setRow_heap w g old cs e _ hb) ⟨rfl,rfl,rfl,by simp,fun k _ hk=>setRow_other w g k cs (fun e=>hk (by simp[e]))⟩ (by simp)
theorem Sees.row {W:World} {k:Nat} {cs:Array Value} {e:TypeId} {m:Nat} (h:Blk W k cs e) (hm:cs.size=m):Sees W 1 (.slice (some ⟨k,0,none⟩) m m) m cs.toList:=by
 subst hm;refine⟨by simp,_,_,rfl,Nat.le_refl _,by simp,fun ad had j u hu=>?_⟩;cases had;rw[Addr.add_lit,Nat.zero_add,h.cell];simpa using hu
structure Fresh (w wr:World) (e:TypeId) (size:Nat) (v:Value) (n:Nat) (xs:List Value):Prop where
 own:Own wr e size v n xs
 chg:Chg [] w wr
 new:∀k∈v.ownBlock.toList,w.heap.size≤k
theorem Fresh.nil (w:World) (e:TypeId) (size:Nat):Fresh w w e size (.slice none 0 0) 0 []:=⟨Own.nil w e size,Chg.refl _ _,by simp[Value.ownBlock]⟩
theorem Fresh.to {w wr w':World} {e:TypeId} {size:Nat} {v:Value} {n:Nat} {xs:List Value} (h:Fresh w wr e size v n xs) (c:Chg [] wr w'):Fresh w w' e size v n xs:=
 ⟨h.own.chg c (fun _ _=>by simp),h.chg.trans c (by simp),h.new⟩
theorem Fresh.app {w wr w':World} {e:TypeId} {size:Nat} {v v':Value} {n n':Nat} {xs xs':List Value} (h:Fresh w wr e size v n xs) (ho:Own w' e size v' n' xs') (hc:Chg v.ownBlock.toList wr w')
  (hn:∀k∈v'.ownBlock.toList,k∈v.ownBlock.toList∨wr.heap.size≤k):Fresh w w' e size v' n' xs':=
 ⟨ho,h.chg.trans hc (fun i hi=>.inr (h.new i hi)),fun k hk=>by
  rcases hn k hk with h1 | h1
  ·exact h.new k h1
  ·exact Nat.le_trans h.chg.size h1⟩
theorem wpList_appF {P:Program} {w0 W:World} {ops:Array Oper} {rest:List Oper} {o:Oper} {a:Act} {Q:Exit→Act→World→Prop} (hgd:o.guard=none) (s x:Operand) (t:TypeId)
  (ho:o.op=.call { callee:=.builtin .append,args:=#[s,x],argTypes:=#[t,t] })
  {e:TypeId} {z:Value} {size bytes:Nat} (ht:SliceTy P t e z size bytes)
  {v:Value} {n:Nat} {xs:List Value} (hf:Fresh w0 W e size v n xs) (hs:a.eval s=v) {vx:Value} {m:Nat} {news:List Value} (hsrc:Sees W size vx m news) (hx:a.eval x=vx)
  (h1:∀u∈news,u.oneCell'=true) (hb:(n+m) * bytes≤140737488355328) (h63:n+m≤9223372036854775807)
  (h:∀v' W',Fresh w0 W' e size v' (n+m) (xs++news)→Chg v.ownBlock.toList W W'→wpList P ops Q rest (a.put o.dst v') W'):wpList P ops Q (o::rest) a W:=
 wpList_app hgd s x t ho ht hf.own hs hsrc hx h1 hb h63 fun v' W' h2 h3 h4=>h v' W' (hf.app h2 h3 h4) h3
theorem step_appF {P:Program} {w0 W:World} {ops:Array Oper} {o:Oper} {a:Act} {K:Act→World→Prop} {Q:Exit→Act→World→Prop} {E:Prop} (hgd:o.guard=none) (s x:Operand) (t:TypeId)
  (ho:o.op=.call { callee:=.builtin .append,args:=#[s,x],argTypes:=#[t,t] })
  {e:TypeId} {z:Value} {size bytes:Nat} (ht:SliceTy P t e z size bytes)
  {v:Value} {n:Nat} {xs:List Value} (hf:Fresh w0 W e size v n xs) (hs:a.eval s=v) {vx:Value} {m:Nat} {news:List Value} (hsrc:Sees W size vx m news) (hx:a.eval x=vx)
  (h1:∀u∈news,u.oneCell'=true) (hb:(n+m) * bytes≤140737488355328) (h63:n+m≤9223372036854775807)
  (h:∀v' W',Fresh w0 W' e size v' (n+m) (xs++news)→Chg v.ownBlock.toList W W'→K (a.put o.dst v') W'):
  if Region.wanted o (yielded ops a.tmps)=true then Oper.wp P o a W K Q else E:=
 step_app hgd s x t ho ht hf.own hs hsrc hx h1 hb h63 fun v' W' h2 h3 h4=>h v' W' (hf.app h2 h3 h4) h3
theorem Fresh.shape {w wr:World} {e:TypeId} {size:Nat} {v:Value} {n:Nat} {xs:List Value} (h:Fresh w wr e size v n xs):∃ao cap,v=.slice ao n cap∧n≤cap:=by
 obtain⟨ao,cap,h1,h2,-⟩:=h.own.sees.shape;exact⟨ao,cap,h1,h2⟩
end
end Go.Aq
