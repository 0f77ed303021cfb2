/- Joined texts: D1. No condition. -/
import Derived.Test.YtnlkbdmmoplkoaaGreatDoorZ3
import Derived.Test.YtnlkbdmmoplkoaaGreatDoorProg
import Derived.KernelRfl
import Derived.Laws.BitsLemmas
import Derived.Laws.Bits64
namespace Go.Proofs.YtnlkbdmmoplkoaaGreatDoor
namespace Ab
open Go Go.RowKit
set_option linter.unusedSimpArgs false
set_option linter.unusedVariables false
theorem wI {n:Int} (h1: -9223372036854775808≤n) (h2:n<9223372036854775808):IntKind.i64.wrap n=n:=by rw[IntKind.wrap_i64];omega
theorem wU {n:Int} (h1:0≤n) (h2:n<18446744073709551616):IntKind.u64.wrap n=n:=by rw[IntKind.wrap_u64];omega
theorem wUm {n:Int}:IntKind.u64.wrap n=n%18446744073709551616:=IntKind.wrap_u64 n
theorem tmodN {a:Nat} {b:Nat}:((a:Int)).tmod (b:Int)=((a%b:Nat):Int):=by rw[Int.tmod_eq_emod_of_nonneg oM];rfl
theorem tdivN {a:Nat} {b:Nat}:((a:Int)).tdiv (b:Int)=((a/b:Nat):Int):=by rw[Int.tdiv_eq_ediv_of_nonneg oM];rfl
theorem bandN {a b:Nat} (ha:a<18446744073709551616) (hb:b<18446744073709551616):IntKind.u64.wrap ((BitVec.ofInt IntKind.u64.bits (a:Int)&&&BitVec.ofInt IntKind.u64.bits (b:Int)).toNat:Int)=((a&&&b:Nat):Int):=by
 have e1:(BitVec.ofInt IntKind.u64.bits (a:Int)&&&BitVec.ofInt IntKind.u64.bits (b:Int)).toNat=a&&&b:=by
  rw[BitVec.toNat_and,BitVec.toNat_ofInt,BitVec.toNat_ofInt]
  show((a:Int)%18446744073709551616).toNat&&&((b:Int)%18446744073709551616).toNat=_
  rw[show((a:Int)%18446744073709551616).toNat=a from by omega,show((b:Int)%18446744073709551616).toNat=b from by omega]
 rw[e1]
 exact wU oM (by have:=Nat.and_lt_two_pow (n:=64) a (y:=b) oM;omega)
theorem borN {a b:Nat} (ha:a<18446744073709551616) (hb:b<18446744073709551616):IntKind.u64.wrap ((BitVec.ofInt IntKind.u64.bits (a:Int)|||BitVec.ofInt IntKind.u64.bits (b:Int)).toNat:Int)=((a|||b:Nat):Int):=by
 have e1:(BitVec.ofInt IntKind.u64.bits (a:Int)|||BitVec.ofInt IntKind.u64.bits (b:Int)).toNat=a|||b:=by
  rw[BitVec.toNat_or,BitVec.toNat_ofInt,BitVec.toNat_ofInt]
  show((a:Int)%18446744073709551616).toNat|||((b:Int)%18446744073709551616).toNat=_
  rw[show((a:Int)%18446744073709551616).toNat=a from by omega,show((b:Int)%18446744073709551616).toNat=b from by omega]
 rw[e1]
 exact wU oM (by have:=Nat.or_lt_two_pow (n:=64) (x:=a) (y:=b) oM oM;omega)
def val (B:Nat):List Nat→Nat
 |[]=>0
 |x::xs=>x+B*val B xs
theorem val_append (B:Nat) (xs ys:List Nat):val B (xs++ys)=val B xs+B^xs.length*val B ys:=by
 induction xs with
 |nil=>simp[val]
 |cons x xs ih=>
  simp only[List.cons_append,val,ih,List.length_cons,Nat.pow_succ,Nat.mul_add]
  rw[Nat.mul_comm (B^xs.length) B,Nat.mul_assoc,Nat.add_assoc]
theorem val_snoc (B:Nat) (xs:List Nat) (y:Nat):val B (xs++[y])=val B xs+B^xs.length*y:=by simp[val_append,val]
theorem val_zero (B:Nat) (xs:List Nat) (h:∀x∈xs,x=0):val B xs=0:=by
 induction xs with
 |nil=>rfl
 |cons x xs ih=>simp[val,h x sM,ih (fun y hy=>h y (by simp[hy]))]
theorem val_cut (B:Nat) (xs:List Nat) (k:Nat) (h:k≤xs.length):val B xs=val B (xs.take k)+B^k*val B (xs.drop k):=by
 rw[←List.take_append_drop k xs,val_append]
 simp[Nat.min_eq_left h]
theorem val_take (B:Nat) (xs:List Nat) (k:Nat) (h:∀x∈xs.drop k,x=0):val B (xs.take k)=val B xs:=by
 conv=>rhs;rw[←List.take_append_drop k xs,val_append,val_zero B _ h]
 simp
theorem val_take_succ (B:Nat) (xs:List Nat) (k:Nat) (h:k<xs.length):val B (xs.take (k+1))=val B (xs.take k)+B^k*xs[k]:=by
 rw[List.take_succ_eq_append_getElem h,val_snoc]
 simp[Nat.min_eq_left (Nat.le_of_lt h)]
theorem val_lt (B:Nat) (_:0<B) (xs:List Nat) (h:∀x∈xs,x<B):val B xs<B^xs.length:=by
 induction xs with
 |nil=>simp[val]
 |cons x xs ih=>
  have h1:=h x sM
  have h2:=ih (fun y hy=>h y (by simp[hy]))
  simp only[val,List.length_cons,Nat.pow_succ]
  rw[Nat.mul_comm _ B]
  calc x+B*val B xs<B+B*val B xs:=by omega
   _=B*(val B xs+1):=by rw[Nat.mul_add];omega
   _≤B*B^xs.length:=Nat.mul_le_mul_left _ h2
theorem val_lt_take (B:Nat) (hB:0<B) (xs:List Nat) (h:∀x∈xs,x<B) (k:Nat):val B (xs.take k)<B^k:=by
 have h1:=val_lt B hB (xs.take k) (fun x hx=>h x (List.mem_of_mem_take hx))
 refine Nat.lt_of_lt_of_le h1 (Nat.pow_le_pow_right hB ?_)
 simp;omega
theorem val_inj (B:Nat) (hB:0<B):∀(xs ys:List Nat),xs.length=ys.length→(∀x∈xs,x<B)→(∀x∈ys,x<B)→val B xs=val B ys→xs=ys
 |[],[],_,_,_,_=>rfl
 |[],_::_,h,_,_,_=>by simp at h
 |_::_,[],h,_,_,_=>by simp at h
 |x::xs,y::ys,h,h1,h2,h3=>by
  simp only[val] at h3
  have hx:=h1 x sM
  have hy:=h2 y sM
  have e1:x=y:=by
   have:=congrArg (· %B) h3
   simpa [Nat.add_mul_mod_self_left,Nat.mod_eq_of_lt hx,Nat.mod_eq_of_lt hy] using this
  subst e1
  have e2:val B xs=val B ys:=Nat.eq_of_mul_eq_mul_left hB oM
  rw[val_inj B hB xs ys (by simpa using h) (fun z hz=>h1 z (by simp[hz])) (fun z hz=>h2 z (by simp[hz])) e2]
def IsN (h:H) (v:AV) (xs:List Nat):Prop:=IsW .u64 h v (xs.map fun n:Nat=>(n:Int))
theorem IsN.mono {h h':H} {v:AV} {xs:List Nat} (hv:IsN h v xs) (hl:h.le h'):IsN h' v xs:=IsW.mono hv hl
theorem IsN.form {h:H} {v:AV} {xs:List Nat} (hv:IsN h v xs):∃id off c,v= .sl id off xs.length c:=by
 obtain⟨id,off,c,e⟩:=IsW.form hv
 exact⟨id,off,c,by simpa using e⟩
theorem IsN.at {h:H} {id:Option Nat} {off n:Nat} {c:Option Nat} {xs:List Nat} (hv:IsN h (.sl id off n c) xs) {j:Nat} (hj:j<xs.length):∃i,id=some i∧n=xs.length∧h.get i (off+j)=some (.int .u64 (xs[j]:Nat)):=by
 obtain⟨i,e1,e2,e3⟩:=IsW.at hv (j:=j) (by simpa using hj)
 exact⟨i,e1,by simpa using e2,by simpa using e3⟩
theorem IsN.row {h:H} {id:Option Nat} {off n:Nat} {c:Option Nat} {xs:List Nat} (hv:IsN h (.sl id off n c) xs):∀i,id=some i→∃r,h.rows i=some r∧(r.own=none∨r.esz=1):=IsW.row hv
theorem IsN.cut {h:H} {id:Option Nat} {off n:Nat} {c c':Option Nat} {xs:List Nat} (hv:IsN h (.sl id off n c) xs) {a b:Nat} (hab:a≤b) (hb:b≤xs.length):IsN h (.sl id (off+a) (b-a) c') ((xs.take b).drop a):=by
 have:=IsW.cut (c':=c') hv hab (by simpa using hb)
 unfold IsN
 rw[List.map_drop,List.map_take]
 exact this
theorem IsN.take {h:H} {id:Option Nat} {off n:Nat} {c c':Option Nat} {xs:List Nat} (hv:IsN h (.sl id off n c) xs) {b:Nat} (hb:b≤xs.length):IsN h (.sl id off b c') (xs.take b):=by
 have:=IsN.cut (c':=c') hv (Nat.zero_le b) hb
 simpa using this
theorem IsN.nil (h:H) (c:Option Nat):IsN h (.sl none 0 0 c) []:=IsW.nil _ _ _
def IsG (b:Nat) (h:H) (v:AV) (xs:List Nat):Prop:=IsF 54 .u64 b h v (xs.map fun n:Nat=>(n:Int))
def Num (B:Nat) (h:H) (v:AV) (n:Nat):Prop:=∃xs,IsN h v xs∧(∀x∈xs,x<B)∧(∀x,xs.getLast? =some x→x≠0)∧val B xs=n
theorem Num.mono {B:Nat} {h h':H} {v:AV} {n:Nat} (hv:Num B h v n) (hl:h.le h'):Num B h' v n:=by
 obtain⟨xs,h1,h2⟩:=hv
 exact⟨xs,h1.mono hl,h2⟩
theorem val_ge (B:Nat) (xs:List Nat) (h:∀x,xs.getLast? =some x→x≠0) (h0:xs≠ []):B^(xs.length-1)≤val B xs:=by
 rcases List.eq_nil_or_concat xs with rfl|⟨ys,y,rfl⟩
 ·exact absurd rfl h0
 ·have hy:=h y sM
  rw[List.concat_eq_append,val_snoc]
  simp only[List.length_append,List.length_cons,List.length_nil]
  have:B^ys.length*1≤B^ys.length*y:=Nat.mul_le_mul_left _ oM
  simp only[Nat.mul_one] at this
  show B^(ys.length+1-1)≤_
  rw[Nat.add_sub_cancel]
  omega
theorem digits_le (B:Nat) (hB:1<B) {xs:List Nat} (h:∀x,xs.getLast? =some x→x≠0) {k:Nat} (hk:val B xs<B^k):xs.length≤k:=by
 by_cases h0:xs=[]
 ·subst h0;simp
 ·have h1:=val_ge B xs h h0
  have h2:B^(xs.length-1)<B^k:=by omega
  have h3:=(Nat.pow_lt_pow_iff_right hB).1 h2
  omega
theorem digits_lt_iff (B:Nat) (hB:1<B) {xs ys:List Nat} (hx:∀x∈xs,x<B) (h:∀x,ys.getLast? =some x→x≠0) (hl:xs.length<ys.length):val B xs<val B ys:=by
 have h1:=val_lt B oM xs hx
 have h2:=val_ge B ys h (by intro e;subst e;simp at hl)
 have h3:B^xs.length≤B^(ys.length-1):=Nat.pow_le_pow_right oM oM
 omega
theorem IsN.lit {h:H} {l:List AV} (ys:List Nat) (t:TypeId) {n:Nat} (hn:n=ys.length) (hl:l=W .u64 (ys.map fun n:Nat=>(n:Int))):IsN (h.new ⟨some t,1,l⟩) (.sl (some h.next) 0 n (some n)) ys:=by
 subst hl
 have:=IsW.lit (t:=t) (k:= .u64) (h:=h) (ys.map fun n:Nat=>(n:Int))
 subst hn
 simpa [IsN] using this
theorem IsG.isN {b:Nat} {h:H} {v:AV} {xs:List Nat} (hv:IsG b h v xs):IsN h v xs:=IsF.isW hv
theorem IsG.mono {b:Nat} {h h':H} {v:AV} {xs:List Nat} (hv:IsG b h v xs) (hl:h.le h'):IsG b h' v xs:=IsF.mono hv hl
theorem H.le_old {a h h':H} (ha:a.wf) (k:a.le h) (hn:h.next≤h'.next) (ho:∀i r,i<a.next→h.rows i=some r→h'.rows i=some r):a.le h':=
 ⟨Nat.le_trans k.1 hn,fun i r e=>ho i r (H.row_lt ha e) (k.2 i r e)⟩
theorem app_num {a h:H} {K:AV→H→Prop} {s x:AV} {xs ys:List Nat} (ha:a.wf) (hw:h.wf) (hah:a.le h) (hs:IsG a.next h s xs) (hx:IsN h x ys) (hl:xs.length+ys.length≤17592186044416)
  (hk:∀v h',h'.wf→a.le h'→IsG a.next h' v (xs++ys)→K v h'):appK 54 1 8 s x h K:=by
 refine app_own hw hs hx hah.1 ?_ ?_ (fun v h' w' hv hn ho=>hk v h' w' (H.le_old ha hah hn ho) ?_)
 ·simp;omega
 ·simp;omega
 ·simpa [IsG] using hv
theorem app_lit {a h:H} {K:AV→H→Prop} {s:AV} {xs:List Nat} {l:List AV} {n:Nat} (ys:List Nat) (ha:a.wf) (hw:h.wf) (hah:a.le h) (hs:IsG a.next h s xs) (hn:n=ys.length) (hy:l=W .u64 (ys.map fun n:Nat=>(n:Int))) (hl:xs.length+ys.length≤17592186044416)
  (hk:∀v h',h'.wf→a.le h'→IsG a.next h' v (xs++ys)→K v h'):appK 54 1 8 s (.sl (some h.next) 0 n (some n)) (h.new ⟨some 54,1,l⟩) K:=
 app_num ha (H.wf_new hw _) (H.le_new hw hah _) (hs.mono (H.le_new hw (H.le_refl h) _)) (IsN.lit ys _ hn hy) hl hk
theorem IsG.made {b:Nat} {h:H} (hb:b≤h.next) (n:Nat):IsG b (h.new ⟨some 54,1,zs [AV.int .u64 0] n⟩) (.sl (some h.next) 0 n (some n)) (List.replicate n 0):=by
 have:=IsF.made (t:=54) (k:= .u64) hb n
 simpa [IsG] using this
theorem IsG.made0 {b:Nat} {h:H} (hb:b≤h.next) (n:Nat):IsG b (h.new ⟨some 54,1,zs [AV.int .u64 0] n⟩) (.sl (some h.next) 0 0 (some n)) []:=IsF.made0 hb n
theorem IsG.put {b:Nat} {h:H} {id:Option Nat} {n:Nat} {c:Option Nat} {xs:List Nat} (hw:h.wf) (hv:IsG b h (.sl id 0 n c) xs) {j:Nat} (hj:j<xs.length):∃i r,id=some i∧b≤i∧i<h.next∧h.rows i=some r∧r.own≠none∧j+1≤r.cells.length∧
  ∀x:Nat,IsG b (h.set i {r with cells:=putAt r.cells j [AV.int .u64 x]}) (.sl id 0 n c) (xs.set j x):=by
 obtain⟨i,r,h1,h2,h3,h4,h5,h6,h7⟩:=IsF.put hw hv (j:=j) (by simpa using hj)
 refine⟨i,r,h1,h2,h3,h4,h5,h6,fun x=> ?_⟩
 have:=h7 x
 unfold IsG
 rw[List.map_set]
 exact this
theorem IsG.form {b:Nat} {h:H} {v:AV} {xs:List Nat} (hv:IsG b h v xs):∃id c,v= .sl id 0 xs.length c:=by
 obtain⟨id,c,e,_⟩:=hv
 exact⟨id,c,by simpa using e⟩
end Ab
end Go.Proofs.YtnlkbdmmoplkoaaGreatDoor
