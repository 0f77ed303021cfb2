/- Joined texts: S1 B1 B2 C1 C2 C3 C4 C5 D1. No condition. -/
import Derived.Test.YtkbglkjpdndkiaaZ2
import Derived.LoopN
import Derived.Test.YtkbglkjpdndkiaaProg
import Derived.KernelRfl
import Derived.Laws.BitsLemmas
import Derived.Laws.Bits64
namespace Go.Proofs.Ytkbglkjpdndkiaa
namespace Ab
open Go Go.RowKit
set_option linter.unusedSimpArgs false
set_option linter.unusedVariables false
section
section
variable {P:Program} {ρ:Env} {h:H} {K:AV→H→Prop}
def bAnd (k:IntKind) (a b:Int):Int:=k.wrap (BitVec.ofInt k.bits a&&&BitVec.ofInt k.bits b).toNat
def bOr (k:IntKind) (a b:Int):Int:=k.wrap (BitVec.ofInt k.bits a|||BitVec.ofInt k.bits b).toNat
def bXor (k:IntKind) (a b:Int):Int:=k.wrap (BitVec.ofInt k.bits a^^^BitVec.ofInt k.bits b).toNat
def bCom (k:IntKind) (n:Int):Int:=k.wrap (BitVec.ofInt k.bits (if k.signed then-1 else k.max)^^^BitVec.ofInt k.bits n).toNat
def bShl (k:IntKind) (a:Int) (n:Nat):Int:=k.wrap (a*2^(min n k.bits))
def bShr (k:IntKind) (a:Int) (n:Nat):Int:=a.fdiv (2^(min n k.bits))
def H.get (h:H) (id off:Nat):Option AV:=(h.rows id).bind fun r=>r.cells[off]?
def H.gets (h:H) (id off n:Nat):Option (List AV):=(h.rows id).bind fun r=>if off+n≤r.cells.length then some ((r.cells.drop off).take n) else none
def vK (v:AV) (h:H) (K:AV→H→Prop):Prop:=K v h
def pickK (c a b:AV) (h:H) (K:AV→H→Prop):Prop:=match c with
 | .bool t=>K (if t=true then a else b) h
 |_=>False
def binK (op:BinOp) (x y:AV) (h:H) (K:AV→H→Prop):Prop:=abinV op x y (fun v=>K v h)
def beqK (ng:Bool) (x y:AV) (h:H) (K:AV→H→Prop):Prop:=match x,y with
 | .bool a, .bool b=>K (.bool (if ng then a !=b else a==b)) h
 |_,_=>False
def peqK (ng:Bool) (x y:AV) (h:H) (K:AV→H→Prop):Prop:=match x,y with
 | .ptr none, .ptr b=>K (.bool (ng !=b.isNone)) h
 | .ptr (some _), .ptr none=>K (.bool ng) h
 |_,_=>False
def idxSK (x i:AV) (h:H) (K:AV→H→Prop):Prop:=match x,i with
 | .str s, .int _ n=>0≤n∧∃b,s[n.toNat]? =some b∧K (.int .u8 b.toNat) h
 |_,_=>False
def seqK (ng:Bool) (x y:AV) (h:H) (K:AV→H→Prop):Prop:=match x,y with
 | .str a, .str b=>K (.bool (ng !=(a==b))) h
 |_,_=>False
def catK (x y:AV) (h:H) (K:AV→H→Prop):Prop:=match x,y with
 | .str a, .str b=>a.size+b.size<9223372036854775808∧K (.str (a++b)) h
 |_,_=>False
def eqsK (ng:Bool) (b:Option Bool) (h:H) (K:AV→H→Prop):Prop:=match b with
 |some b=>K (.bool (ng !=b)) h
 |none=>False
def aeqK (ng:Bool) (n:Nat) (x y:AV) (h:H) (K:AV→H→Prop):Prop:=match x,y with
 | .agg l, .agg m=>l.length=n∧m.length=n∧eqsK ng (eqs l m) h K
 |_,_=>False
def gldK (o:Option Nat) (h:H) (K:AV→H→Prop):Prop:=match o with
 |some n=>K (.int .u8 n) h
 |none=>False
def unK (op:UnOp) (x:AV) (h:H) (K:AV→H→Prop):Prop:=match op,x with
 | .neg, .int k n=>K (.int k (k.wrap (0-n))) h
 | .xor, .int k n=>K (.int k (k.wrap (BitVec.ofInt k.bits (if k.signed then-1 else k.max)^^^BitVec.ofInt k.bits n).toNat)) h
 | .not, .bool b=>K (.bool (!b)) h
 |_,_=>False
def cvIK (k:IntKind) (x:AV) (h:H) (K:AV→H→Prop):Prop:=match x with
 | .int _ n=>K (.int k (k.wrap n)) h
 |_=>False
def idxK (z:Nat) (x i:AV) (h:H) (K:AV→H→Prop):Prop:=match x,i with
 | .sl (some id) off len _, .int _ n=>0≤n∧n<len∧K (.ptr (some (id,off+n.toNat*z))) h
 |_,_=>False
def idxAK (m z:Nat) (x i:AV) (h:H) (K:AV→H→Prop):Prop:=match x,i with
 | .ptr (some (id,off)), .int _ n=>0≤n∧n<m∧K (.ptr (some (id,off+n.toNat*z))) h
 | .gp g off, .int _ n=>0≤n∧n<m∧K (.gp g (off+n.toNat*z)) h
 |_,_=>False
def btsK (x:AV) (h:H) (K:AV→H→Prop):Prop:=match x with
 | .sl (some id) off n _=>∃r,h.rows id=some r∧0<n∧off+n≤r.cells.length∧allU8 ((r.cells.drop off).take n)=true∧K (.str (bytesOf ((r.cells.drop off).take n))) h
 |_=>False
def fldK (off:Nat) (x:AV) (h:H) (K:AV→H→Prop):Prop:=match x with
 | .ptr (some (id,o))=>K (.ptr (some (id,o+off))) h
 |_=>False
def getK (v:Option AV) (h:H) (K:AV→H→Prop):Prop:=match v with
 |some v=>K v h
 |none=>False
def idxVK (sz:Option Nat) (m z:Nat) (x i:AV) (h:H) (K:AV→H→Prop):Prop:=match x,i with
 | .agg l, .int _ n=>0≤n∧n<m∧(match sz with
  |none=>getK l[n.toNat*z]? h K
  |some s=>n.toNat*z+s≤l.length∧K (.agg ((l.drop (n.toNat*z)).take s)) h)
 |_,_=>False
def getsK (v:Option (List AV)) (h:H) (K:AV→H→Prop):Prop:=match v with
 |some l=>K (.agg l) h
 |none=>False
def ldK (sz:Option Nat) (p:AV) (h:H) (K:AV→H→Prop):Prop:=match p with
 | .ptr (some (id,off))=>match sz with
  |none=>getK (h.get id off) h K
  |some n=>getsK (h.gets id off n) h K
 | .gp g off=>match sz with
  |none=>gldK (gcell g off) h K
  |some _=>False
 |_=>False
def putK (r:Option Row) (id off n:Nat) (l:List AV) (h:H) (K:AV→H→Prop):Prop:=match r with
 |some r=>r.own≠none∧off+n≤r.cells.length∧K .junk (h.set id {r with cells:=putAt r.cells off l})
 |none=>False
def stK (n:Nat) (p v:AV) (h:H) (K:AV→H→Prop):Prop:=match p with
 | .ptr (some (id,off))=>v.held=true∧v.cells.length=n∧(v.cells.all (·.one))=true∧putK (h.rows id) id off n v.cells h K
 |_=>False
def nnK (x:AV) (h:H) (K:AV→H→Prop):Prop:=match x with
 | .ptr (some p)=>K (.ptr (some p)) h
 |_=>False
def prtK (sz:Option Nat) (off:Nat) (x:AV) (h:H) (K:AV→H→Prop):Prop:=match x with
 | .agg l=>match sz with
  |none=>getK l[off]? h K
  |some n=>off+n≤l.length∧K (.agg ((l.drop off).take n)) h
 |_=>False
def natK (v:AV) (K:Nat→Prop):Prop:=match v with
 | .int _ n=>0≤n∧K n.toNat
 |_=>False
def slcK (z:Nat) (x:AV) (lo hi:Option AV) (h:H) (K:AV→H→Prop):Prop:=match x with
 | .sl id off len cap=>(match hi with|none=>fun(k:Nat→Prop)=>k len|some v=>natK v) fun b=>(match lo with|none=>fun(k:Nat→Prop)=>k 0|some v=>natK v) fun a=>
   a≤b∧(b≤len∨∃c,cap=some c∧b≤c)∧(∀i,id=some i→∃r,h.rows i=some r∧(r.own=none∨r.esz=z))∧K (.sl id (off+a*z) (b-a) (cap.map (· -a))) h
 |_=>False
def mkK (e:TypeId) (z b:Nat) (zr:List AV) (l c:AV) (h:H) (K:AV→H→Prop):Prop:=match l,c with
 | .int _ l, .int _ c=>0≤l∧l≤c∧b*c≤140737488355328∧K (.sl (some h.next) 0 l.toNat (some c.toNat)) (h.new ⟨some e,z,zs zr c.toNat⟩)
 |_,_=>False
def aggK (l:Option (List AV)) (h:H) (K:AV→H→Prop):Prop:=match l with
 |some l=>K (.agg l) h
 |none=>False
def bslK (l:Option (List AV)) (e:TypeId) (z n:Nat) (h:H) (K:AV→H→Prop):Prop:=match l with
 |some l=>K (.sl (some h.next) 0 n (some n)) (h.new ⟨some e,z,l⟩)
 |none=>False
def boxK (e:TypeId) (x:AV) (h:H) (K:AV→H→Prop):Prop:=x.held=true∧K (.ptr (some (h.next,0))) (h.new ⟨some e,x.cells.length,x.cells⟩)
def lenK (str:Bool) (x:AV) (h:H) (K:AV→H→Prop):Prop:=match str,x with
 |false, .sl _ _ n _=>K (.int .i64 n) h
 |true, .str s=>K (.int .i64 s.size) h
 |_,_=>False
def capoK (x:AV) (h:H) (K:AV→H→Prop):Prop:=match x with
 | .sl _ _ _ (some n)=>K (.int .i64 n) h
 |_=>False
def mnxK (mx:Bool) (x:AV) (ys:List AV) (h:H) (K:AV→H→Prop):Prop:=match x with
 | .int k a=>mnxs mx k a ys fun v=>K v h
 |_=>False
def appK (e:TypeId) (z b:Nat) (s x:AV) (h:H) (K:AV→H→Prop):Prop:=match s,x with
 | .sl ids offs n cs, .sl idx offx m _=>
  (m=0→K (.sl ids offs n cs) h)∧
  (m≠0→∃j r,idx=some j∧h.rows j=some r∧offx+m*z≤r.cells.length∧(((r.cells.drop offx).take (m*z)).all (·.one))=true∧(n+m)*b≤140737488355328∧n+m≤140737488355328∧
   ((ids=none∧n=0∧K (.sl (some h.next) 0 m none) (h.new ⟨some e,z,(r.cells.drop offx).take (m*z)⟩))∨
    (∃i q,ids=some i∧h.rows i=some q∧q.own=some e∧q.esz=z∧offs=0∧n*z≤q.cells.length∧
    K (.sl (some h.next) 0 (n+m) none) ((h.del ids).new ⟨some e,z,q.cells.take (n*z)++(r.cells.drop offx).take (m*z)⟩))))
 |_,_=>False
def cpyK (z:Nat) (d s:AV) (h:H) (K:AV→H→Prop):Prop:=match d,s with
 | .sl idd offd n _, .sl ids offs m _=>
  (min m n=0→K (.int .i64 0) h)∧
  (min m n≠0→∃i q j r,idd=some i∧h.rows i=some q∧q.own≠none∧ids=some j∧h.rows j=some r∧offs+min m n*z≤r.cells.length∧offd+min m n*z≤q.cells.length∧
   (((r.cells.drop offs).take (min m n*z)).all (·.one))=true∧K (.int .i64 (min m n)) (h.set i {q with cells:=putAt q.cells offd ((r.cells.drop offs).take (min m n*z))}))
 |_,_=>False
def extK (x:AV) (i:Nat) (h:H) (K:AV→H→Prop):Prop:=match x with
 | .tup l=>getK l[i]? h K
 |_=>False
def callVK (P:Program) (f:AV) (asx:List AV) (h:H) (K:AV→H→Prop):Prop:=match f with
 | .fn f first caps=>ACalls P f (first++asx++caps) h K
 |_=>False
def condK (v:AV) (X Y:Env→H→Prop) (ρ:Env) (h:H):Prop:=match v with
 | .bool t=>(t=true→X ρ h)∧(t=false→Y ρ h)
 |_=>False
def grdK (P:Program) (v:AV) (b:Bool) (o:AOp) (ρ:Env) (h:H) (K:AV→H→Prop):Prop:=match v with
 | .bool c=>if c=b then aexec P o ρ h K else K (.tup []) h
 | .tup []=>K (.tup []) h
 |_=>False
def kOps (P:Program) (os:List AOper) (Q:Env→H→Prop) (ρ:Env) (d:Option Nat) (v:AV) (h:H):Prop:=aops P os Q (aput ρ d v) h
def kChk (P:Program) (cs:List (Option Nat×Option (Nat×Bool)×AOp)) (os:List AOper) (Q:Env→H→Prop) (ρ:Env) (d:Option Nat) (v:AV) (h:H):Prop:=achks P ρ h cs∧aops P os Q (aput ρ d v) h
def kFin (P:Program) (rs:List AR) (acc:List AV) (K:AV→H→Prop) (ρ:Env) (h0:H) (v:AV) (_:H):Prop:=afin P rs (acc++[v]) K ρ h0

--an operation,by its kind
theorem x_mv {x:AO}:aexec P (.mv x) ρ h K=vK (aev ρ x) h K:=_root_.id rfl
theorem x_pick {c a b:AO}:aexec P (.pick c a b) ρ h K=pickK (aev ρ c) (aev ρ a) (aev ρ b) h K:=_root_.id rfl
theorem x_bin {op:BinOp} {x y:AO}:aexec P (.bin op x y) ρ h K=binK op (aev ρ x) (aev ρ y) h K:=_root_.id rfl
theorem x_beq {ng:Bool} {x y:AO}:aexec P (.beq ng x y) ρ h K=beqK ng (aev ρ x) (aev ρ y) h K:=_root_.id rfl
theorem x_peq {ng:Bool} {x y:AO}:aexec P (.peq ng x y) ρ h K=peqK ng (aev ρ x) (aev ρ y) h K:=_root_.id rfl
theorem x_seq {ng:Bool} {x y:AO}:aexec P (.seq ng x y) ρ h K=seqK ng (aev ρ x) (aev ρ y) h K:=_root_.id rfl
theorem x_cat {x y:AO}:aexec P (.cat x y) ρ h K=catK (aev ρ x) (aev ρ y) h K:=_root_.id rfl
theorem x_aeq {ng:Bool} {n:Nat} {x y:AO}:aexec P (.aeq ng n x y) ρ h K=aeqK ng n (aev ρ x) (aev ρ y) h K:=by
 apply propext
 simp only[aexec]
 generalize aev ρ x=p
 generalize aev ρ y=q
 cases p<;>try exact Iff.rfl
 cases q<;>try exact Iff.rfl
 rename_i l m
 simp only[aeqK]
 cases eqs l m<;>simp[eqsK]
theorem x_idxS {x y:AO}:aexec P (.idxS x y) ρ h K=idxSK (aev ρ x) (aev ρ y) h K:=_root_.id rfl
theorem x_idxV {sz:Option Nat} {m z:Nat} {x i:AO}:aexec P (.idxV sz m z x i) ρ h K=idxVK sz m z (aev ρ x) (aev ρ i) h K:=by
 apply propext
 simp only[aexec]
 generalize aev ρ x=p
 generalize aev ρ i=q
 cases p<;>try exact Iff.rfl
 cases q<;>try exact Iff.rfl
 rename_i l k n
 simp only[idxVK]
 cases sz with
 |none=>
  simp only
  cases hl:l[n.toNat*z]? with
  |none=>simp[getK]
  |some v=>simp[getK]
 |some s=>exact Iff.rfl
theorem x_un {op:UnOp} {x:AO}:aexec P (.un op x) ρ h K=unK op (aev ρ x) h K:=_root_.id rfl
theorem x_cvI {k:IntKind} {x:AO}:aexec P (.cvI k x) ρ h K=cvIK k (aev ρ x) h K:=_root_.id rfl
theorem x_idx {z:Nat} {x i:AO}:aexec P (.idx z x i) ρ h K=idxK z (aev ρ x) (aev ρ i) h K:=_root_.id rfl
theorem x_idxA {m z:Nat} {x i:AO}:aexec P (.idxA m z x i) ρ h K=idxAK m z (aev ρ x) (aev ρ i) h K:=_root_.id rfl
theorem x_bts {x:AO}:aexec P (.bts x) ρ h K=btsK (aev ρ x) h K:=_root_.id rfl
theorem x_fld {off:Nat} {x:AO}:aexec P (.fld off x) ρ h K=fldK off (aev ρ x) h K:=_root_.id rfl
theorem x_ld {sz:Option Nat} {p:AO}:aexec P (.ld sz p) ρ h K=ldK sz (aev ρ p) h K:=by
 apply propext
 simp only[aexec]
 generalize aev ρ p=q
 cases q<;>try exact Iff.rfl
 case gp g off=>
  simp only[ldK]
  cases sz with
  |none=>
   simp only
   cases hg:gcell g off<;>simp[gldK]
  |some n=>exact Iff.rfl
 rename_i o
 rcases o with _|⟨id,off⟩
 ·exact Iff.rfl
 ·simp only[ldK,H.get,H.gets]
  cases sz with
  |none=>
   cases hr:h.rows id with
   |none=>simp[getK]
   |some r=>
    cases hl:r.cells[off]? with
    |none=>simp[getK,hl]
    |some v=>simp[getK,hl]
  |some n=>
   cases hr:h.rows id with
   |none=>simp[getsK]
   |some r=>
    by_cases hl:off+n≤r.cells.length
    ·simp[getsK,hl]
    ·simp[getsK,hl]
theorem x_st {n:Nat} {p v:AO}:aexec P (.st n p v) ρ h K=stK n (aev ρ p) (aev ρ v) h K:=by
 apply propext
 simp only[aexec]
 generalize aev ρ p=q
 cases q<;>try exact Iff.rfl
 rename_i o
 rcases o with _|⟨id,off⟩
 ·exact Iff.rfl
 ·simp only[stK]
  cases hr:h.rows id with
  |none=>simp[putK]
  |some r=>
   simp only[putK,Option.some.injEq,exists_eq_left']
   constructor
   ·rintro⟨h1,h2,h3,h4,h5,h6⟩;exact⟨h2,h3,h5,h1,h4,h6⟩
   ·rintro⟨h1,h2,h3,h4,h5,h6⟩;exact⟨h4,h1,h2,h5,h3,h6⟩
theorem x_nn {x:AO}:aexec P (.nn x) ρ h K=nnK (aev ρ x) h K:=_root_.id rfl
theorem x_prt {sz:Option Nat} {off:Nat} {x:AO}:aexec P (.prt sz off x) ρ h K=prtK sz off (aev ρ x) h K:=by
 apply propext
 simp only[aexec]
 generalize aev ρ x=q
 cases q<;>try exact Iff.rfl
 rename_i l
 simp only[prtK]
 cases sz with
 |none=>
  cases hl:l[off]? with
  |none=>simp[getK]
  |some v=>simp[getK]
 |some n=>exact Iff.rfl
theorem x_slc {z:Nat} {x:AO} {lo hi:Option AO}:aexec P (.slc z x lo hi) ρ h K=slcK z (aev ρ x) (lo.map (aev ρ)) (hi.map (aev ρ)) h K:=by
 simp only[aexec]
 generalize aev ρ x=q
 cases q<;>try rfl
 cases lo<;>cases hi<;>rfl
theorem x_mk {e:TypeId} {z b:Nat} {zr:List AV} {l c:AO}:aexec P (.mk e z b zr l c) ρ h K=mkK e z b zr (aev ρ l) (aev ρ c) h K:=_root_.id rfl
theorem x_bsl {e:TypeId} {z n:Nat} {zr:List AV} {ps:List (Nat×AO)}:aexec P (.bsl e z n zr ps) ρ h K=bslK (abuild (zs zr n) (ps.map fun p=>(p.1*z,z,aev ρ p.2))) e z n h K:=by
 apply propext
 simp only[aexec,bslK]
 cases abuild (zs zr n) (ps.map fun p=>(p.1*z,z,aev ρ p.2))<;>simp
theorem x_bld {zr:List AV} {ps:List (Nat×Nat×AO)}:aexec P (.bld zr ps) ρ h K=aggK (abuild zr (ps.map fun p=>(p.1,p.2.1,aev ρ p.2.2))) h K:=by
 apply propext
 simp only[aexec,aggK]
 cases abuild zr (ps.map fun p=>(p.1,p.2.1,aev ρ p.2.2))<;>simp
theorem x_box {e:TypeId} {x:AO}:aexec P (.box e x) ρ h K=boxK e (aev ρ x) h K:=_root_.id rfl
theorem x_alloc {e:TypeId} {zr:List AV}:aexec P (.alloc e zr) ρ h K=K (.ptr (some (h.next,0))) (h.new ⟨some e,zr.length,zr⟩):=_root_.id rfl
theorem x_len {s:Bool} {x:AO}:aexec P (.len s x) ρ h K=lenK s (aev ρ x) h K:=_root_.id rfl
theorem x_capo {x:AO}:aexec P (.capo x) ρ h K=capoK (aev ρ x) h K:=_root_.id rfl
theorem x_mnx {m:Bool} {x:AO} {ys:List AO}:aexec P (.mnx m x ys) ρ h K=mnxK m (aev ρ x) (ys.map (aev ρ)) h K:=_root_.id rfl
theorem x_app {e:TypeId} {z b:Nat} {s x:AO}:aexec P (.app e z b s x) ρ h K=appK e z b (aev ρ s) (aev ρ x) h K:=_root_.id rfl
theorem x_cpy {z:Nat} {d s:AO}:aexec P (.cpy z d s) ρ h K=cpyK z (aev ρ d) (aev ρ s) h K:=_root_.id rfl
theorem x_mkf {f:FuncId} {a b:List AO}:aexec P (.mkf f a b) ρ h K=vK (.fn f (a.map (aev ρ)) (b.map (aev ρ))) h K:=_root_.id rfl
theorem x_ext {x:AO} {i:Nat}:aexec P (.ext x i) ρ h K=extK (aev ρ x) i h K:=by
 apply propext
 simp only[aexec]
 generalize aev ρ x=q
 cases q<;>try exact Iff.rfl
 rename_i l
 simp only[extK]
 cases hl:l[i]? with
 |none=>simp[getK]
 |some v=>simp[getK]
theorem x_call {f:FuncId} {asx:List AO}:aexec P (.call f asx) ρ h K=ACalls P f (asx.map (aev ρ)) h K:=_root_.id rfl
theorem x_callV {x:AO} {asx:List AO}:aexec P (.callV x asx) ρ h K=callVK P (aev ρ x) (asx.map (aev ρ)) h K:=_root_.id rfl
theorem x_bad:aexec P .bad ρ h K=False:=_root_.id rfl
--steps
theorem s_none {o:AOp}:astep P none o ρ h K=aexec P o ρ h K:=_root_.id rfl
theorem s_some {t:Nat} {b:Bool} {o:AOp}:astep P (some (t,b)) o ρ h K=grdK P (ρ t) b o ρ h K:=_root_.id rfl
theorem s_nil {Q:Env→H→Prop}:aops P [] Q ρ h=Q ρ h:=_root_.id rfl
theorem s_cons {d:Option Nat} {g:Option (Nat×Bool)} {op:AOp} {os:List AOper} {Q:Env→H→Prop}:aops P (⟨d,g,op,[]⟩::os) Q ρ h=astep P g op ρ h (kOps P os Q ρ d):=by
 simp only[aops,achks,true_and]
 rfl
theorem s_chks {d:Option Nat} {g:Option (Nat×Bool)} {op:AOp} {c:Option Nat×Option (Nat×Bool)×AOp} {cs:List (Option Nat×Option (Nat×Bool)×AOp)} {os:List AOper} {Q:Env→H→Prop}:aops P (⟨d,g,op,c::cs⟩::os) Q ρ h=astep P g op ρ h (kChk P (c::cs) os Q ρ d):=_root_.id rfl
theorem w_skip {Q:Post}:awp P .skip Q ρ h=Q .normal ρ h:=_root_.id rfl
theorem w_reg {os:List AOper} {Q:Post}:awp P (.reg os) Q ρ h=aops P os (Q .normal) ρ h:=_root_.id rfl
theorem w_regt {os:List AOper} {t:AT} {Q:Post}:awp P (.regt os t) Q ρ h=aops P os (atP P (Q .normal) t) ρ h:=_root_.id rfl
theorem tP_fin {Q:Env→H→Prop}:atP P Q .fin ρ h=Q ρ h:=_root_.id rfl
theorem tP_no {Q:Env→H→Prop}:atP P Q .no ρ h=True:=_root_.id rfl
theorem tP_alt {x:AOper} {ns:List AOper} {t r:AT} {Q:Env→H→Prop}:atP P Q (.alt x ns t r) ρ h=(aops P (x::ns) (atP P Q t) ρ h∧atP P Q r ρ h):=_root_.id rfl
theorem w_seq {a b:AC} {Q:Post}:awp P (.seq a b) Q ρ h=awp P a (athen (awp P b Q) Q) ρ h:=_root_.id rfl
theorem w_cond {c:AO} {x y:AC} {Q:Post}:awp P (.cond c x y) Q ρ h=condK (aev ρ c) (awp P x Q) (awp P y Q) ρ h:=by
 apply propext
 simp only[awp]
 generalize aev ρ c=q
 cases q<;>simp[condK]
theorem w_block {id:Nat} {c:AC} {Q:Post}:awp P (.block id c) Q ρ h=awp P c (ablk id Q) ρ h:=_root_.id rfl
theorem w_exit {id:Nat} {Q:Post}:awp P (.exit id) Q ρ h=Q (.exit id) ρ h:=_root_.id rfl
theorem w_ret {Q:Post}:awp P .ret Q ρ h=Q .ret ρ h:=_root_.id rfl
--ways out
theorem t_normal {n:Env→H→Prop} {Q:Post}:athen n Q .normal ρ h=n ρ h:=_root_.id rfl
theorem t_exit {n:Env→H→Prop} {Q:Post} {id:Nat}:athen n Q (.exit id) ρ h=Q (.exit id) ρ h:=_root_.id rfl
theorem t_ret {n:Env→H→Prop} {Q:Post}:athen n Q .ret ρ h=Q .ret ρ h:=_root_.id rfl
theorem b_normal {id:Nat} {Q:Post}:ablk id Q .normal ρ h=Q .normal ρ h:=_root_.id rfl
theorem b_ret {id:Nat} {Q:Post}:ablk id Q .ret ρ h=Q .ret ρ h:=_root_.id rfl
theorem b_exit {id id':Nat} {Q:Post}:ablk id Q (.exit id') ρ h=if id'=id then Q .normal ρ h else Q (.exit id') ρ h:=_root_.id rfl
theorem p_normal {rs:List AR}:apost P rs K .normal ρ h=afin P rs [] K ρ h:=_root_.id rfl
theorem p_ret {rs:List AR}:apost P rs K .ret ρ h=afin P rs [] K ρ h:=_root_.id rfl
theorem f_nil {acc:List AV}:afin P [] acc K ρ h=K (tupOf acc) h:=_root_.id rfl
theorem f_t {n:Nat} {rs:List AR} {acc:List AV}:afin P (.t n::rs) acc K ρ h=afin P rs (acc++[ρ n]) K ρ h:=_root_.id rfl
theorem f_c {n:Nat} {sz:Option Nat} {rs:List AR} {acc:List AV}:afin P (.c n sz::rs) acc K ρ h=ldK sz (ρ n) h (kFin P rs acc K ρ h):=x_ld
--values
theorem e_t {n:Nat}:aev ρ (.t n)=ρ n:=_root_.id rfl
theorem e_c {v:AV}:aev ρ (.c v)=v:=_root_.id rfl
theorem e_f {f:FuncId}:aev ρ (.f f)= .fn f [] []:=_root_.id rfl
theorem u_some {d:Nat} {v:AV}:aput ρ (some d) v=upd ρ d v:=_root_.id rfl
theorem u_none {v:AV}:aput ρ none v=ρ:=_root_.id rfl
theorem u_at {d t:Nat} {v:AV}:upd ρ d v t=if t=d then v else ρ t:=_root_.id rfl
theorem env_at {l:List AV} {t:Nat}:envOf l t=(l[t]?).getD .junk:=_root_.id rfl
--what remains where the values are known
theorem k_v {v:AV}:vK v h K=K v h:=_root_.id rfl
theorem k_pick {t:Bool} {a b:AV}:pickK (.bool t) a b h K=K (if t=true then a else b) h:=_root_.id rfl
theorem k_add {k:IntKind} {a b:Int}:binK .add (.int k a) (.int k b) h K=K (.int k (k.wrap (a+b))) h:=by simp[binK,abinV,abin]
theorem k_sub {k:IntKind} {a b:Int}:binK .sub (.int k a) (.int k b) h K=K (.int k (k.wrap (a-b))) h:=by simp[binK,abinV,abin]
theorem k_mul {k:IntKind} {a b:Int}:binK .mul (.int k a) (.int k b) h K=K (.int k (k.wrap (a*b))) h:=by simp[binK,abinV,abin]
theorem k_quo {k:IntKind} {a b:Int}:binK .quo (.int k a) (.int k b) h K=(b≠0∧K (.int k (k.wrap (a.tdiv b))) h):=by simp[binK,abinV,abin]
theorem k_rem {k:IntKind} {a b:Int}:binK .rem (.int k a) (.int k b) h K=(b≠0∧K (.int k (a.tmod b)) h):=by simp[binK,abinV,abin]
theorem k_and {k:IntKind} {a b:Int}:binK .and (.int k a) (.int k b) h K=K (.int k (bAnd k a b)) h:=by simp[binK,abinV,abin,bAnd]
theorem k_or {k:IntKind} {a b:Int}:binK .or (.int k a) (.int k b) h K=K (.int k (bOr k a b)) h:=by simp[binK,abinV,abin,bOr]
theorem k_xor {k:IntKind} {a b:Int}:binK .xor (.int k a) (.int k b) h K=K (.int k (bXor k a b)) h:=by simp[binK,abinV,abin,bXor]
theorem k_shl {k k':IntKind} {a b:Int}:binK .shl (.int k a) (.int k' b) h K=(0≤b∧K (.int k (bShl k a b.toNat)) h):=by simp[binK,abinV,ashift,bShl]
theorem k_shr {k k':IntKind} {a b:Int}:binK .shr (.int k a) (.int k' b) h K=(0≤b∧K (.int k (bShr k a b.toNat)) h):=by simp[binK,abinV,ashift,bShr]
theorem k_eql {k:IntKind} {a b:Int}:binK .eql (.int k a) (.int k b) h K=K (.bool (a==b)) h:=by simp[binK,abinV,abin]
theorem k_neq {k:IntKind} {a b:Int}:binK .neq (.int k a) (.int k b) h K=K (.bool (a !=b)) h:=by simp[binK,abinV,abin]
theorem k_lss {k:IntKind} {a b:Int}:binK .lss (.int k a) (.int k b) h K=K (.bool (decide (a<b))) h:=by simp[binK,abinV,abin]
theorem k_leq {k:IntKind} {a b:Int}:binK .leq (.int k a) (.int k b) h K=K (.bool (decide (a≤b))) h:=by simp[binK,abinV,abin]
theorem k_gtr {k:IntKind} {a b:Int}:binK .gtr (.int k a) (.int k b) h K=K (.bool (decide (b<a))) h:=by simp[binK,abinV,abin]
theorem k_geq {k:IntKind} {a b:Int}:binK .geq (.int k a) (.int k b) h K=K (.bool (decide (b≤a))) h:=by simp[binK,abinV,abin]
theorem k_beq {ng a b:Bool}:beqK ng (.bool a) (.bool b) h K=K (.bool (if ng then a !=b else a==b)) h:=_root_.id rfl
theorem k_peqn {ng:Bool} {b:Option (Nat×Nat)}:peqK ng (.ptr none) (.ptr b) h K=K (.bool (ng !=b.isNone)) h:=_root_.id rfl
theorem k_peqs {ng:Bool} {b:Nat×Nat}:peqK ng (.ptr (some b)) (.ptr none) h K=K (.bool ng) h:=_root_.id rfl
theorem k_neg {k:IntKind} {n:Int}:unK .neg (.int k n) h K=K (.int k (k.wrap (0-n))) h:=_root_.id rfl
theorem k_not {b:Bool}:unK .not (.bool b) h K=K (.bool (!b)) h:=_root_.id rfl
theorem k_com {k:IntKind} {n:Int}:unK .xor (.int k n) h K=K (.int k (bCom k n)) h:=_root_.id rfl
theorem k_cvI {k k':IntKind} {n:Int}:cvIK k (.int k' n) h K=K (.int k (k.wrap n)) h:=_root_.id rfl
theorem k_idxS {s:ByteArray} {k:IntKind} {n:Int}:idxSK (.str s) (.int k n) h K=(0≤n∧∃b,s[n.toNat]? =some b∧K (.int .u8 b.toNat) h):=_root_.id rfl
theorem k_idxV1 {m z:Nat} {l:List AV} {k:IntKind} {n:Int}:idxVK none m z (.agg l) (.int k n) h K=(0≤n∧n<m∧getK l[n.toNat*z]? h K):=_root_.id rfl
theorem k_idxVn {m z s:Nat} {l:List AV} {k:IntKind} {n:Int}:idxVK (some s) m z (.agg l) (.int k n) h K=(0≤n∧n<m∧n.toNat*z+s≤l.length∧K (.agg ((l.drop (n.toNat*z)).take s)) h):=_root_.id rfl
theorem k_idx {z id off len:Nat} {c:Option Nat} {k:IntKind} {n:Int}:idxK z (.sl (some id) off len c) (.int k n) h K=(0≤n∧n<len∧K (.ptr (some (id,off+n.toNat*z))) h):=_root_.id rfl
theorem k_idxA {m z id off:Nat} {k:IntKind} {n:Int}:idxAK m z (.ptr (some (id,off))) (.int k n) h K=(0≤n∧n<m∧K (.ptr (some (id,off+n.toNat*z))) h):=_root_.id rfl
theorem k_idxG {m z g off:Nat} {k:IntKind} {n:Int}:idxAK m z (.gp g off) (.int k n) h K=(0≤n∧n<m∧K (.gp g (off+n.toNat*z)) h):=_root_.id rfl
theorem k_ldG {g off:Nat}:ldK none (.gp g off) h K=gldK (gcell g off) h K:=_root_.id rfl
theorem k_gld {n:Nat}:gldK (some n) h K=K (.int .u8 n) h:=_root_.id rfl
theorem k_seq {ng:Bool} {a b:ByteArray}:seqK ng (.str a) (.str b) h K=K (.bool (ng !=(a==b))) h:=_root_.id rfl
theorem k_cat {a b:ByteArray}:catK (.str a) (.str b) h K=(a.size+b.size<9223372036854775808∧K (.str (a++b)) h):=_root_.id rfl
theorem k_aeq {ng:Bool} {n:Nat} {l m:List AV}:aeqK ng n (.agg l) (.agg m) h K=(l.length=n∧m.length=n∧eqsK ng (eqs l m) h K):=_root_.id rfl
theorem k_eqs {ng b:Bool}:eqsK ng (some b) h K=K (.bool (ng !=b)) h:=_root_.id rfl
theorem k_fld {off id o:Nat}:fldK off (.ptr (some (id,o))) h K=K (.ptr (some (id,o+off))) h:=_root_.id rfl
theorem k_ld1 {id off:Nat}:ldK none (.ptr (some (id,off))) h K=getK (h.get id off) h K:=_root_.id rfl
theorem k_ldn {id off n:Nat}:ldK (some n) (.ptr (some (id,off))) h K=getsK (h.gets id off n) h K:=_root_.id rfl
theorem k_get {v:AV}:getK (some v) h K=K v h:=_root_.id rfl
theorem k_gets {l:List AV}:getsK (some l) h K=K (.agg l) h:=_root_.id rfl
theorem k_sti {id off:Nat} {k:IntKind} {x:Int}:stK 1 (.ptr (some (id,off))) (.int k x) h K=putK (h.rows id) id off 1 [.int k x] h K:=by simp[stK,AV.held,AV.cells,AV.one]
theorem k_stb {id off:Nat} {b:Bool}:stK 1 (.ptr (some (id,off))) (.bool b) h K=putK (h.rows id) id off 1 [.bool b] h K:=by simp[stK,AV.held,AV.cells,AV.one]
theorem k_stp {id off:Nat} {p:Option (Nat×Nat)}:stK 1 (.ptr (some (id,off))) (.ptr p) h K=putK (h.rows id) id off 1 [.ptr p] h K:=by simp[stK,AV.held,AV.cells,AV.one]
theorem k_sts {id off:Nat} {i c:Option Nat} {o n:Nat}:stK 1 (.ptr (some (id,off))) (.sl i o n c) h K=putK (h.rows id) id off 1 [.sl i o n c] h K:=by simp[stK,AV.held,AV.cells,AV.one]
theorem k_stf {id off:Nat} {f:FuncId} {a b:List AV}:stK 1 (.ptr (some (id,off))) (.fn f a b) h K=putK (h.rows id) id off 1 [.fn f a b] h K:=by simp[stK,AV.held,AV.cells,AV.one]
theorem k_sta {n id off:Nat} {l:List AV}:stK n (.ptr (some (id,off))) (.agg l) h K=(l.length=n∧l.all (·.one)=true∧putK (h.rows id) id off n l h K):=by simp[stK,AV.held,AV.cells]
theorem k_put {r:Row} {id off n:Nat} {l:List AV}:putK (some r) id off n l h K=(r.own≠none∧off+n≤r.cells.length∧K .junk (h.set id {r with cells:=putAt r.cells off l})):=_root_.id rfl
theorem k_nn {p:Nat×Nat}:nnK (.ptr (some p)) h K=K (.ptr (some p)) h:=_root_.id rfl
theorem k_prt1 {off:Nat} {l:List AV}:prtK none off (.agg l) h K=getK l[off]? h K:=_root_.id rfl
theorem k_prtn {off n:Nat} {l:List AV}:prtK (some n) off (.agg l) h K=(off+n≤l.length∧K (.agg ((l.drop off).take n)) h):=_root_.id rfl
theorem k_slc_a {z:Nat} {id cap:Option Nat} {off len:Nat} {k:IntKind} {n:Int}:slcK z (.sl id off len cap) none (some (.int k n)) h K=(0≤n∧(n.toNat≤len∨∃c,cap=some c∧n.toNat≤c)∧(∀i,id=some i→∃r,h.rows i=some r∧(r.own=none∨r.esz=z))∧K (.sl id off n.toNat cap) h):=by
 simp[slcK,natK]
theorem k_slc_b {z:Nat} {id cap:Option Nat} {off len:Nat} {k:IntKind} {n:Int}:slcK z (.sl id off len cap) (some (.int k n)) none h K=(0≤n∧n.toNat≤len∧(∀i,id=some i→∃r,h.rows i=some r∧(r.own=none∨r.esz=z))∧K (.sl id (off+n.toNat*z) (len-n.toNat) (cap.map (· -n.toNat))) h):=by
 simp[slcK,natK]
theorem k_slc_c {z:Nat} {id cap:Option Nat} {off len:Nat} {k k':IntKind} {m n:Int}:slcK z (.sl id off len cap) (some (.int k m)) (some (.int k' n)) h K=(0≤n∧0≤m∧m.toNat≤n.toNat∧(n.toNat≤len∨∃c,cap=some c∧n.toNat≤c)∧(∀i,id=some i→∃r,h.rows i=some r∧(r.own=none∨r.esz=z))∧K (.sl id (off+m.toNat*z) (n.toNat-m.toNat) (cap.map (· -m.toNat))) h):=rfl
theorem k_mk {e:TypeId} {z b:Nat} {zr:List AV} {k k':IntKind} {l c:Int}:mkK e z b zr (.int k l) (.int k' c) h K=(0≤l∧l≤c∧b*c≤140737488355328∧K (.sl (some h.next) 0 l.toNat (some c.toNat)) (h.new ⟨some e,z,zs zr c.toNat⟩)):=_root_.id rfl
theorem k_agg {l:List AV}:aggK (some l) h K=K (.agg l) h:=_root_.id rfl
theorem k_bsl {l:List AV} {e:TypeId} {z n:Nat}:bslK (some l) e z n h K=K (.sl (some h.next) 0 n (some n)) (h.new ⟨some e,z,l⟩):=_root_.id rfl
theorem k_box {e:TypeId} {x:AV}:boxK e x h K=(x.held=true∧K (.ptr (some (h.next,0))) (h.new ⟨some e,x.cells.length,x.cells⟩)):=_root_.id rfl
theorem k_len {id c:Option Nat} {off n:Nat}:lenK false (.sl id off n c) h K=K (.int .i64 n) h:=_root_.id rfl
theorem k_lenS {s:ByteArray}:lenK true (.str s) h K=K (.int .i64 s.size) h:=_root_.id rfl
theorem k_cap {id:Option Nat} {off n c:Nat}:capoK (.sl id off n (some c)) h K=K (.int .i64 c) h:=_root_.id rfl
theorem k_max {k:IntKind} {a b:Int}:mnxK true (.int k a) [.int k b] h K=K (.int k (max a b)) h:=by simp[mnxK,mnxs]
theorem k_min {k:IntKind} {a b:Int}:mnxK false (.int k a) [.int k b] h K=K (.int k (min a b)) h:=by simp[mnxK,mnxs]
theorem k_ext {l:List AV} {i:Nat}:extK (.tup l) i h K=getK l[i]? h K:=_root_.id rfl
theorem k_callV {f:FuncId} {a b asx:List AV}:callVK P (.fn f a b) asx h K=ACalls P f (a++asx++b) h K:=_root_.id rfl
theorem k_true {X Y:Env→H→Prop}:condK (.bool true) X Y ρ h=X ρ h:=by simp[condK]
theorem k_false {X Y:Env→H→Prop}:condK (.bool false) X Y ρ h=Y ρ h:=by simp[condK]
theorem k_gtt {o:AOp}:grdK P (.bool true) true o ρ h K=aexec P o ρ h K:=_root_.id rfl
theorem k_gtf {o:AOp}:grdK P (.bool true) false o ρ h K=K (.tup []) h:=_root_.id rfl
theorem k_gft {o:AOp}:grdK P (.bool false) true o ρ h K=K (.tup []) h:=_root_.id rfl
theorem k_gsk {b:Bool} {o:AOp}:grdK P (.tup []) b o ρ h K=K (.tup []) h:=_root_.id rfl
theorem k_gff {o:AOp}:grdK P (.bool false) false o ρ h K=aexec P o ρ h K:=_root_.id rfl
theorem k_ops {os:List AOper} {Q:Env→H→Prop} {d:Option Nat} {v:AV}:kOps P os Q ρ d v h=aops P os Q (aput ρ d v) h:=_root_.id rfl
theorem k_chk {cs:List (Option Nat×Option (Nat×Bool)×AOp)} {os:List AOper} {Q:Env→H→Prop} {d:Option Nat} {v:AV}:kChk P cs os Q ρ d v h=(achks P ρ h cs∧aops P os Q (aput ρ d v) h):=_root_.id rfl
theorem k_fin {rs:List AR} {acc:List AV} {h0:H} {v:AV}:kFin P rs acc K ρ h0 v h=afin P rs (acc++[v]) K ρ h0:=_root_.id rfl
theorem k_c0:achks P ρ h []=True:=_root_.id rfl
theorem k_c1 {c:Option Nat×Option (Nat×Bool)×AOp} {cs:List (Option Nat×Option (Nat×Bool)×AOp)}:achks P ρ h (c::cs)=(achk P ρ h c∧achks P ρ h cs):=_root_.id rfl
theorem k_ck {d:Nat} {g:Option (Nat×Bool)} {o:AOp}:achk P ρ h (some d,g,o)=astep P g o ρ h (fun v _=>v=ρ d):=by
 unfold achk
 simp
theorem k_lit1i {z:AV} {k:IntKind} {a:Int}:abuild (zs [z] 1) [(0,1, .int k a)]=some [.int k a]:=_root_.id rfl
theorem k_lit2i {z:AV} {k:IntKind} {a b:Int}:abuild (zs [z] 2) [(0,1, .int k a),(1,1, .int k b)]=some [.int k a, .int k b]:=_root_.id rfl
theorem k_lit3i {z:AV} {k:IntKind} {a b c:Int}:abuild (zs [z] 3) [(0,1, .int k a),(1,1, .int k b),(2,1, .int k c)]=some [.int k a, .int k b, .int k c]:=_root_.id rfl
def onN (M:Env→H→Prop) (Q:Post):Post
 | .normal,ρ,h=>M ρ h
 |e,ρ,h=>Q e ρ h
theorem n_normal {M:Env→H→Prop} {Q:Post}:onN M Q .normal ρ h=M ρ h:=_root_.id rfl
theorem n_exit {M:Env→H→Prop} {Q:Post} {id:Nat}:onN M Q (.exit id) ρ h=Q (.exit id) ρ h:=_root_.id rfl
theorem n_ret {M:Env→H→Prop} {Q:Post}:onN M Q .ret ρ h=Q .ret ρ h:=_root_.id rfl
theorem cond_split {t:Bool} {X Y:Env→H→Prop} (h1:t=true→X ρ h) (h2:t=false→Y ρ h):condK (.bool t) X Y ρ h:=⟨h1,h2⟩
end
end
def H.wf (h:H):Prop:=∀i,h.next≤i→h.rows i=none
theorem Rep.wf {base:Nat} {w0 w:World} {μ:Mu} {h:H} (R:Rep base w0 μ w h):h.wf:=fun _ hi=>R.row_free hi
theorem acalls_wf {P:Program} (hm:P.follows .mixedOrders=true) {f:FuncId} {fn:Func} {c:Code} {ac:AC} {rs:List AR} {avs:List AV} {h:H} {K:AV→H→Prop} (hf:P.funcs[f]? =some fn) (hb:fn.body=some c) (hname:(fn.name== "runtime.NumGoroutine")=false)
  (hc:compile P fn.ntmps c=some ac) (hrs:compRes P fn.ntmps fn.results.toList=some rs) (hlen:avs.length≤fn.ntmps) (hx:h.wf→awp P ac (apost P rs (fun r h'=>h'.wf→K r h')) (envOf avs) h):ACalls P f avs h K:=by
 intro base w0 μ w vs R hr
 rcases acalls_of hm hf hb hname hc hrs hlen (hx R.wf) base w0 μ w vs R hr with⟨h1,h2⟩|⟨v,h1,μ',r,h',q1,q2,q3,q4⟩
 ·refine .inl ⟨h1,h2.mono ?_⟩
  rintro e w' ⟨v,rfl,μ',r,h',q1,q2,q3,q4⟩
  exact⟨v,rfl,μ',r,h',q1,q2,q3,q4 q3.wf⟩
 ·exact .inr ⟨v,h1,μ',r,h',q1,q2,q3,q4 q3.wf⟩
def H.le (h h':H):Prop:=h.next≤h'.next∧∀i r,h.rows i=some r→h'.rows i=some r
theorem H.le_refl (h:H):h.le h:=⟨Nat.le_refl _,fun _ _ e=>e⟩
theorem H.le_trans {a b c:H} (h:a.le b) (k:b.le c):a.le c:=⟨Nat.le_trans h.1 k.1,fun i r e=>k.2 i r (h.2 i r e)⟩
theorem H.row_lt {h:H} (hw:h.wf) {i:Nat} {r:Row} (e:h.rows i=some r):i<h.next:=by
 rcases Nat.lt_or_ge i h.next with hl|hl
 ·exact hl
 ·rw[hw i hl] at e;cases e
theorem H.le_new {a h:H} (hw:h.wf) (k:a.le h) (r:Row):a.le (h.new r):=⟨Nat.le_trans k.1 (Nat.le_succ _),fun i q e=>by
 have e2:=k.2 i q e
 have:=H.row_lt hw e2
 simp only[H.new]
 rw[if_neg (by omega)]
 exact e2⟩
theorem H.le_del {a h:H} (hw:a.wf) (k:a.le h) {i:Nat} (hi:a.next≤i):a.le (h.del (some i)):=⟨k.1,fun j q e=>by
 have:=H.row_lt hw e
 simp only[H.del]
 rw[if_neg (by intro x;injection x;omega)]
 exact k.2 j q e⟩
theorem H.le_set {a h:H} (hw:a.wf) (k:a.le h) {i:Nat} (hi:a.next≤i) (r:Row):a.le (h.set i r):=⟨k.1,fun j q e=>by
 have:=H.row_lt hw e
 simp only[H.set]
 rw[if_neg (by omega)]
 exact k.2 j q e⟩
theorem H.wf_new {h:H} (hw:h.wf) (r:Row):(h.new r).wf:=fun i hi=>by
 simp only[H.new] at hi⊢
 rw[if_neg (by omega)]
 exact hw i (by omega)
theorem H.wf_del {h:H} (hw:h.wf) (o:Option Nat):(h.del o).wf:=fun i hi=>by
 simp only[H.del] at hi⊢
 split
 ·rfl
 ·exact hw i hi
theorem H.wf_set {h:H} (hw:h.wf) {i:Nat} (hi:i<h.next) (r:Row):(h.set i r).wf:=fun j hj=>by
 simp only[H.set] at hj⊢
 rw[if_neg (by omega)]
 exact hw j hj
theorem H.rows_new (h:H) (r:Row):(h.new r).rows h.next=some r:=by simp[H.new]
theorem H.rows_new_ne {h:H} {r:Row} {i:Nat} (hi:i≠h.next):(h.new r).rows i=h.rows i:=by
 show(if i=h.next then some r else h.rows i)=_
 rw[if_neg hi]
theorem H.rows_set (h:H) (i:Nat) (r:Row):(h.set i r).rows i=some r:=by simp[H.set]
theorem H.rows_set_ne {h:H} {r:Row} {i j:Nat} (hi:j≠i):(h.set i r).rows j=h.rows j:=by
 show(if j=i then some r else h.rows j)=_
 rw[if_neg hi]
theorem H.rows_del_ne {h:H} {i j:Nat} (hi:j≠i):(h.del (some i)).rows j=h.rows j:=by
 show(if some j=some i then none else h.rows j)=_
 rw[if_neg (by intro x;injection x with x;exact hi x)]
theorem H.next_new (h:H) (r:Row):(h.new r).next=h.next+1:=rfl
theorem H.next_del (h:H) (o:Option Nat):(h.del o).next=h.next:=rfl
def W (k:IntKind) (xs:List Int):List AV:=xs.map (AV.int k)
theorem W_length (k:IntKind) (xs:List Int):(W k xs).length=xs.length:=by simp[W]
theorem W_one (k:IntKind) (xs:List Int):(W k xs).all (·.one)=true:=by simp[W,AV.one]
theorem W_get {k:IntKind} {xs:List Int} {i:Nat}:(W k xs)[i]? =(xs[i]?).map (AV.int k):=by simp[W]
theorem W_all (k:IntKind) (xs:List Int):(W k xs).take xs.length=W k xs:=List.take_of_length_le (by simp[W])
theorem W_append (k:IntKind) (xs ys:List Int):W k (xs++ys)=W k xs++W k ys:=by simp[W]
theorem W_take (k:IntKind) (xs:List Int) (n:Nat):(W k xs).take n=W k (xs.take n):=by simp[W,List.map_take]
theorem W_drop (k:IntKind) (xs:List Int) (n:Nat):(W k xs).drop n=W k (xs.drop n):=by simp[W,List.map_drop]
def IsW (k:IntKind) (h:H) (v:AV) (xs:List Int):Prop:=
 ∃id off c,v= .sl id off xs.length c∧((id=none∧xs=[]∧off=0)∨∃i r,id=some i∧h.rows i=some r∧(r.own=none∨r.esz=1)∧off+xs.length≤r.cells.length∧(r.cells.drop off).take xs.length=W k xs)
def IsF (t:TypeId) (k:IntKind) (b:Nat) (h:H) (v:AV) (xs:List Int):Prop:=
 ∃id c,v= .sl id 0 xs.length c∧((id=none∧xs=[])∨∃i r,id=some i∧b≤i∧h.rows i=some r∧r.own=some t∧r.esz=1∧xs.length≤r.cells.length∧r.cells.take xs.length=W k xs)
theorem IsF.isW {t:TypeId} {k:IntKind} {b:Nat} {h:H} {v:AV} {xs:List Int} (hv:IsF t k b h v xs):IsW k h v xs:=by
 obtain⟨id,c,rfl,h1⟩:=hv
 refine⟨id,0,c,rfl, ?_⟩
 rcases h1 with⟨rfl,rfl⟩|⟨i,r,rfl,_,hr,_,he,hl,ht⟩
 ·exact .inl ⟨rfl,rfl,rfl⟩
 ·exact .inr ⟨i,r,rfl,hr, .inr he,by omega,by simpa using ht⟩
theorem IsW.mono {k:IntKind} {h h':H} {v:AV} {xs:List Int} (hv:IsW k h v xs) (hl:h.le h'):IsW k h' v xs:=by
 obtain⟨id,off,c,rfl,h1⟩:=hv
 refine⟨id,off,c,rfl, ?_⟩
 rcases h1 with h1|⟨i,r,rfl,hr,h2⟩
 ·exact .inl h1
 ·exact .inr ⟨i,r,rfl,hl.2 i r hr,h2⟩
theorem IsF.mono {t:TypeId} {k:IntKind} {b:Nat} {h h':H} {v:AV} {xs:List Int} (hv:IsF t k b h v xs) (hl:h.le h'):IsF t k b h' v xs:=by
 obtain⟨id,c,rfl,h1⟩:=hv
 refine⟨id,c,rfl, ?_⟩
 rcases h1 with h1|⟨i,r,rfl,hb,hr,h2⟩
 ·exact .inl h1
 ·exact .inr ⟨i,r,rfl,hb,hl.2 i r hr,h2⟩
theorem IsF.base {t:TypeId} {k:IntKind} {b b':Nat} {h:H} {v:AV} {xs:List Int} (hv:IsF t k b h v xs) (hb:b'≤b):IsF t k b' h v xs:=by
 obtain⟨id,c,rfl,h1⟩:=hv
 refine⟨id,c,rfl, ?_⟩
 rcases h1 with h1|⟨i,r,rfl,hb',h2⟩
 ·exact .inl h1
 ·exact .inr ⟨i,r,rfl,by omega,h2⟩
theorem IsF.nil (t:TypeId) (k:IntKind) (b:Nat) (h:H) (c:Option Nat):IsF t k b h (.sl none 0 0 c) []:=⟨none,c,rfl, .inl ⟨rfl,rfl⟩⟩
theorem IsW.nil (k:IntKind) (h:H) (c:Option Nat):IsW k h (.sl none 0 0 c) []:=⟨none,0,c,rfl, .inl ⟨rfl,rfl,rfl⟩⟩
theorem IsW.at {k:IntKind} {h:H} {id:Option Nat} {off n:Nat} {c:Option Nat} {xs:List Int} (hv:IsW k h (.sl id off n c) xs) {j:Nat} (hj:j<xs.length):∃i,id=some i∧n=xs.length∧h.get i (off+j)=some (.int k xs[j]):=by
 obtain⟨id',off',c',e,h1⟩:=hv
 injection e with e1 e2 e3 e4
 subst e1;subst e2;subst e3;subst e4
 rcases h1 with⟨_,rfl,_⟩|⟨i,r,rfl,hr,_,hl,ht⟩
 ·simp at hj
 ·refine⟨i,rfl,rfl, ?_⟩
  have h2:((r.cells.drop off).take xs.length)[j]? =(W k xs)[j]? :=by rw[ht]
  rw[List.getElem?_take,if_pos hj,List.getElem?_drop,W_get,List.getElem?_eq_getElem hj] at h2
  simp[H.get,hr,h2]
theorem IsW.form {k:IntKind} {h:H} {v:AV} {xs:List Int} (hv:IsW k h v xs):∃id off c,v= .sl id off xs.length c:=by
 obtain⟨id',off',c',e,h1⟩:=hv
 exact⟨_,_,_,e⟩
theorem IsW.row {k:IntKind} {h:H} {id:Option Nat} {off n:Nat} {c:Option Nat} {xs:List Int} (hv:IsW k h (.sl id off n c) xs):∀i,id=some i→∃r,h.rows i=some r∧(r.own=none∨r.esz=1):=by
 obtain⟨id',off',c',e,h1⟩:=hv
 injection e with e1 e2 e3 e4
 subst e1
 rintro i rfl
 rcases h1 with⟨h0,_,_⟩|⟨i',r,h0,hr,he,_⟩
 ·cases h0
 ·injection h0 with h0
  subst h0
  exact⟨r,hr,he⟩
theorem IsW.cut {k:IntKind} {h:H} {id:Option Nat} {off n:Nat} {c c':Option Nat} {xs:List Int} (hv:IsW k h (.sl id off n c) xs) {a b:Nat} (hab:a≤b) (hb:b≤xs.length):IsW k h (.sl id (off+a) (b-a) c') ((xs.take b).drop a):=by
 obtain⟨id',off',c2,e,h1⟩:=hv
 injection e with e1 e2 e3 e4
 subst e1;subst e2;subst e3
 have hl:((xs.take b).drop a).length=b-a:=by simp;omega
 refine⟨id,off+a,c',by rw[hl], ?_⟩
 rcases h1 with⟨rfl,rfl,rfl⟩|⟨i,r,rfl,hr,he,hfit,ht⟩
 ·simp at hb
  subst hb
  have:a=0:=by omega
  subst this
  exact .inl ⟨rfl,by simp,rfl⟩
 ·refine .inr ⟨i,r,rfl,hr,he,by rw[hl];omega, ?_⟩
  rw[hl,←W_drop,←W_take,←ht,List.take_take,Nat.min_eq_left hb,List.drop_take,List.drop_drop]
theorem IsF.cut {t:TypeId} {k:IntKind} {b:Nat} {h:H} {id:Option Nat} {n:Nat} {c c':Option Nat} {xs:List Int} (hv:IsF t k b h (.sl id 0 n c) xs) {m:Nat} (hm:m≤xs.length):IsF t k b h (.sl id 0 m c') (xs.take m):=by
 obtain⟨id',c2,e,h1⟩:=hv
 injection e with e1 e2 e3 e4
 subst e1;subst e3
 have hl:(xs.take m).length=m:=by simp;omega
 refine⟨id,c',by rw[hl], ?_⟩
 rcases h1 with⟨rfl,rfl⟩|⟨i,r,rfl,hbi,hr,ho,he,hfit,ht⟩
 ·exact .inl ⟨rfl,by simp⟩
 ·refine .inr ⟨i,r,rfl,hbi,hr,ho,he,by rw[hl];omega, ?_⟩
  rw[hl,←W_take,←ht,List.take_take,Nat.min_eq_left hm]
theorem IsF.made {t:TypeId} {k:IntKind} {b:Nat} {h:H} (hb:b≤h.next) (n:Nat):IsF t k b (h.new ⟨some t,1,zs [AV.int k 0] n⟩) (.sl (some h.next) 0 n (some n)) (List.replicate n 0):=by
 refine⟨some h.next,some n,by simp, .inr ⟨h.next,_,rfl,hb,H.rows_new _ _,rfl,rfl,by simp[zs_length], ?_⟩⟩
 simp[zs,W]
theorem IsF.made0 {t:TypeId} {k:IntKind} {b:Nat} {h:H} (hb:b≤h.next) (n:Nat):IsF t k b (h.new ⟨some t,1,zs [AV.int k 0] n⟩) (.sl (some h.next) 0 0 (some n)) []:=
 ⟨some h.next,some n,by simp, .inr ⟨h.next,_,rfl,hb,H.rows_new _ _,rfl,rfl,by simp,by simp[W]⟩⟩
theorem app_own {t:TypeId} {k:IntKind} {b:Nat} {h:H} {K:AV→H→Prop} {s x:AV} {xs ys:List Int} {by_:Nat} (hw:h.wf) (hs:IsF t k b h s xs) (hx:IsW k h x ys) (hb:b≤h.next) (hl:(xs.length+ys.length)*by_≤140737488355328) (hl2:xs.length+ys.length≤140737488355328)
  (hk:∀v h',h'.wf→IsF t k b h' v (xs++ys)→h.next≤h'.next→(∀i r,i<b→h.rows i=some r→h'.rows i=some r)→K v h'):appK t 1 by_ s x h K:=by
 have hs0:=hs
 obtain⟨ids,cs,rfl,hs⟩:=hs
 obtain⟨idx,offx,cx,rfl,hx⟩:=hx
 simp only[appK]
 refine⟨fun h0=> ?_,fun h0=> ?_⟩
 ·have:ys=[]:=List.eq_nil_of_length_eq_zero h0
  subst this
  exact hk _ _ hw (by simpa using hs0) (Nat.le_refl _) (fun i r _ e=>e)
 ·rcases hx with⟨_,rfl,_⟩|⟨j,r,rfl,hr,_,hfit,ht⟩
  ·simp at h0
  ·refine⟨j,r,rfl,hr,by simpa using hfit,by rw[Nat.mul_one,ht];exact W_one _ _,hl,hl2, ?_⟩
   rw[Nat.mul_one,Nat.mul_one,ht]
   rcases hs with⟨rfl,rfl⟩|⟨i,q,rfl,hbi,hq,ho,he,hf2,ht2⟩
   ·refine .inl ⟨by simp,by simp,hk _ _ (H.wf_new hw _) ?_ (by simp[H.new]) (fun i q hi e=> ?_)⟩
    ·exact⟨some h.next,none,by simp, .inr ⟨h.next,_,rfl,hb,H.rows_new _ _,rfl,rfl,by simp[W_length],by simp only[List.nil_append];exact W_all k ys⟩⟩
    ·rw[H.rows_new_ne (by omega)];exact e
   ·refine .inr ⟨i,q,rfl,hq,ho,he,by simp,hf2,hk _ _ (H.wf_new (H.wf_del hw _) _) ?_ (by rw[H.next_new,H.next_del];omega) (fun j' q' hj e=> ?_)⟩
    ·refine⟨some h.next,none,by simp, .inr ⟨h.next,_,rfl,hb,H.rows_new _ _,rfl,rfl, ?_, ?_⟩⟩
     ·simp only[List.length_append,ht2,W_length];omega
     ·rw[ht2,W_append]
      exact List.take_of_length_le (by simp[W_length])
    ·rw[H.rows_new_ne (by rw[H.next_del];omega),H.rows_del_ne (by omega)]
     exact e
theorem IsW.lit {t:TypeId} {k:IntKind} {h:H} (xs:List Int):IsW k (h.new ⟨some t,1,W k xs⟩) (.sl (some h.next) 0 xs.length (some xs.length)) xs:=
 ⟨some h.next,0,some xs.length,rfl, .inr ⟨h.next,_,rfl,H.rows_new _ _, .inr rfl,by simp[W_length],by simp only[List.drop_zero];exact W_all k xs⟩⟩
theorem IsF.put {t:TypeId} {k:IntKind} {b:Nat} {h:H} {id:Option Nat} {n:Nat} {c:Option Nat} {xs:List Int} (hw:h.wf) (hv:IsF t k b h (.sl id 0 n c) xs) {j:Nat} (hj:j<xs.length):∃i r,id=some i∧b≤i∧i<h.next∧h.rows i=some r∧r.own≠none∧j+1≤r.cells.length∧
  ∀x,IsF t k b (h.set i {r with cells:=putAt r.cells j [AV.int k x]}) (.sl id 0 n c) (xs.set j x):=by
 obtain⟨id',c2,e,h1⟩:=hv
 injection e with e1 e2 e3 e4
 subst e1;subst e3;subst e4
 rcases h1 with⟨_,rfl⟩|⟨i,r,rfl,hbi,hr,ho,he,hfit,ht⟩
 ·simp at hj
 ·refine⟨i,r,rfl,hbi,H.row_lt hw hr,hr,by rw[ho];simp,by omega,fun x=> ?_⟩
  refine⟨some i,c,by simp, .inr ⟨i,_,rfl,hbi,H.rows_set _ _ _,ho,he, ?_, ?_⟩⟩
  ·simp only[List.length_set]
   rw[putAt_length (by simp;omega)]
   exact hfit
  ·simp only[List.length_set]
   apply List.ext_getElem?
   intro m
   have h2:(r.cells.take xs.length)[m]? =(W k xs)[m]? :=by rw[ht]
   rw[List.getElem?_take] at h2⊢
   by_cases hm:m<xs.length
   ·rw[if_pos hm] at h2⊢
    unfold putAt
    rw[W_get,List.getElem?_set]
    by_cases e1:m=j
    ·subst e1
     have hmin:min m r.cells.length=m:=by omega
     rw[List.append_assoc,List.getElem?_append_right (by simp;omega)]
     simp[hm,hmin]
    ·rw[if_neg (Ne.symm e1)]
     rcases Nat.lt_or_ge m j with h3|h3
     ·rw[List.append_assoc,List.getElem?_append_left (by simp;omega),List.getElem?_take,if_pos h3,h2,W_get]
     ·rw[List.getElem?_append_right (by simp;omega),List.getElem?_drop]
      simp only[List.length_append,List.length_take,List.length_cons,List.length_nil]
      rw[show j+(0+1)+(m-(min j r.cells.length+(0+1)))=m from by omega,h2,W_get]
   ·rw[if_neg hm,W_get,List.getElem?_eq_none (by simp;omega)]
    rfl
theorem aops_mono {P:Program}:∀{os:List AOper} {Q Q':Env→H→Prop} {ρ:Env} {h:H},(∀ρ h,Q ρ h→Q' ρ h)→aops P os Q ρ h→aops P os Q' ρ h
 |[],_,_,_,_,hq,hx=>hq _ _ hx
 |o::os,Q,Q',ρ,h,hq,hx=>by
  simp only[aops] at hx⊢
  exact astep_mono (fun v h' hh=>⟨hh.1,aops_mono hq hh.2⟩) hx
theorem atP_mono {P:Program} {Q Q':Env→H→Prop} (hq:∀ρ h,Q ρ h→Q' ρ h):∀{t:AT} {ρ:Env} {h:H},atP P Q t ρ h→atP P Q' t ρ h
 | .fin,_,_,hx=>hq _ _ hx
 | .no,_,_,_=>trivial
 | .alt x ns t r,ρ,h,hx=>⟨aops_mono (fun ρ h hh=>atP_mono hq hh) hx.1,atP_mono hq hx.2⟩
theorem awp_mono {P:Program}:∀{c:AC} {Q Q':Post} {ρ:Env} {h:H},(∀e ρ h,Q e ρ h→Q' e ρ h)→awp P c Q ρ h→awp P c Q' ρ h:=by
 intro c
 induction c with
 |skip=>intro Q Q' ρ h hq hx;exact hq _ _ _ hx
 |reg os=>intro Q Q' ρ h hq hx;exact aops_mono (fun ρ h=>hq .normal ρ h) hx
 |regt os t=>intro Q Q' ρ h hq hx;exact aops_mono (fun ρ h hh=>atP_mono (fun ρ h=>hq .normal ρ h) hh) hx
 |seq a b iha ihb=>
  intro Q Q' ρ h hq hx
  refine iha (fun e ρ h hh=> ?_) hx
  cases e<;>first|exact ihb hq hh|exact hq _ _ _ hh
 |cond c x y ihx ihy=>
  rintro Q Q' ρ h hq ⟨t,ht,h1,h2⟩
  exact⟨t,ht,fun e=>ihx hq (h1 e),fun e=>ihy hq (h2 e)⟩
 |block id c ih=>
  intro Q Q' ρ h hq hx
  refine ih (fun e ρ h hh=> ?_) hx
  cases e with
  |exit id'=>
   simp only[ablk] at hh⊢
   split
   ·rename_i hi;rw[if_pos hi] at hh;exact hq _ _ _ hh
   ·rename_i hi;rw[if_neg hi] at hh;exact hq _ _ _ hh
  |_=>exact hq _ _ _ hh
 |loop c ih=>
  rintro Q Q' ρ h hq ⟨I,n,h0,hI⟩
  refine⟨I,n,h0,fun n ρ h hh=>ih (fun e ρ h he=> ?_) (hI n ρ h hh)⟩
  cases e<;>first|exact he|exact hq _ _ _ he
 |exit id=>intro Q Q' ρ h hq hx;exact hq _ _ _ hx
 |ret=>intro Q Q' ρ h hq hx;exact hq _ _ _ hx
theorem awp_cut {P:Program} {c:AC} {next:Env→H→Prop} {Q:Post} {ρ:Env} {h:H} (M:Env→H→Prop) (h1:awp P c (onN M Q) ρ h) (h2:∀ρ h,M ρ h→next ρ h):awp P c (athen next Q) ρ h:=by
 refine awp_mono (fun e ρ h hh=> ?_) h1
 cases e<;>first|exact h2 _ _ hh|exact hh
theorem loop_cut {P:Program} {c:AC} {id:Nat} {next:Env→H→Prop} {Q:Post} {ρ:Env} {h:H} (M:Env→H→Prop) (h1:awp P (.loop c) (ablk id (onN M Q)) ρ h) (h2:∀ρ h,M ρ h→next ρ h):awp P (.loop c) (ablk id (athen next Q)) ρ h:=by
 refine awp_mono (fun e ρ h hh=> ?_) h1
 cases e with
 |exit id'=>
  simp only[ablk] at hh⊢
  split
  ·rename_i hi;rw[if_pos hi] at hh;exact h2 _ _ hh
  ·rename_i hi;rw[if_neg hi] at hh;exact hh
 |normal=>exact h2 _ _ hh
 |_=>exact hh
theorem cond_cut {P:Program} {x y:AC} {v:AV} {next:Env→H→Prop} {Q:Post} {ρ:Env} {h:H} (M:Env→H→Prop) (h1:condK v (awp P x (onN M Q)) (awp P y (onN M Q)) ρ h) (h2:∀ρ h,M ρ h→next ρ h):condK v (awp P x (athen next Q)) (awp P y (athen next Q)) ρ h:=by
 cases v<;>try exact h1
 exact⟨fun e=>awp_cut M (h1.1 e) h2,fun e=>awp_cut M (h1.2 e) h2⟩
section
open Go
theorem mix:Try.prog.follows .mixedOrders=true:=by kernel_rfl
abbrev Ent (f n:Nat) (c:AC) (rs:List AR):Prop:=∀{avs:List AV} {h:H} {K:AV→H→Prop},avs.length≤n→(h.wf→awp Try.prog c (apost Try.prog rs (fun r h'=>h'.wf→K r h')) (envOf avs) h)→ACalls Try.prog f avs h K
theorem ent {f n:Nat} {c:AC} {rs:List AR} {fn:Func} {b:Code} (hf:Try.prog.funcs[f]? =some fn) (hb:fn.body=some b) (hname:(fn.name== "runtime.NumGoroutine")=false) (hn:fn.ntmps=n) (hc:compile Try.prog n b=some c) (hrs:compRes Try.prog n fn.results.toList=some rs):Ent f n c rs:=by
 subst hn
 intro avs h K hl hx
 exact acalls_wf mix hf hb hname hc hrs hl hx
def s_bits_Len64_0:ByteArray:=⟨#[0,1,2,2,3,3,3,3,4,4,4,4,4,4,4,4,5,5,5,5,5,5,5,5,5,5,5,5,5,5,5,5,6,6,6,6,6,6,6,6,6,6,6,6,6,6,6,6,6,6,6,6,6,6,6,6,6,6,6,6,6,6,6,6,7,7,7,7,7,7,7,7,7,7,7,7,7,7,7,7,7,7,7,7,7,7,7,7,7,7,7,7,7,7,7,7,7,7,7,7,7,7,7,7,7,7,7,7,7,7,7,7,7,7,7,7,7,7,7,7,7,7,7,7,7,7,7,7,8,8,8,8,8,8,8,8,8,8,8,8,8,8,8,8,8,8,8,8,8,8,8,8,8,8,8,8,8,8,8,8,8,8,8,8,8,8,8,8,8,8,8,8,8,8,8,8,8,8,8,8,8,8,8,8,8,8,8,8,8,8,8,8,8,8,8,8,8,8,8,8,8,8,8,8,8,8,8,8,8,8,8,8,8,8,8,8,8,8,8,8,8,8,8,8,8,8,8,8,8,8,8,8,8,8,8,8,8,8,8,8,8,8,8,8,8,8,8,8,8,8,8,8,8,8,8,8]⟩
def c_bits_Len64:AC:= .seq (.reg [o 2 (.mv (i64 0))]) (.seq (.seq (.reg [mv 3 0,o 4 (.bin .geq (.t 3) (u64 4294967296))]) (.cond (.t 4) (.seq (.reg [mv 5 0,o 6 (.bin .shr (.t 5) (u64 32)),mv 0 6]) (.reg [o 2 (.mv (i64 32))])) .skip)) (.seq (.seq (.reg [mv 7 0,o 8 (.bin .geq (.t 7) (u64 65536))]) (.cond (.t 8) (.seq (.reg [mv 9 0,o 10 (.bin .shr (.t 9) (u64 16)),mv 0 10]) (.reg [mv 11 2,o 12 (.bin .add (.t 11) (i64 16)),mv 2 12])) .skip)) (.seq (.seq (.reg [mv 13 0,o 14 (.bin .geq (.t 13) (u64 256))]) (.cond (.t 14) (.seq (.reg [mv 15 0,o 16 (.bin .shr (.t 15) (u64 8)),mv 0 16]) (.reg [mv 17 2,o 18 (.bin .add (.t 17) (i64 8)),mv 2 18])) .skip)) (.seq (.reg [mv 19 2,mv 20 0,o 21 (.cvI .u8 (.t 20)),o 22 (.idxS (.c (.str s_bits_Len64_0)) (.t 21)),o 23 (.cvI .i64 (.t 22)),bn 24 .add 19 23,mv 2 24]) .ret))))
theorem in_bits_Len64:Ent 78 25 c_bits_Len64 [.t 2]:=ent Try.func78 rfl rfl rfl (show compile _ 25 _=_ by kernel_rfl) (show compRes _ 25 _=_ by kernel_rfl)
def c_bits_Div64:AC:= .seq (.reg [o 6 (.mv (u64 0)),o 7 (.mv (u64 0))]) (.seq (.seq (.reg [mv 19 2,o 20 (.bin .eql (.t 19) (u64 0))]) (.cond (.t 20) (.reg [o 21 (.ld none (.c (.gp 0 0))),od .bad]) .skip)) (.seq (.seq (.reg [mv 22 2,mv 23 0,bn 24 .leq 22 23]) (.cond (.t 24) (.reg [o 25 (.ld none (.c (.gp 1 0))),od .bad]) .skip)) (.seq (.seq (.reg [mv 26 0,o 27 (.bin .eql (.t 26) (u64 0))]) (.cond (.t 27) (.seq (.reg [mv 28 1,mv 29 2,bn 30 .quo 28 29,mv 31 1,mv 32 2,bn 33 .rem 31 32,mv 6 30,mv 7 33]) .ret) .skip)) (.seq (.reg [mv 34 2,o 35 (.call 89 [.t 34]),o 36 (.cvI .u64 (.t 35)),mv 8 36]) (.seq (.reg [mv 37 2,mv 38 8,bn 39 .shl 37 38,mv 2 39]) (.seq (.reg [mv 40 2,o 41 (.bin .shr (.t 40) (u64 32)),mv 9 41]) (.seq (.reg [mv 42 2,o 43 (.bin .and (.t 42) (u64 4294967295)),mv 10 43]) (.seq (.reg [mv 44 0,mv 45 8,bn 46 .shl 44 45,mv 47 1,mv 48 8,o 49 (.bin .sub (u64 64) (.t 48)),bn 50 .shr 47 49,bn 51 .or 46 50,mv 11 51]) (.seq (.reg [mv 52 1,mv 53 8,bn 54 .shl 52 53,mv 12 54]) (.seq (.reg [mv 55 12,o 56 (.bin .shr (.t 55) (u64 32)),mv 13 56]) (.seq (.reg [mv 57 12,o 58 (.bin .and (.t 57) (u64 4294967295)),mv 14 58]) (.seq (.reg [mv 59 11,mv 60 9,bn 61 .quo 59 60,mv 15 61]) (.seq (.reg [mv 62 11,mv 63 15,mv 64 9,bn 65 .mul 63 64,bn 66 .sub 62 65,mv 16 66]) (.seq (.block 0 (.loop (.seq (.seq (.reg [mv 67 15,o 68 (.bin .geq (.t 67) (u64 4294967296)),mv 69 68,og 70 69 false (.mv (.t 15)),og 71 69 false (.mv (.t 10)),og 72 69 false (.bin .mul (.t 70) (.t 71)),og 73 69 false (.mv (.t 16)),og 74 69 false (.bin .mul (u64 4294967296) (.t 73)),og 75 69 false (.mv (.t 13)),og 76 69 false (.bin .add (.t 74) (.t 75)),og 77 69 false (.bin .gtr (.t 72) (.t 76)),o 78 (.pick (.t 69) (.c (.bool true)) (.t 77))]) (.cond (.t 78) .skip (.exit 0))) (.block 1 (.seq (.reg [mv 79 15,o 80 (.bin .sub (.t 79) (u64 1)),mv 15 80]) (.seq (.reg [mv 81 16,mv 82 9,bn 83 .add 81 82,mv 16 83]) (.seq (.reg [mv 84 16,o 85 (.bin .geq (.t 84) (u64 4294967296))]) (.cond (.t 85) (.exit 0) .skip)))))))) (.seq (.reg [mv 86 11,o 87 (.bin .mul (.t 86) (u64 4294967296)),mv 88 13,bn 89 .add 87 88,mv 90 15,mv 91 2,bn 92 .mul 90 91,bn 93 .sub 89 92,mv 17 93]) (.seq (.reg [mv 94 17,mv 95 9,bn 96 .quo 94 95,mv 18 96]) (.seq (.reg [mv 97 17,mv 98 18,mv 99 9,bn 100 .mul 98 99,bn 101 .sub 97 100,mv 16 101]) (.seq (.block 2 (.loop (.seq (.seq (.reg [mv 102 18,o 103 (.bin .geq (.t 102) (u64 4294967296)),mv 104 103,og 105 104 false (.mv (.t 18)),og 106 104 false (.mv (.t 10)),og 107 104 false (.bin .mul (.t 105) (.t 106)),og 108 104 false (.mv (.t 16)),og 109 104 false (.bin .mul (u64 4294967296) (.t 108)),og 110 104 false (.mv (.t 14)),og 111 104 false (.bin .add (.t 109) (.t 110)),og 112 104 false (.bin .gtr (.t 107) (.t 111)),o 113 (.pick (.t 104) (.c (.bool true)) (.t 112))]) (.cond (.t 113) .skip (.exit 2))) (.block 3 (.seq (.reg [mv 114 18,o 115 (.bin .sub (.t 114) (u64 1)),mv 18 115]) (.seq (.reg [mv 116 16,mv 117 9,bn 118 .add 116 117,mv 16 118]) (.seq (.reg [mv 119 16,o 120 (.bin .geq (.t 119) (u64 4294967296))]) (.cond (.t 120) (.exit 2) .skip)))))))) (.seq (.reg [mv 121 15,o 122 (.bin .mul (.t 121) (u64 4294967296)),mv 123 18,bn 124 .add 122 123,mv 125 17,o 126 (.bin .mul (.t 125) (u64 4294967296)),mv 127 14,bn 128 .add 126 127,mv 129 18,mv 130 2,bn 131 .mul 129 130,bn 132 .sub 128 131,mv 133 8,bn 134 .shr 132 133,mv 6 124,mv 7 134]) .ret)))))))))))))))))))
theorem in_bits_Div64:Ent 81 135 c_bits_Div64 [.t 6, .t 7]:=ent Try.func81 rfl rfl rfl (show compile _ 135 _=_ by kernel_rfl) (show compRes _ 135 _=_ by kernel_rfl)
def c_bits_LeadingZeros64:AC:= .seq (.reg [o 2 (.mv (i64 0))]) (.seq (.reg [mv 3 0,o 4 (.call 78 [.t 3]),o 5 (.bin .sub (i64 64) (.t 4)),mv 2 5]) .ret)
theorem in_bits_LeadingZeros64:Ent 89 6 c_bits_LeadingZeros64 [.t 2]:=ent Try.func89 rfl rfl rfl (show compile _ 6 _=_ by kernel_rfl) (show compRes _ 6 _=_ by kernel_rfl)
def c_bits_Mul64:AC:= .seq (.reg [o 4 (.mv (u64 0)),o 5 (.mv (u64 0))]) (.seq (.reg [mv 14 0,o 15 (.bin .and (.t 14) (u64 4294967295)),mv 6 15]) (.seq (.reg [mv 16 0,o 17 (.bin .shr (.t 16) (u64 32)),mv 7 17]) (.seq (.reg [mv 18 1,o 19 (.bin .and (.t 18) (u64 4294967295)),mv 8 19]) (.seq (.reg [mv 20 1,o 21 (.bin .shr (.t 20) (u64 32)),mv 9 21]) (.seq (.reg [mv 22 6,mv 23 8,bn 24 .mul 22 23,mv 10 24]) (.seq (.reg [mv 25 7,mv 26 8,bn 27 .mul 25 26,mv 28 10,o 29 (.bin .shr (.t 28) (u64 32)),bn 30 .add 27 29,mv 11 30]) (.seq (.reg [mv 31 11,o 32 (.bin .and (.t 31) (u64 4294967295)),mv 12 32]) (.seq (.reg [mv 33 11,o 34 (.bin .shr (.t 33) (u64 32)),mv 13 34]) (.seq (.reg [mv 35 12,mv 36 6,mv 37 9,bn 38 .mul 36 37,bn 39 .add 35 38,mv 12 39]) (.seq (.reg [mv 40 7,mv 41 9,bn 42 .mul 40 41,mv 43 13,bn 44 .add 42 43,mv 45 12,o 46 (.bin .shr (.t 45) (u64 32)),bn 47 .add 44 46,mv 4 47]) (.seq (.reg [mv 48 0,mv 49 1,bn 50 .mul 48 49,mv 5 50]) .ret)))))))))))
theorem in_bits_Mul64:Ent 92 51 c_bits_Mul64 [.t 4, .t 5]:=ent Try.func92 rfl rfl rfl (show compile _ 51 _=_ by kernel_rfl) (show compRes _ 51 _=_ by kernel_rfl)
end
section
open Go
def c_ref02_To:AC:= .seq (.reg [o 2 (.mv (.c (.sl none 0 0 none)))]) (.seq (.reg [o 3 (.mv (.c (.sl none 0 0 none)))]) (.seq (.seq (.reg [o 4 (.mv (i64 0))]) (.block 0 (.loop (.seq (.seq (.reg [mv 6 4,mv 7 0,o 8 (.len false (.t 7)),bn 9 .lss 6 8]) (.cond (.t 9) .skip (.exit 0))) (.seq (.block 1 (.seq (.reg [mv 12 0,mv 13 4,o 14 (.idx 1 (.t 12) (.t 13)),o 15 (.ld none (.t 14)),mv 5 15]) (.seq (.seq (.reg [mv 16 4,o 17 (.bin .add (.t 16) (i64 1)),mv 18 0,o 19 (.len false (.t 18)),bn 20 .lss 17 19]) (.cond (.t 20) (.reg [mv 21 5,mv 22 0,mv 23 4,o 24 (.bin .add (.t 23) (i64 1)),o 25 (.idx 1 (.t 22) (.t 24)),o 26 (.ld none (.t 25)),o 27 (.bin .mul (.t 26) (u64 4294967296)),bn 28 .add 21 27,mv 5 28]) .skip)) (.reg [mv 29 3,mv 30 5,o 31 (.bsl 23 1 1 [.int .u64 0] [(0, .t 30)]),o 32 (.app 23 1 8 (.t 29) (.t 31)),mv 3 32])))) (.reg [mv 10 4,o 11 (.bin .add (.t 10) (i64 2)),mv 4 11])))))) (.seq (.block 2 (.loop (.seq (.seq (.reg [mv 33 3,o 34 (.len false (.t 33)),o 35 (.bin .gtr (.t 34) (i64 0)),mv 36 35,og 37 36 true (.mv (.t 3)),og 38 36 true (.mv (.t 3)),og 39 36 true (.len false (.t 38)),og 40 36 true (.bin .sub (.t 39) (i64 1)),og 41 36 true (.idx 1 (.t 37) (.t 40)),og 42 36 true (.ld none (.t 41)),og 43 36 true (.bin .eql (.t 42) (u64 0)),o 44 (.pick (.t 36) (.t 43) (.c (.bool false)))]) (.cond (.t 44) .skip (.exit 2))) (.block 3 (.reg [mv 45 3,mv 46 3,o 47 (.len false (.t 46)),o 48 (.bin .sub (.t 47) (i64 1)),o 49 (.slc 1 (.t 45) none (some (.t 48))),mv 3 49]))))) (.seq (.reg [mv 50 3,mv 2 50]) .ret))))
theorem in_ref02_To:Ent 30 51 c_ref02_To [.t 2]:=ent Try.func30 rfl rfl rfl (show compile _ 51 _=_ by kernel_rfl) (show compRes _ 51 _=_ by kernel_rfl)
def c_ref02_Small:AC:= .seq (.reg [o 2 (.mv (.c (.sl none 0 0 none)))]) (.seq (.reg [mv 3 0,o 4 (.bsl 23 1 1 [.int .u64 0] [(0, .t 3)]),o 5 (.call 60 [.t 4]),mv 2 5]) .ret)
theorem in_ref02_Small:Ent 32 6 c_ref02_Small [.t 2]:=ent Try.func32 rfl rfl rfl (show compile _ 6 _=_ by kernel_rfl) (show compRes _ 6 _=_ by kernel_rfl)
def c_ref02_Same:AC:= .seq (.reg [o 4 (.mv (.c (.bool false)))]) (.seq (.reg [mv 7 0,o 8 (.call 30 [.t 7]),mv 5 8]) (.seq (.seq (.reg [mv 9 5,o 10 (.len false (.t 9)),mv 11 1,o 12 (.len false (.t 11)),bn 13 .neq 10 12]) (.cond (.t 13) (.seq (.reg [o 4 (.mv (.c (.bool false)))]) .ret) .skip)) (.seq (.seq (.reg [o 6 (.mv (i64 0))]) (.block 0 (.loop (.seq (.seq (.reg [mv 14 6,mv 15 5,o 16 (.len false (.t 15)),bn 17 .lss 14 16]) (.cond (.t 17) .skip (.exit 0))) (.seq (.block 1 (.seq (.reg [mv 20 5,mv 21 6,o 22 (.idx 1 (.t 20) (.t 21)),o 23 (.ld none (.t 22)),mv 24 1,mv 25 6,o 26 (.idx 1 (.t 24) (.t 25)),o 27 (.ld none (.t 26)),bn 28 .neq 23 27]) (.cond (.t 28) (.seq (.reg [o 4 (.mv (.c (.bool false)))]) .ret) .skip))) (.reg [mv 18 6,o 19 (.bin .add (.t 18) (i64 1)),mv 6 19])))))) (.seq (.reg [o 4 (.mv (.c (.bool true)))]) .ret))))
theorem in_ref02_Same:Ent 37 29 c_ref02_Same [.t 4]:=ent Try.func37 rfl rfl rfl (show compile _ 29 _=_ by kernel_rfl) (show compRes _ 29 _=_ by kernel_rfl)
def c_ref02_Bits:AC:= .seq (.reg [o 2 (.mv (i64 0))]) (.seq (.seq (.reg [mv 5 0,o 6 (.len false (.t 5)),o 7 (.bin .eql (.t 6) (i64 0))]) (.cond (.t 7) (.seq (.reg [o 2 (.mv (i64 0))]) .ret) .skip)) (.seq (.reg [mv 8 0,o 9 (.len false (.t 8)),o 10 (.bin .sub (.t 9) (i64 1)),o 11 (.bin .mul (i64 32) (.t 10)),mv 3 11]) (.seq (.seq (.reg [mv 12 0,mv 13 0,o 14 (.len false (.t 13)),o 15 (.bin .sub (.t 14) (i64 1)),o 16 (.idx 1 (.t 12) (.t 15)),o 17 (.ld none (.t 16)),mv 4 17]) (.block 0 (.loop (.seq (.seq (.reg [mv 18 4,o 19 (.bin .gtr (.t 18) (u64 0))]) (.cond (.t 19) .skip (.exit 0))) (.seq (.block 1 (.reg [mv 22 3,o 23 (.bin .add (.t 22) (i64 1)),mv 3 23])) (.reg [mv 20 4,o 21 (.bin .quo (.t 20) (u64 2)),mv 4 21])))))) (.seq (.reg [mv 24 3,mv 2 24]) .ret))))
theorem in_ref02_Bits:Ent 50 25 c_ref02_Bits [.t 2]:=ent Try.func50 rfl rfl rfl (show compile _ 25 _=_ by kernel_rfl) (show compRes _ 25 _=_ by kernel_rfl)
def c_ref02_From:AC:= .seq (.reg [o 2 (.mv (.c (.sl none 0 0 none)))]) (.seq (.reg [mv 5 0,o 6 (.len false (.t 5)),o 7 (.bin .mul (i64 2) (.t 6)),o 8 (.mk 23 1 8 [.int .u64 0] (i64 0) (.t 7)),mv 3 8]) (.seq (.seq (.reg [o 4 (.mv (i64 0))]) (.block 0 (.loop (.seq (.seq (.reg [mv 9 4,mv 10 0,o 11 (.len false (.t 10)),bn 12 .lss 9 11]) (.cond (.t 12) .skip (.exit 0))) (.seq (.block 1 (.reg [mv 15 3,mv 16 0,mv 17 4,o 18 (.idx 1 (.t 16) (.t 17)),o 19 (.ld none (.t 18)),o 20 (.bin .rem (.t 19) (u64 4294967296)),mv 21 0,mv 22 4,o 23 (.idx 1 (.t 21) (.t 22)),o 24 (.ld none (.t 23)),o 25 (.bin .quo (.t 24) (u64 4294967296)),o 26 (.bsl 23 1 2 [.int .u64 0] [(0, .t 20),(1, .t 25)]),o 27 (.app 23 1 8 (.t 15) (.t 26)),mv 3 27])) (.reg [mv 13 4,o 14 (.bin .add (.t 13) (i64 1)),mv 4 14])))))) (.seq (.reg [mv 28 3,o 29 (.call 84 [.t 28]),mv 2 29]) .ret)))
theorem in_ref02_From:Ent 60 30 c_ref02_From [.t 2]:=ent Try.func60 rfl rfl rfl (show compile _ 30 _=_ by kernel_rfl) (show compRes _ 30 _=_ by kernel_rfl)
def c_ref02_Add:AC:= .seq (.reg [o 4 (.mv (.c (.sl none 0 0 none)))]) (.seq (.reg [mv 8 0,o 9 (.len false (.t 8)),mv 10 1,o 11 (.len false (.t 10)),o 12 (.mnx true (.t 9) [.t 11]),o 13 (.bin .add (.t 12) (i64 1)),o 14 (.mk 23 1 8 [.int .u64 0] (i64 0) (.t 13)),mv 5 14]) (.seq (.reg [o 6 (.mv (u64 0))]) (.seq (.seq (.reg [o 7 (.mv (i64 0))]) (.block 0 (.loop (.seq (.seq (.reg [mv 15 7,mv 16 0,o 17 (.len false (.t 16)),bn 18 .lss 15 17,mv 19 18,og 20 19 false (.mv (.t 7)),og 21 19 false (.mv (.t 1)),og 22 19 false (.len false (.t 21)),og 23 19 false (.bin .lss (.t 20) (.t 22)),o 24 (.pick (.t 19) (.c (.bool true)) (.t 23)),mv 25 24,og 26 25 false (.mv (.t 6)),og 27 25 false (.bin .gtr (.t 26) (u64 0)),o 28 (.pick (.t 25) (.c (.bool true)) (.t 27))]) (.cond (.t 28) .skip (.exit 0))) (.seq (.block 1 (.seq (.seq (.reg [mv 31 7,mv 32 0,o 33 (.len false (.t 32)),bn 34 .lss 31 33]) (.cond (.t 34) (.reg [mv 35 6,mv 36 0,mv 37 7,o 38 (.idx 1 (.t 36) (.t 37)),o 39 (.ld none (.t 38)),bn 40 .add 35 39,mv 6 40]) .skip)) (.seq (.seq (.reg [mv 41 7,mv 42 1,o 43 (.len false (.t 42)),bn 44 .lss 41 43]) (.cond (.t 44) (.reg [mv 45 6,mv 46 1,mv 47 7,o 48 (.idx 1 (.t 46) (.t 47)),o 49 (.ld none (.t 48)),bn 50 .add 45 49,mv 6 50]) .skip)) (.seq (.reg [mv 51 5,mv 52 6,o 53 (.bin .rem (.t 52) (u64 4294967296)),o 54 (.bsl 23 1 1 [.int .u64 0] [(0, .t 53)]),o 55 (.app 23 1 8 (.t 51) (.t 54)),mv 5 55]) (.reg [mv 56 6,o 57 (.bin .quo (.t 56) (u64 4294967296)),mv 6 57]))))) (.reg [mv 29 7,o 30 (.bin .add (.t 29) (i64 1)),mv 7 30])))))) (.seq (.reg [mv 58 5,o 59 (.call 84 [.t 58]),mv 4 59]) .ret))))
theorem in_ref02_Add:Ent 67 60 c_ref02_Add [.t 4]:=ent Try.func67 rfl rfl rfl (show compile _ 60 _=_ by kernel_rfl) (show compRes _ 60 _=_ by kernel_rfl)
def c_ref02_Cmp:AC:= .seq (.reg [o 4 (.mv (i64 0))]) (.seq (.seq (.reg [mv 6 0,o 7 (.len false (.t 6)),mv 8 1,o 9 (.len false (.t 8)),bn 10 .neq 7 9]) (.cond (.t 10) (.seq (.seq (.reg [mv 11 0,o 12 (.len false (.t 11)),mv 13 1,o 14 (.len false (.t 13)),bn 15 .lss 12 14]) (.cond (.t 15) (.seq (.reg [o 4 (.mv (i64 (-1)))]) .ret) .skip)) (.seq (.reg [o 4 (.mv (i64 1))]) .ret)) .skip)) (.seq (.seq (.reg [mv 16 0,o 17 (.len false (.t 16)),o 18 (.bin .sub (.t 17) (i64 1)),mv 5 18]) (.block 0 (.loop (.seq (.seq (.reg [mv 19 5,o 20 (.bin .geq (.t 19) (i64 0))]) (.cond (.t 20) .skip (.exit 0))) (.seq (.block 1 (.seq (.seq (.reg [mv 23 0,mv 24 5,o 25 (.idx 1 (.t 23) (.t 24)),o 26 (.ld none (.t 25)),mv 27 1,mv 28 5,o 29 (.idx 1 (.t 27) (.t 28)),o 30 (.ld none (.t 29)),bn 31 .lss 26 30]) (.cond (.t 31) (.seq (.reg [o 4 (.mv (i64 (-1)))]) .ret) .skip)) (.seq (.reg [mv 32 0,mv 33 5,o 34 (.idx 1 (.t 32) (.t 33)),o 35 (.ld none (.t 34)),mv 36 1,mv 37 5,o 38 (.idx 1 (.t 36) (.t 37)),o 39 (.ld none (.t 38)),bn 40 .gtr 35 39]) (.cond (.t 40) (.seq (.reg [o 4 (.mv (i64 1))]) .ret) .skip)))) (.reg [mv 21 5,o 22 (.bin .sub (.t 21) (i64 1)),mv 5 22])))))) (.seq (.reg [o 4 (.mv (i64 0))]) .ret)))
theorem in_ref02_Cmp:Ent 68 41 c_ref02_Cmp [.t 4]:=ent Try.func68 rfl rfl rfl (show compile _ 41 _=_ by kernel_rfl) (show compRes _ 41 _=_ by kernel_rfl)
def c_ref02_Sub:AC:= .seq (.reg [o 4 (.mv (.c (.sl none 0 0 none)))]) (.seq (.reg [mv 9 0,o 10 (.len false (.t 9)),o 11 (.mk 23 1 8 [.int .u64 0] (i64 0) (.t 10)),mv 5 11]) (.seq (.reg [o 6 (.mv (u64 0))]) (.seq (.seq (.reg [o 7 (.mv (i64 0))]) (.block 0 (.loop (.seq (.seq (.reg [mv 12 7,mv 13 0,o 14 (.len false (.t 13)),bn 15 .lss 12 14]) (.cond (.t 15) .skip (.exit 0))) (.seq (.block 1 (.seq (.reg [mv 18 6,mv 8 18]) (.seq (.seq (.reg [mv 19 7,mv 20 1,o 21 (.len false (.t 20)),bn 22 .lss 19 21]) (.cond (.t 22) (.reg [mv 23 8,mv 24 1,mv 25 7,o 26 (.idx 1 (.t 24) (.t 25)),o 27 (.ld none (.t 26)),bn 28 .add 23 27,mv 8 28]) .skip)) (.seq (.reg [mv 29 0,mv 30 7,o 31 (.idx 1 (.t 29) (.t 30)),o 32 (.ld none (.t 31)),mv 33 8,bn 34 .geq 32 33]) (.cond (.t 34) (.seq (.reg [mv 35 5,mv 36 0,mv 37 7,o 38 (.idx 1 (.t 36) (.t 37)),o 39 (.ld none (.t 38)),mv 40 8,bn 41 .sub 39 40,o 42 (.bsl 23 1 1 [.int .u64 0] [(0, .t 41)]),o 43 (.app 23 1 8 (.t 35) (.t 42)),mv 5 43]) (.reg [o 6 (.mv (u64 0))])) (.seq (.reg [mv 44 5,mv 45 0,mv 46 7,o 47 (.idx 1 (.t 45) (.t 46)),o 48 (.ld none (.t 47)),o 49 (.bin .add (.t 48) (u64 4294967296)),mv 50 8,bn 51 .sub 49 50,o 52 (.bsl 23 1 1 [.int .u64 0] [(0, .t 51)]),o 53 (.app 23 1 8 (.t 44) (.t 52)),mv 5 53]) (.reg [o 6 (.mv (u64 1))]))))))) (.reg [mv 16 7,o 17 (.bin .add (.t 16) (i64 1)),mv 7 17])))))) (.seq (.reg [mv 54 5,o 55 (.call 84 [.t 54]),mv 4 55]) .ret))))
theorem in_ref02_Sub:Ent 69 56 c_ref02_Sub [.t 4]:=ent Try.func69 rfl rfl rfl (show compile _ 56 _=_ by kernel_rfl) (show compRes _ 56 _=_ by kernel_rfl)
def c_ref02_Mul:AC:= .seq (.reg [o 4 (.mv (.c (.sl none 0 0 none)))]) (.seq (.reg [mv 10 0,o 11 (.len false (.t 10)),mv 12 1,o 13 (.len false (.t 12)),bn 14 .add 11 13,o 15 (.mk 23 1 8 [.int .u64 0] (.t 14) (.t 14)),mv 5 15]) (.seq (.seq (.reg [o 6 (.mv (i64 0))]) (.block 0 (.loop (.seq (.seq (.reg [mv 16 6,mv 17 0,o 18 (.len false (.t 17)),bn 19 .lss 16 18]) (.cond (.t 19) .skip (.exit 0))) (.seq (.block 1 (.seq (.reg [o 7 (.mv (u64 0))]) (.seq (.seq (.reg [o 8 (.mv (i64 0))]) (.block 2 (.loop (.seq (.seq (.reg [mv 22 8,mv 23 1,o 24 (.len false (.t 23)),bn 25 .lss 22 24]) (.cond (.t 25) .skip (.exit 2))) (.seq (.block 3 (.seq (.reg [mv 28 5,mv 29 6,mv 30 8,bn 31 .add 29 30,o 32 (.idx 1 (.t 28) (.t 31)),o 33 (.ld none (.t 32)),mv 34 0,mv 35 6,o 36 (.idx 1 (.t 34) (.t 35)),o 37 (.ld none (.t 36)),mv 38 1,mv 39 8,o 40 (.idx 1 (.t 38) (.t 39)),o 41 (.ld none (.t 40)),bn 42 .mul 37 41,bn 43 .add 33 42,mv 44 7,bn 45 .add 43 44,mv 9 45]) (.seq (.reg [mv 46 5,mv 47 6,mv 48 8,bn 49 .add 47 48,mv 50 9,o 51 (.bin .rem (.t 50) (u64 4294967296)),o 52 (.idx 1 (.t 46) (.t 49)),od (.st 1 (.t 52) (.t 51))]) (.reg [mv 53 9,o 54 (.bin .quo (.t 53) (u64 4294967296)),mv 7 54])))) (.reg [mv 26 8,o 27 (.bin .add (.t 26) (i64 1)),mv 8 27])))))) (.reg [mv 55 5,mv 56 6,mv 57 1,o 58 (.len false (.t 57)),bn 59 .add 56 58,mv 60 7,o 61 (.idx 1 (.t 55) (.t 59)),od (.st 1 (.t 61) (.t 60))])))) (.reg [mv 20 6,o 21 (.bin .add (.t 20) (i64 1)),mv 6 21])))))) (.seq (.reg [mv 62 5,o 63 (.call 84 [.t 62]),mv 4 63]) .ret)))
theorem in_ref02_Mul:Ent 73 64 c_ref02_Mul [.t 4]:=ent Try.func73 rfl rfl rfl (show compile _ 64 _=_ by kernel_rfl) (show compRes _ 64 _=_ by kernel_rfl)
def c_ref02_norm:AC:= .seq (.reg [o 2 (.mv (.c (.sl none 0 0 none)))]) (.seq (.reg [mv 4 0,o 5 (.len false (.t 4)),mv 3 5]) (.seq (.block 0 (.loop (.seq (.seq (.reg [mv 6 3,o 7 (.bin .gtr (.t 6) (i64 0)),mv 8 7,og 9 8 true (.mv (.t 0)),og 10 8 true (.mv (.t 3)),og 11 8 true (.bin .sub (.t 10) (i64 1)),og 12 8 true (.idx 1 (.t 9) (.t 11)),og 13 8 true (.ld none (.t 12)),og 14 8 true (.bin .eql (.t 13) (u64 0)),o 15 (.pick (.t 8) (.t 14) (.c (.bool false)))]) (.cond (.t 15) .skip (.exit 0))) (.block 1 (.reg [mv 16 3,o 17 (.bin .sub (.t 16) (i64 1)),mv 3 17]))))) (.seq (.reg [mv 18 0,mv 19 3,o 20 (.slc 1 (.t 18) none (some (.t 19))),mv 2 20]) .ret)))
theorem in_ref02_norm:Ent 84 21 c_ref02_norm [.t 2]:=ent Try.func84 rfl rfl rfl (show compile _ 21 _=_ by kernel_rfl) (show compRes _ 21 _=_ by kernel_rfl)
def c_ref02_Zero:AC:= .seq (.reg [o 2 (.mv (.c (.bool false)))]) (.seq (.reg [mv 3 0,o 4 (.len false (.t 3)),o 5 (.bin .eql (.t 4) (i64 0)),mv 2 5]) .ret)
theorem in_ref02_Zero:Ent 87 6 c_ref02_Zero [.t 2]:=ent Try.func87 rfl rfl rfl (show compile _ 6 _=_ by kernel_rfl) (show compRes _ 6 _=_ by kernel_rfl)
def c_ref02_DivMod:AC:= .seq (.reg [o 4 (.mv (.c (.sl none 0 0 none))),o 5 (.mv (.c (.sl none 0 0 none)))]) (.seq (.seq (.reg [mv 9 0,mv 10 1,o 11 (.call 68 [.t 9, .t 10]),o 12 (.bin .lss (.t 11) (i64 0))]) (.cond (.t 12) (.seq (.reg [mv 13 0,o 4 (.mv (.c (.sl none 0 0 none))),mv 5 13]) .ret) .skip)) (.seq (.reg [mv 14 1,o 15 (.len false (.t 14)),o 16 (.bin .add (.t 15) (i64 1)),o 17 (.mk 23 1 8 [.int .u64 0] (.t 16) (.t 16)),mv 6 17]) (.seq (.reg [mv 18 0,o 19 (.len false (.t 18)),o 20 (.mk 23 1 8 [.int .u64 0] (.t 19) (.t 19)),mv 7 20]) (.seq (.seq (.reg [mv 21 0,o 22 (.call 50 [.t 21]),o 23 (.bin .sub (.t 22) (i64 1)),mv 8 23]) (.block 0 (.loop (.seq (.seq (.reg [mv 24 8,o 25 (.bin .geq (.t 24) (i64 0))]) (.cond (.t 25) .skip (.exit 0))) (.seq (.block 1 (.seq (.reg [mv 28 6,mv 29 0,mv 30 8,o 31 (.call 95 [.t 29, .t 30]),mv 32 1,o 33 (.call 94 [.t 28, .t 31, .t 32])]) (.cond (.t 33) (.reg [mv 34 7,mv 35 8,o 36 (.bin .quo (.t 35) (i64 32)),o 37 (.idx 1 (.t 34) (.t 36)),o 38 (.ld none (.t 37)),mv 39 8,o 40 (.bin .rem (.t 39) (i64 32)),o 41 (.cvI .u64 (.t 40)),o 42 (.bin .shl (u64 1) (.t 41)),bn 43 .or 38 42,o 44 (.idx 1 (.t 34) (.t 36)),od (.st 1 (.t 44) (.t 43))]) .skip))) (.reg [mv 26 8,o 27 (.bin .sub (.t 26) (i64 1)),mv 8 27])))))) (.seq (.reg [mv 45 7,o 46 (.call 84 [.t 45]),mv 47 6,o 48 (.call 84 [.t 47]),mv 4 46,mv 5 48]) .ret)))))
theorem in_ref02_DivMod:Ent 91 49 c_ref02_DivMod [.t 4, .t 5]:=ent Try.func91 rfl rfl rfl (show compile _ 49 _=_ by kernel_rfl) (show compRes _ 49 _=_ by kernel_rfl)
def c_ref02_twice:AC:= .seq (.reg [o 6 (.mv (.c (.bool false)))]) (.seq (.seq (.reg [o 7 (.mv (i64 0))]) (.block 0 (.loop (.seq (.seq (.reg [mv 15 7,mv 16 0,o 17 (.len false (.t 16)),bn 18 .lss 15 17]) (.cond (.t 18) .skip (.exit 0))) (.seq (.block 1 (.seq (.reg [mv 21 0,mv 22 7,o 23 (.idx 1 (.t 21) (.t 22)),o 24 (.ld none (.t 23)),o 25 (.bin .mul (u64 2) (.t 24)),mv 26 1,bn 27 .add 25 26,mv 8 27]) (.seq (.reg [mv 28 0,mv 29 7,mv 30 8,o 31 (.bin .rem (.t 30) (u64 4294967296)),o 32 (.idx 1 (.t 28) (.t 29)),od (.st 1 (.t 32) (.t 31))]) (.reg [mv 33 8,o 34 (.bin .quo (.t 33) (u64 4294967296)),mv 1 34])))) (.reg [mv 19 7,o 20 (.bin .add (.t 19) (i64 1)),mv 7 20])))))) (.seq (.reg [o 9 (.mv (.c (.bool true)))]) (.seq (.seq (.reg [mv 35 0,o 36 (.len false (.t 35)),o 37 (.bin .sub (.t 36) (i64 1)),mv 10 37]) (.block 2 (.loop (.seq (.seq (.reg [mv 38 10,o 39 (.bin .geq (.t 38) (i64 0))]) (.cond (.t 39) .skip (.exit 2))) (.seq (.block 3 (.seq (.reg [o 11 (.mv (u64 0))]) (.seq (.seq (.reg [mv 42 10,mv 43 2,o 44 (.len false (.t 43)),bn 45 .lss 42 44]) (.cond (.t 45) (.reg [mv 46 2,mv 47 10,o 48 (.idx 1 (.t 46) (.t 47)),o 49 (.ld none (.t 48)),mv 11 49]) .skip)) (.seq (.reg [mv 50 0,mv 51 10,o 52 (.idx 1 (.t 50) (.t 51)),o 53 (.ld none (.t 52)),mv 54 11,bn 55 .neq 53 54]) (.cond (.t 55) (.seq (.reg [mv 56 0,mv 57 10,o 58 (.idx 1 (.t 56) (.t 57)),o 59 (.ld none (.t 58)),mv 60 11,bn 61 .gtr 59 60,mv 9 61]) (.exit 2)) .skip))))) (.reg [mv 40 10,o 41 (.bin .sub (.t 40) (i64 1)),mv 10 41])))))) (.seq (.seq (.reg [mv 62 9,o 63 (.un .not (.t 62))]) (.cond (.t 63) (.seq (.reg [o 6 (.mv (.c (.bool false)))]) .ret) .skip)) (.seq (.reg [o 12 (.mv (u64 0))]) (.seq (.seq (.reg [o 13 (.mv (i64 0))]) (.block 4 (.loop (.seq (.seq (.reg [mv 64 13,mv 65 0,o 66 (.len false (.t 65)),bn 67 .lss 64 66]) (.cond (.t 67) .skip (.exit 4))) (.seq (.block 5 (.seq (.reg [mv 70 12,mv 14 70]) (.seq (.seq (.reg [mv 71 13,mv 72 2,o 73 (.len false (.t 72)),bn 74 .lss 71 73]) (.cond (.t 74) (.reg [mv 75 14,mv 76 2,mv 77 13,o 78 (.idx 1 (.t 76) (.t 77)),o 79 (.ld none (.t 78)),bn 80 .add 75 79,mv 14 80]) .skip)) (.seq (.reg [mv 81 0,mv 82 13,o 83 (.idx 1 (.t 81) (.t 82)),o 84 (.ld none (.t 83)),mv 85 14,bn 86 .geq 84 85]) (.cond (.t 86) (.seq (.reg [mv 87 0,mv 88 13,o 89 (.idx 1 (.t 87) (.t 88)),o 90 (.ld none (.t 89)),mv 91 14,bn 92 .sub 90 91,o 93 (.idx 1 (.t 87) (.t 88)),od (.st 1 (.t 93) (.t 92))]) (.reg [o 12 (.mv (u64 0))])) (.seq (.reg [mv 94 0,mv 95 13,o 96 (.idx 1 (.t 94) (.t 95)),o 97 (.ld none (.t 96)),mv 98 14,o 99 (.bin .sub (u64 4294967296) (.t 98)),bn 100 .add 97 99,o 101 (.idx 1 (.t 94) (.t 95)),od (.st 1 (.t 101) (.t 100))]) (.reg [o 12 (.mv (u64 1))]))))))) (.reg [mv 68 13,o 69 (.bin .add (.t 68) (i64 1)),mv 13 69])))))) (.seq (.reg [o 6 (.mv (.c (.bool true)))]) .ret)))))))
theorem in_ref02_twice:Ent 94 102 c_ref02_twice [.t 6]:=ent Try.func94 rfl rfl rfl (show compile _ 102 _=_ by kernel_rfl) (show compRes _ 102 _=_ by kernel_rfl)
def c_ref02_bit:AC:= .seq (.reg [o 4 (.mv (u64 0))]) (.seq (.reg [mv 5 0,mv 6 1,o 7 (.bin .quo (.t 6) (i64 32)),o 8 (.idx 1 (.t 5) (.t 7)),o 9 (.ld none (.t 8)),mv 10 1,o 11 (.bin .rem (.t 10) (i64 32)),o 12 (.cvI .u64 (.t 11)),bn 13 .shr 9 12,o 14 (.bin .and (.t 13) (u64 1)),mv 4 14]) .ret)
theorem in_ref02_bit:Ent 95 15 c_ref02_bit [.t 4]:=ent Try.func95 rfl rfl rfl (show compile _ 15 _=_ by kernel_rfl) (show compRes _ 15 _=_ by kernel_rfl)
end
section
open Go
def c_keep_Same:AC:= .seq (.reg [o 4 (.mv (.c (.bool false)))]) (.seq (.seq (.reg [mv 6 0,o 7 (.len false (.t 6)),mv 8 1,o 9 (.len false (.t 8)),bn 10 .neq 7 9]) (.cond (.t 10) (.seq (.reg [o 4 (.mv (.c (.bool false)))]) .ret) .skip)) (.seq (.seq (.reg [o 5 (.mv (i64 0))]) (.block 0 (.loop (.seq (.seq (.reg [mv 11 5,mv 12 0,o 13 (.len false (.t 12)),bn 14 .lss 11 13]) (.cond (.t 14) .skip (.exit 0))) (.seq (.block 1 (.seq (.reg [mv 17 0,mv 18 5,o 19 (.idx 1 (.t 17) (.t 18)),o 20 (.ld none (.t 19)),mv 21 1,mv 22 5,o 23 (.idx 1 (.t 21) (.t 22)),o 24 (.ld none (.t 23)),bn 25 .neq 20 24]) (.cond (.t 25) (.seq (.reg [o 4 (.mv (.c (.bool false)))]) .ret) .skip))) (.reg [mv 15 5,o 16 (.bin .add (.t 15) (i64 1)),mv 5 16])))))) (.seq (.reg [o 4 (.mv (.c (.bool true)))]) .ret)))
theorem in_keep_Same:Ent 8 26 c_keep_Same [.t 4]:=ent Try.func8 rfl rfl rfl (show compile _ 26 _=_ by kernel_rfl) (show compRes _ 26 _=_ by kernel_rfl)
def c_keep_CopyInts:AC:= .seq (.reg [o 2 (.mv (.c (.sl none 0 0 none)))]) (.seq (.reg [o 3 (.mv (.c (.sl none 0 0 none)))]) (.seq (.seq (.reg [o 4 (.mv (i64 0))]) (.block 0 (.loop (.seq (.seq (.reg [mv 5 4,mv 6 0,o 7 (.len false (.t 6)),bn 8 .lss 5 7]) (.cond (.t 8) .skip (.exit 0))) (.seq (.block 1 (.reg [mv 11 3,mv 12 0,mv 13 4,o 14 (.idx 2 (.t 12) (.t 13)),o 15 (.ld (some 2) (.t 14)),o 16 (.call 33 [.t 15]),o 17 (.bsl 45 2 1 [.sl none 0 0 none, .bool false] [(0, .t 16)]),o 18 (.app 45 2 32 (.t 11) (.t 17)),mv 3 18])) (.reg [mv 9 4,o 10 (.bin .add (.t 9) (i64 1)),mv 4 10])))))) (.seq (.reg [mv 19 3,mv 2 19]) .ret)))
theorem in_keep_CopyInts:Ent 10 20 c_keep_CopyInts [.t 2]:=ent Try.func10 rfl rfl rfl (show compile _ 20 _=_ by kernel_rfl) (show compRes _ 20 _=_ by kernel_rfl)
def c_keep_Spoil:AC:= .seq (.reg [mv 4 0,mv 5 0,o 6 (.capo (.t 5)),o 7 (.slc 1 (.t 4) none (some (.t 6))),mv 2 7]) (.seq (.reg [o 3 (.mv (i64 0))]) (.block 0 (.loop (.seq (.seq (.reg [mv 8 3,mv 9 2,o 10 (.len false (.t 9)),bn 11 .lss 8 10]) (.cond (.t 11) .skip (.exit 0))) (.seq (.block 1 (.reg [mv 14 2,mv 15 3,o 16 (.idx 1 (.t 14) (.t 15)),od (.st 1 (.t 16) (u64 8608480567731124087))])) (.reg [mv 12 3,o 13 (.bin .add (.t 12) (i64 1)),mv 3 13]))))))
theorem in_keep_Spoil:Ent 19 17 c_keep_Spoil []:=ent Try.func19 rfl rfl rfl (show compile _ 17 _=_ by kernel_rfl) (show compRes _ 17 _=_ by kernel_rfl)
def c_keep_Ints:AC:= .seq (.reg [o 4 (.mv (.c (.bool false)))]) (.seq (.seq (.reg [mv 6 0,o 7 (.len false (.t 6)),mv 8 1,o 9 (.len false (.t 8)),bn 10 .neq 7 9]) (.cond (.t 10) (.seq (.reg [o 4 (.mv (.c (.bool false)))]) .ret) .skip)) (.seq (.seq (.reg [o 5 (.mv (i64 0))]) (.block 0 (.loop (.seq (.seq (.reg [mv 11 5,mv 12 0,o 13 (.len false (.t 12)),bn 14 .lss 11 13]) (.cond (.t 14) .skip (.exit 0))) (.seq (.block 1 (.seq (.reg [mv 17 0,mv 18 5,o 19 (.idx 2 (.t 17) (.t 18)),o 20 (.ld (some 2) (.t 19)),mv 21 1,mv 22 5,o 23 (.idx 2 (.t 21) (.t 22)),o 24 (.ld (some 2) (.t 23)),o 25 (.call 51 [.t 20, .t 24]),o 26 (.un .not (.t 25))]) (.cond (.t 26) (.seq (.reg [o 4 (.mv (.c (.bool false)))]) .ret) .skip))) (.reg [mv 15 5,o 16 (.bin .add (.t 15) (i64 1)),mv 5 16])))))) (.seq (.reg [o 4 (.mv (.c (.bool true)))]) .ret)))
theorem in_keep_Ints:Ent 24 27 c_keep_Ints [.t 4]:=ent Try.func24 rfl rfl rfl (show compile _ 27 _=_ by kernel_rfl) (show compRes _ 27 _=_ by kernel_rfl)
def c_keep_CutInts:AC:= .seq (.reg [o 6 (.mv (.c (.sl none 0 0 none)))]) (.seq (.reg [o 7 (.mv (.c (.sl none 0 0 none)))]) (.seq (.seq (.reg [o 8 (.mv (i64 0))]) (.block 0 (.loop (.seq (.seq (.reg [mv 9 8,mv 10 0,o 11 (.len false (.t 10)),bn 12 .lss 9 11,mv 13 12,og 14 13 true (.mv (.t 8)),og 15 13 true (.mv (.t 1)),og 16 13 true (.bin .lss (.t 14) (.t 15)),o 17 (.pick (.t 13) (.t 16) (.c (.bool false)))]) (.cond (.t 17) .skip (.exit 0))) (.seq (.block 1 (.reg [mv 20 7,mv 21 0,mv 22 8,o 23 (.idx 2 (.t 21) (.t 22)),o 24 (.ld (some 2) (.t 23)),mv 25 2,o 26 (.call 52 [.t 24, .t 25]),o 27 (.bsl 45 2 1 [.sl none 0 0 none, .bool false] [(0, .t 26)]),o 28 (.app 45 2 32 (.t 20) (.t 27)),mv 7 28])) (.reg [mv 18 8,o 19 (.bin .add (.t 18) (i64 1)),mv 8 19])))))) (.seq (.reg [mv 29 7,mv 6 29]) .ret)))
theorem in_keep_CutInts:Ent 25 30 c_keep_CutInts [.t 6]:=ent Try.func25 rfl rfl rfl (show compile _ 30 _=_ by kernel_rfl) (show compRes _ 30 _=_ by kernel_rfl)
def c_keep_CopyInt:AC:= .seq (.reg [o 1 (.box 45 (.t 0)),o 2 (.alloc 45 [.sl none 0 0 none, .bool false])]) (.seq (.reg [o 3 (.fld 0 (.t 1)),o 4 (.ld none (.t 3)),o 6 (.fld 1 (.t 1)),o 7 (.ld none (.t 6)),⟨some 5,none, .call 61 [.t 4],[(some 7,none, .ld none (.t 6))]⟩,o 8 (.bld [.sl none 0 0 none, .bool false] [(0,1, .t 5),(1,1, .t 7)]),od (.st 2 (.t 2) (.t 8))]) .ret)
theorem in_keep_CopyInt:Ent 33 9 c_keep_CopyInt [.c 2 (some 2)]:=ent Try.func33 rfl rfl rfl (show compile _ 9 _=_ by kernel_rfl) (show compRes _ 9 _=_ by kernel_rfl)
def c_keep_Int:AC:= .seq (.reg [o 2 (.box 45 (.t 0)),o 3 (.box 45 (.t 1)),o 4 (.mv (.c (.bool false)))]) (.seq (.reg [o 5 (.fld 1 (.t 2)),o 6 (.ld none (.t 5)),o 7 (.fld 1 (.t 3)),o 8 (.ld none (.t 7)),o 9 (.beq false (.t 6) (.t 8)),mv 10 9,og 11 10 true (.fld 0 (.t 2)),og 12 10 true (.ld none (.t 11)),og 13 10 true (.fld 0 (.t 3)),og 14 10 true (.ld none (.t 13)),og 15 10 true (.call 8 [.t 12, .t 14]),o 16 (.pick (.t 10) (.t 15) (.c (.bool false))),mv 4 16]) .ret)
theorem in_keep_Int:Ent 51 17 c_keep_Int [.t 4]:=ent Try.func51 rfl rfl rfl (show compile _ 17 _=_ by kernel_rfl) (show compRes _ 17 _=_ by kernel_rfl)
def c_keep_CutInt:AC:= .seq (.reg [o 2 (.box 45 (.t 0)),o 4 (.alloc 45 [.sl none 0 0 none, .bool false])]) (.seq (.reg [o 5 (.fld 0 (.t 2)),o 6 (.ld none (.t 5)),mv 7 1,o 9 (.fld 1 (.t 2)),o 10 (.ld none (.t 9)),⟨some 8,none, .call 79 [.t 6, .t 7],[(some 10,none, .ld none (.t 9))]⟩,o 11 (.bld [.sl none 0 0 none, .bool false] [(0,1, .t 8),(1,1, .t 10)]),od (.st 2 (.t 4) (.t 11))]) .ret)
theorem in_keep_CutInt:Ent 52 12 c_keep_CutInt [.c 4 (some 2)]:=ent Try.func52 rfl rfl rfl (show compile _ 12 _=_ by kernel_rfl) (show compRes _ 12 _=_ by kernel_rfl)
def c_keep_Copy:AC:= .seq (.reg [o 2 (.mv (.c (.sl none 0 0 none)))]) (.seq (.reg [mv 3 0,o 4 (.app 23 1 8 (.c (.sl none 0 0 none)) (.t 3)),mv 2 4]) .ret)
theorem in_keep_Copy:Ent 61 5 c_keep_Copy [.t 2]:=ent Try.func61 rfl rfl rfl (show compile _ 5 _=_ by kernel_rfl) (show compRes _ 5 _=_ by kernel_rfl)
def c_keep_Cut:AC:= .seq (.reg [o 4 (.mv (.c (.sl none 0 0 none)))]) (.seq (.reg [mv 5 0,mv 6 0,o 7 (.len false (.t 6)),mv 8 1,o 9 (.mnx false (.t 7) [.t 8]),o 10 (.slc 1 (.t 5) none (some (.t 9))),mv 4 10]) .ret)
theorem in_keep_Cut:Ent 79 11 c_keep_Cut [.t 4]:=ent Try.func79 rfl rfl rfl (show compile _ 11 _=_ by kernel_rfl) (show compRes _ 11 _=_ by kernel_rfl)
end
section
open Go
def c_table_New:AC:= .seq (.reg [o 1 (.box 55 (.t 0)),o 2 (.mv (.c (.ptr none)))]) (.seq (.reg [o 3 (.ld (some 11) (.t 1)),o 4 (.call 107 [.t 3]),o 5 (.bld [.int .i64 0, .int .i64 0, .int .i64 0, .int .i64 0, .int .i64 0, .int .i64 0, .int .i64 0, .int .i64 0, .int .i64 0, .int .i64 0, .int .i64 0, .int .i64 0, .int .i64 0, .int .i64 0] [(3,11, .t 4)]),o 6 (.box 179 (.t 5)),mv 2 6]) .ret)
theorem in_table_New:Ent 106 7 c_table_New [.t 2]:=ent Try.func106 rfl rfl rfl (show compile _ 7 _=_ by kernel_rfl) (show compRes _ 7 _=_ by kernel_rfl)
def c_table_Clamp:AC:= .seq (.reg [o 1 (.box 55 (.t 0)),o 2 (.alloc 55 [.int .i64 0, .int .i64 0, .int .i64 0, .int .i64 0, .int .i64 0, .int .i64 0, .int .i64 0, .int .i64 0, .int .i64 0, .int .i64 0, .int .i64 0])]) (.seq (.reg [o 3 (.fld 0 (.t 1)),o 4 (.ld none (.t 3)),o 6 (.fld 1 (.t 1)),o 7 (.ld none (.t 6)),o 9 (.fld 2 (.t 1)),o 10 (.ld none (.t 9)),o 12 (.fld 3 (.t 1)),o 13 (.ld none (.t 12)),o 15 (.fld 4 (.t 1)),o 16 (.ld none (.t 15)),o 18 (.fld 5 (.t 1)),o 19 (.ld none (.t 18)),o 21 (.fld 6 (.t 1)),o 22 (.ld none (.t 21)),o 24 (.fld 7 (.t 1)),o 25 (.ld none (.t 24)),o 27 (.fld 8 (.t 1)),o 28 (.ld none (.t 27)),o 30 (.fld 9 (.t 1)),o 31 (.ld none (.t 30)),o 33 (.fld 10 (.t 1)),o 34 (.ld none (.t 33)),⟨some 5,none, .call 108 [.t 4,i64 4,i64 64],[(some 7,none, .ld none (.t 6)),(some 10,none, .ld none (.t 9)),(some 13,none, .ld none (.t 12)),(some 16,none, .ld none (.t 15)),(some 19,none, .ld none (.t 18)),(some 22,none, .ld none (.t 21)),(some 25,none, .ld none (.t 24)),(some 28,none, .ld none (.t 27)),(some 31,none, .ld none (.t 30)),(some 34,none, .ld none (.t 33))]⟩,⟨some 8,none, .call 108 [.t 7,i64 12,i64 8192],[(some 10,none, .ld none (.t 9)),(some 13,none, .ld none (.t 12)),(some 16,none, .ld none (.t 15)),(some 19,none, .ld none (.t 18)),(some 22,none, .ld none (.t 21)),(some 25,none, .ld none (.t 24)),(some 28,none, .ld none (.t 27)),(some 31,none, .ld none (.t 30)),(some 34,none, .ld none (.t 33))]⟩,⟨some 11,none, .call 108 [.t 10,i64 64,i64 16384],[(some 13,none, .ld none (.t 12)),(some 16,none, .ld none (.t 15)),(some 19,none, .ld none (.t 18)),(some 22,none, .ld none (.t 21)),(some 25,none, .ld none (.t 24)),(some 28,none, .ld none (.t 27)),(some 31,none, .ld none (.t 30)),(some 34,none, .ld none (.t 33))]⟩,⟨some 14,none, .call 108 [.t 13,i64 4,i64 1024],[(some 16,none, .ld none (.t 15)),(some 19,none, .ld none (.t 18)),(some 22,none, .ld none (.t 21)),(some 25,none, .ld none (.t 24)),(some 28,none, .ld none (.t 27)),(some 31,none, .ld none (.t 30)),(some 34,none, .ld none (.t 33))]⟩,⟨some 17,none, .call 108 [.t 16,i64 4,i64 4096],[(some 19,none, .ld none (.t 18)),(some 22,none, .ld none (.t 21)),(some 25,none, .ld none (.t 24)),(some 28,none, .ld none (.t 27)),(some 31,none, .ld none (.t 30)),(some 34,none, .ld none (.t 33))]⟩,⟨some 20,none, .call 108 [.t 19,i64 2,i64 1024],[(some 22,none, .ld none (.t 21)),(some 25,none, .ld none (.t 24)),(some 28,none, .ld none (.t 27)),(some 31,none, .ld none (.t 30)),(some 34,none, .ld none (.t 33))]⟩,⟨some 23,none, .call 108 [.t 22,i64 2,i64 1024],[(some 25,none, .ld none (.t 24)),(some 28,none, .ld none (.t 27)),(some 31,none, .ld none (.t 30)),(some 34,none, .ld none (.t 33))]⟩,⟨some 26,none, .call 108 [.t 25,i64 4,i64 256],[(some 28,none, .ld none (.t 27)),(some 31,none, .ld none (.t 30)),(some 34,none, .ld none (.t 33))]⟩,⟨some 29,none, .call 108 [.t 28,i64 4,i64 1024],[(some 31,none, .ld none (.t 30)),(some 34,none, .ld none (.t 33))]⟩,⟨some 32,none, .call 108 [.t 31,i64 2,i64 1024],[(some 34,none, .ld none (.t 33))]⟩,o 35 (.call 108 [.t 34,i64 2,i64 256]),o 36 (.bld [.int .i64 0, .int .i64 0, .int .i64 0, .int .i64 0, .int .i64 0, .int .i64 0, .int .i64 0, .int .i64 0, .int .i64 0, .int .i64 0, .int .i64 0] [(0,1, .t 5),(1,1, .t 8),(2,1, .t 11),(3,1, .t 14),(4,1, .t 17),(5,1, .t 20),(6,1, .t 23),(7,1, .t 26),(8,1, .t 29),(9,1, .t 32),(10,1, .t 35)]),od (.st 11 (.t 2) (.t 36))]) .ret)
theorem in_table_Clamp:Ent 107 37 c_table_Clamp [.c 2 (some 11)]:=ent Try.func107 rfl rfl rfl (show compile _ 37 _=_ by kernel_rfl) (show compRes _ 37 _=_ by kernel_rfl)
def c_table_within:AC:= .seq (.reg [o 6 (.mv (i64 0))]) (.seq (.reg [mv 7 1,mv 8 0,mv 9 2,o 10 (.mnx false (.t 8) [.t 9]),o 11 (.mnx true (.t 7) [.t 10]),mv 6 11]) .ret)
theorem in_table_within:Ent 108 12 c_table_within [.t 6]:=ent Try.func108 rfl rfl rfl (show compile _ 12 _=_ by kernel_rfl) (show compRes _ 12 _=_ by kernel_rfl)
end
section
open Go
def c_limb_DivWord:AC:= .seq (.reg [o 4 (.mv (.c (.sl none 0 0 none))),o 5 (.mv (u64 0)),o 6 (.mv (i64 0))]) (.seq (.seq (.reg [mv 10 1,o 11 (.bin .eql (.t 10) (u64 0))]) (.cond (.t 11) (.seq (.reg [o 4 (.mv (.c (.sl none 0 0 none))),o 5 (.mv (u64 0)),o 6 (.mv (i64 2))]) .ret) .skip)) (.seq (.reg [mv 12 0,o 13 (.call 80 [.t 12]),mv 0 13]) (.seq (.reg [mv 14 0,o 15 (.len false (.t 14)),o 16 (.mk 23 1 8 [.int .u64 0] (.t 15) (.t 15)),mv 7 16]) (.seq (.reg [o 8 (.mv (u64 0))]) (.seq (.seq (.reg [mv 17 0,o 18 (.len false (.t 17)),o 19 (.bin .sub (.t 18) (i64 1)),mv 9 19]) (.block 0 (.loop (.seq (.seq (.reg [mv 20 9,o 21 (.bin .geq (.t 20) (i64 0))]) (.cond (.t 21) .skip (.exit 0))) (.seq (.block 1 (.reg [mv 25 7,mv 26 9,mv 27 8,mv 28 0,mv 29 9,o 30 (.idx 1 (.t 28) (.t 29)),o 31 (.ld none (.t 30)),mv 32 1,o 33 (.call 81 [.t 27, .t 31, .t 32]),mv 24 33,o 34 (.ext (.t 24) 0),o 35 (.ext (.t 24) 1),o 36 (.idx 1 (.t 25) (.t 26)),od (.st 1 (.t 36) (.t 34)),mv 8 35])) (.reg [mv 22 9,o 23 (.bin .sub (.t 22) (i64 1)),mv 9 23])))))) (.seq (.reg [mv 37 7,o 38 (.call 80 [.t 37]),mv 39 8,mv 4 38,mv 5 39,o 6 (.mv (i64 0))]) .ret))))))
theorem in_limb_DivWord:Ent 54 40 c_limb_DivWord [.t 4, .t 5, .t 6]:=ent Try.func54 rfl rfl rfl (show compile _ 40 _=_ by kernel_rfl) (show compRes _ 40 _=_ by kernel_rfl)
def c_limb_One:AC:= .seq (.reg [o 2 (.mv (.c (.sl none 0 0 none)))]) (.seq (.seq (.reg [mv 3 0,o 4 (.bin .eql (.t 3) (u64 0))]) (.cond (.t 4) (.seq (.reg [o 2 (.mv (.c (.sl none 0 0 none)))]) .ret) .skip)) (.seq (.reg [mv 5 0,o 6 (.bsl 23 1 1 [.int .u64 0] [(0, .t 5)]),mv 2 6]) .ret))
theorem in_limb_One:Ent 57 7 c_limb_One [.t 2]:=ent Try.func57 rfl rfl rfl (show compile _ 7 _=_ by kernel_rfl) (show compRes _ 7 _=_ by kernel_rfl)
def c_limb_Add:AC:= .seq (.reg [o 4 (.mv (.c (.sl none 0 0 none)))]) (.seq (.reg [mv 9 0,o 10 (.call 80 [.t 9]),mv 11 1,o 12 (.call 80 [.t 11]),mv 0 10,mv 1 12]) (.seq (.seq (.reg [mv 13 0,o 14 (.len false (.t 13)),mv 15 1,o 16 (.len false (.t 15)),bn 17 .lss 14 16]) (.cond (.t 17) (.reg [mv 18 1,mv 19 0,mv 0 18,mv 1 19]) .skip)) (.seq (.reg [mv 20 0,o 21 (.len false (.t 20)),o 22 (.bin .add (.t 21) (i64 1)),o 23 (.mk 23 1 8 [.int .u64 0] (.t 22) (.t 22)),mv 5 23]) (.seq (.reg [o 6 (.mv (u64 0))]) (.seq (.seq (.reg [mv 24 0,o 25 (.len false (.t 24)),o 26 (.mv (i64 0))]) (.block 0 (.loop (.seq (.reg [bn 27 .lss 26 25]) (.seq (.cond (.t 27) .skip (.exit 0)) (.seq (.block 1 (.seq (.reg [mv 28 26,mv 7 28]) (.seq (.reg [o 8 (.mv (u64 0))]) (.seq (.seq (.reg [mv 29 7,mv 30 1,o 31 (.len false (.t 30)),bn 32 .lss 29 31]) (.cond (.t 32) (.reg [mv 33 1,mv 34 7,o 35 (.idx 1 (.t 33) (.t 34)),o 36 (.ld none (.t 35)),mv 8 36]) .skip)) (.reg [mv 38 5,mv 39 7,mv 40 0,mv 41 7,o 42 (.idx 1 (.t 40) (.t 41)),o 43 (.ld none (.t 42)),mv 44 8,mv 45 6,o 46 (.call 85 [.t 43, .t 44, .t 45]),mv 37 46,o 47 (.ext (.t 37) 0),o 48 (.ext (.t 37) 1),o 49 (.idx 1 (.t 38) (.t 39)),od (.st 1 (.t 49) (.t 47)),mv 6 48]))))) (.reg [o 50 (.bin .add (.t 26) (i64 1)),mv 26 50]))))))) (.seq (.reg [mv 51 5,mv 52 0,o 53 (.len false (.t 52)),mv 54 6,o 55 (.idx 1 (.t 51) (.t 53)),od (.st 1 (.t 55) (.t 54))]) (.seq (.reg [mv 56 5,o 57 (.call 80 [.t 56]),mv 4 57]) .ret)))))))
theorem in_limb_Add:Ent 62 58 c_limb_Add [.t 4]:=ent Try.func62 rfl rfl rfl (show compile _ 58 _=_ by kernel_rfl) (show compRes _ 58 _=_ by kernel_rfl)
def c_limb_Sub:AC:= .seq (.reg [o 4 (.mv (.c (.sl none 0 0 none))),o 5 (.mv (.c (.bool false)))]) (.seq (.reg [mv 10 0,o 11 (.call 80 [.t 10]),mv 12 1,o 13 (.call 80 [.t 12]),mv 0 11,mv 1 13]) (.seq (.seq (.reg [mv 14 0,mv 15 1,o 16 (.call 76 [.t 14, .t 15]),o 17 (.bin .lss (.t 16) (i64 0))]) (.cond (.t 17) (.seq (.reg [o 4 (.mv (.c (.sl none 0 0 none))),o 5 (.mv (.c (.bool false)))]) .ret) .skip)) (.seq (.reg [mv 18 0,o 19 (.len false (.t 18)),o 20 (.mk 23 1 8 [.int .u64 0] (.t 19) (.t 19)),mv 6 20]) (.seq (.reg [o 7 (.mv (u64 0))]) (.seq (.seq (.reg [mv 21 0,o 22 (.len false (.t 21)),o 23 (.mv (i64 0))]) (.block 0 (.loop (.seq (.reg [bn 24 .lss 23 22]) (.seq (.cond (.t 24) .skip (.exit 0)) (.seq (.block 1 (.seq (.reg [mv 25 23,mv 8 25]) (.seq (.reg [o 9 (.mv (u64 0))]) (.seq (.seq (.reg [mv 26 8,mv 27 1,o 28 (.len false (.t 27)),bn 29 .lss 26 28]) (.cond (.t 29) (.reg [mv 30 1,mv 31 8,o 32 (.idx 1 (.t 30) (.t 31)),o 33 (.ld none (.t 32)),mv 9 33]) .skip)) (.reg [mv 35 6,mv 36 8,mv 37 0,mv 38 8,o 39 (.idx 1 (.t 37) (.t 38)),o 40 (.ld none (.t 39)),mv 41 9,mv 42 7,o 43 (.call 86 [.t 40, .t 41, .t 42]),mv 34 43,o 44 (.ext (.t 34) 0),o 45 (.ext (.t 34) 1),o 46 (.idx 1 (.t 35) (.t 36)),od (.st 1 (.t 46) (.t 44)),mv 7 45]))))) (.reg [o 47 (.bin .add (.t 23) (i64 1)),mv 23 47]))))))) (.seq (.reg [mv 48 6,o 49 (.call 80 [.t 48]),mv 4 49,o 5 (.mv (.c (.bool true)))]) .ret))))))
theorem in_limb_Sub:Ent 63 50 c_limb_Sub [.t 4, .t 5]:=ent Try.func63 rfl rfl rfl (show compile _ 50 _=_ by kernel_rfl) (show compRes _ 50 _=_ by kernel_rfl)
def c_limb_Norm:AC:= .seq (.reg [o 2 (.mv (.c (.sl none 0 0 none)))]) (.seq (.reg [mv 3 0,o 4 (.call 80 [.t 3]),o 5 (.app 23 1 8 (.c (.sl none 0 0 none)) (.t 4)),mv 2 5]) .ret)
theorem in_limb_Norm:Ent 72 6 c_limb_Norm [.t 2]:=ent Try.func72 rfl rfl rfl (show compile _ 6 _=_ by kernel_rfl) (show compRes _ 6 _=_ by kernel_rfl)
def c_limb_MulWord:AC:= .seq (.reg [o 4 (.mv (.c (.sl none 0 0 none)))]) (.seq (.reg [mv 5 0,mv 6 1,o 7 (.call 88 [.c (.sl none 0 0 none), .t 5, .t 6]),mv 4 7]) .ret)
theorem in_limb_MulWord:Ent 74 8 c_limb_MulWord [.t 4]:=ent Try.func74 rfl rfl rfl (show compile _ 8 _=_ by kernel_rfl) (show compRes _ 8 _=_ by kernel_rfl)
def c_limb_Cmp:AC:= .seq (.reg [o 4 (.mv (i64 0))]) (.seq (.reg [mv 8 0,o 9 (.call 77 [.t 8]),mv 10 1,o 11 (.call 77 [.t 10]),mv 5 9,mv 6 11]) (.seq (.seq (.reg [mv 12 5,mv 13 6,bn 14 .neq 12 13]) (.cond (.t 14) (.seq (.seq (.reg [mv 15 5,mv 16 6,bn 17 .lss 15 16]) (.cond (.t 17) (.seq (.reg [o 4 (.mv (i64 (-1)))]) .ret) .skip)) (.seq (.reg [o 4 (.mv (i64 1))]) .ret)) .skip)) (.seq (.seq (.reg [mv 18 5,o 19 (.bin .sub (.t 18) (i64 1)),mv 7 19]) (.block 0 (.loop (.seq (.seq (.reg [mv 20 7,o 21 (.bin .geq (.t 20) (i64 0))]) (.cond (.t 21) .skip (.exit 0))) (.seq (.block 1 (.seq (.reg [mv 24 0,mv 25 7,o 26 (.idx 1 (.t 24) (.t 25)),o 27 (.ld none (.t 26)),mv 28 1,mv 29 7,o 30 (.idx 1 (.t 28) (.t 29)),o 31 (.ld none (.t 30)),bn 32 .neq 27 31]) (.cond (.t 32) (.seq (.seq (.reg [mv 33 0,mv 34 7,o 35 (.idx 1 (.t 33) (.t 34)),o 36 (.ld none (.t 35)),mv 37 1,mv 38 7,o 39 (.idx 1 (.t 37) (.t 38)),o 40 (.ld none (.t 39)),bn 41 .lss 36 40]) (.cond (.t 41) (.seq (.reg [o 4 (.mv (i64 (-1)))]) .ret) .skip)) (.seq (.reg [o 4 (.mv (i64 1))]) .ret)) .skip))) (.reg [mv 22 7,o 23 (.bin .sub (.t 22) (i64 1)),mv 7 23])))))) (.seq (.reg [o 4 (.mv (i64 0))]) .ret))))
theorem in_limb_Cmp:Ent 76 42 c_limb_Cmp [.t 4]:=ent Try.func76 rfl rfl rfl (show compile _ 42 _=_ by kernel_rfl) (show compRes _ 42 _=_ by kernel_rfl)
def c_limb_trim:AC:= .seq (.reg [o 2 (.mv (.c (.sl none 0 0 none)))]) (.seq (.reg [mv 3 0,mv 4 0,o 5 (.call 77 [.t 4]),o 6 (.slc 1 (.t 3) none (some (.t 5))),mv 2 6]) .ret)
theorem in_limb_trim:Ent 80 7 c_limb_trim [.t 2]:=ent Try.func80 rfl rfl rfl (show compile _ 7 _=_ by kernel_rfl) (show compRes _ 7 _=_ by kernel_rfl)
def c_limb_AddMul:AC:= .seq (.reg [o 6 (.mv (.c (.sl none 0 0 none)))]) (.seq (.reg [mv 14 0,o 15 (.call 80 [.t 14]),mv 16 1,o 17 (.call 80 [.t 16]),mv 0 15,mv 1 17]) (.seq (.reg [mv 18 0,o 19 (.len false (.t 18)),mv 20 1,o 21 (.len false (.t 20)),o 22 (.bin .add (.t 21) (i64 1)),o 23 (.mnx true (.t 19) [.t 22]),o 24 (.bin .add (.t 23) (i64 1)),o 25 (.mk 23 1 8 [.int .u64 0] (.t 24) (.t 24)),mv 7 25]) (.seq (.reg [mv 26 7,mv 27 0,o 28 (.cpy 1 (.t 26) (.t 27))]) (.seq (.reg [o 8 (.mv (u64 0))]) (.seq (.seq (.reg [mv 29 7,o 30 (.len false (.t 29)),o 31 (.mv (i64 0))]) (.block 0 (.loop (.seq (.reg [bn 32 .lss 31 30]) (.seq (.cond (.t 32) .skip (.exit 0)) (.seq (.block 1 (.seq (.reg [mv 33 31,mv 9 33]) (.seq (.seq (.reg [mv 34 9,mv 35 1,o 36 (.len false (.t 35)),bn 37 .geq 34 36,mv 38 37,og 39 38 true (.mv (.t 8)),og 40 38 true (.bin .eql (.t 39) (u64 0)),o 41 (.pick (.t 38) (.t 40) (.c (.bool false)))]) (.cond (.t 41) (.exit 0) .skip)) (.seq (.reg [o 10 (.mv (u64 0)),o 11 (.mv (u64 0))]) (.seq (.seq (.reg [mv 42 9,mv 43 1,o 44 (.len false (.t 43)),bn 45 .lss 42 44]) (.cond (.t 45) (.reg [mv 47 1,mv 48 9,o 49 (.idx 1 (.t 47) (.t 48)),o 50 (.ld none (.t 49)),mv 51 2,o 52 (.call 92 [.t 50, .t 51]),mv 46 52,o 53 (.ext (.t 46) 0),o 54 (.ext (.t 46) 1),mv 10 53,mv 11 54]) .skip)) (.seq (.reg [mv 56 11,mv 57 8,o 58 (.call 85 [.t 56, .t 57,u64 0]),mv 55 58,o 59 (.ext (.t 55) 0),o 60 (.ext (.t 55) 1),mv 12 59,mv 13 60]) (.seq (.reg [mv 61 10,mv 62 13,bn 63 .add 61 62,mv 10 63]) (.seq (.reg [mv 65 7,mv 66 9,mv 67 7,mv 68 9,o 69 (.idx 1 (.t 67) (.t 68)),o 70 (.ld none (.t 69)),mv 71 12,o 72 (.call 85 [.t 70, .t 71,u64 0]),mv 64 72,o 73 (.ext (.t 64) 0),o 74 (.ext (.t 64) 1),o 75 (.idx 1 (.t 65) (.t 66)),od (.st 1 (.t 75) (.t 73)),mv 13 74]) (.reg [mv 76 10,mv 77 13,bn 78 .add 76 77,mv 8 78]))))))))) (.reg [o 79 (.bin .add (.t 31) (i64 1)),mv 31 79]))))))) (.seq (.reg [mv 80 7,o 81 (.call 80 [.t 80]),mv 6 81]) .ret))))))
theorem in_limb_AddMul:Ent 88 82 c_limb_AddMul [.t 6]:=ent Try.func88 rfl rfl rfl (show compile _ 82 _=_ by kernel_rfl) (show compRes _ 82 _=_ by kernel_rfl)
def c_api_Nat_Bits:AC:= .seq (.reg [o 2 (.mv (i64 0))]) (.seq (.reg [mv 4 0,o 5 (.call 77 [.t 4]),mv 3 5]) (.seq (.seq (.reg [mv 6 3,o 7 (.bin .eql (.t 6) (i64 0))]) (.cond (.t 7) (.seq (.reg [o 2 (.mv (i64 0))]) .ret) .skip)) (.seq (.reg [mv 8 3,o 9 (.bin .sub (.t 8) (i64 1)),o 10 (.bin .mul (i64 64) (.t 9)),mv 11 0,mv 12 3,o 13 (.bin .sub (.t 12) (i64 1)),o 14 (.idx 1 (.t 11) (.t 13)),o 15 (.ld none (.t 14)),o 16 (.call 78 [.t 15]),bn 17 .add 10 16,mv 2 17]) .ret)))
theorem in_api_Nat_Bits:Ent 49 18 c_api_Nat_Bits [.t 2]:=ent Try.func49 rfl rfl rfl (show compile _ 18 _=_ by kernel_rfl) (show compRes _ 18 _=_ by kernel_rfl)
def c_api_Nat_Zero:AC:= .seq (.reg [o 2 (.mv (.c (.bool false)))]) (.seq (.reg [mv 3 0,o 4 (.call 77 [.t 3]),o 5 (.bin .eql (.t 4) (i64 0)),mv 2 5]) .ret)
theorem in_api_Nat_Zero:Ent 64 6 c_api_Nat_Zero [.t 2]:=ent Try.func64 rfl rfl rfl (show compile _ 6 _=_ by kernel_rfl) (show compRes _ 6 _=_ by kernel_rfl)
def c_api_Int_Sign:AC:= .seq (.reg [o 1 (.box 45 (.t 0)),o 2 (.mv (i64 0))]) (.seq (.block 0 (.seq (.reg [o 4 (.fld 0 (.t 1)),o 5 (.ld none (.t 4)),o 6 (.call 64 [.t 5]),mv 3 6]) (.cond (.t 3) (.seq (.reg [o 2 (.mv (i64 0))]) .ret) (.seq (.reg [o 8 (.fld 1 (.t 1)),o 9 (.ld none (.t 8)),mv 7 9]) (.cond (.t 7) (.seq (.reg [o 2 (.mv (i64 (-1)))]) .ret) .skip))))) (.seq (.reg [o 2 (.mv (i64 1))]) .ret))
theorem in_api_Int_Sign:Ent 75 10 c_api_Int_Sign [.t 2]:=ent Try.func75 rfl rfl rfl (show compile _ 10 _=_ by kernel_rfl) (show compRes _ 10 _=_ by kernel_rfl)
def c_api_Nat_Len:AC:= .seq (.reg [o 2 (.mv (i64 0))]) (.seq (.reg [mv 4 0,o 5 (.len false (.t 4)),mv 3 5]) (.seq (.block 0 (.loop (.seq (.seq (.reg [mv 6 3,o 7 (.bin .gtr (.t 6) (i64 0)),mv 8 7,og 9 8 true (.mv (.t 0)),og 10 8 true (.mv (.t 3)),og 11 8 true (.bin .sub (.t 10) (i64 1)),og 12 8 true (.idx 1 (.t 9) (.t 11)),og 13 8 true (.ld none (.t 12)),og 14 8 true (.bin .eql (.t 13) (u64 0)),o 15 (.pick (.t 8) (.t 14) (.c (.bool false)))]) (.cond (.t 15) .skip (.exit 0))) (.block 1 (.reg [mv 16 3,o 17 (.bin .sub (.t 16) (i64 1)),mv 3 17]))))) (.seq (.reg [mv 18 3,mv 2 18]) .ret)))
theorem in_api_Nat_Len:Ent 77 19 c_api_Nat_Len [.t 2]:=ent Try.func77 rfl rfl rfl (show compile _ 19 _=_ by kernel_rfl) (show compRes _ 19 _=_ by kernel_rfl)
def c_num_Of:AC:= .seq (.reg [o 2 (.alloc 45 [.sl none 0 0 none, .bool false])]) (.seq (.seq (.reg [mv 3 0,o 4 (.bin .lss (.t 3) (i64 0))]) (.cond (.t 4) (.seq (.reg [mv 5 0,o 6 (.cvI .u64 (.t 5)),o 7 (.un .neg (.t 6)),o 8 (.call 57 [.t 7]),o 9 (.call 56 [.t 8, .c (.bool true)]),od (.st 2 (.t 2) (.t 9))]) .ret) .skip)) (.seq (.reg [mv 10 0,o 11 (.cvI .u64 (.t 10)),o 12 (.call 57 [.t 11]),o 13 (.call 56 [.t 12, .c (.bool false)]),od (.st 2 (.t 2) (.t 13))]) .ret))
theorem in_num_Of:Ent 29 14 c_num_Of [.c 2 (some 2)]:=ent Try.func29 rfl rfl rfl (show compile _ 14 _=_ by kernel_rfl) (show compRes _ 14 _=_ by kernel_rfl)
def c_num_Add:AC:= .seq (.reg [o 2 (.box 45 (.t 0)),o 3 (.box 45 (.t 1)),o 4 (.alloc 45 [.sl none 0 0 none, .bool false])]) (.seq (.seq (.reg [o 9 (.fld 1 (.t 2)),o 10 (.ld none (.t 9)),o 11 (.fld 1 (.t 3)),o 12 (.ld none (.t 11)),o 13 (.beq false (.t 10) (.t 12))]) (.cond (.t 13) (.seq (.reg [o 14 (.fld 0 (.t 2)),o 15 (.ld none (.t 14)),o 16 (.fld 0 (.t 3)),o 17 (.ld none (.t 16)),o 19 (.fld 1 (.t 2)),o 20 (.ld none (.t 19)),⟨some 18,none, .call 62 [.t 15, .t 17],[(some 20,none, .ld none (.t 19))]⟩,o 21 (.call 56 [.t 18, .t 20]),od (.st 2 (.t 4) (.t 21))]) .ret) .skip)) (.seq (.seq (.reg [o 23 (.fld 0 (.t 2)),o 24 (.ld none (.t 23)),o 25 (.fld 0 (.t 3)),o 26 (.ld none (.t 25)),o 27 (.call 63 [.t 24, .t 26]),mv 22 27,o 28 (.ext (.t 22) 0),o 29 (.ext (.t 22) 1),mv 5 28,mv 6 29]) (.seq (.reg [mv 30 6]) (.cond (.t 30) (.seq (.reg [mv 31 5,o 32 (.fld 1 (.t 2)),o 33 (.ld none (.t 32)),o 34 (.call 56 [.t 31, .t 33]),od (.st 2 (.t 4) (.t 34))]) .ret) .skip))) (.seq (.reg [o 36 (.fld 0 (.t 3)),o 37 (.ld none (.t 36)),o 38 (.fld 0 (.t 2)),o 39 (.ld none (.t 38)),o 40 (.call 63 [.t 37, .t 39]),mv 35 40,o 41 (.ext (.t 35) 0),o 42 (.ext (.t 35) 1),mv 7 41,mv 8 42]) (.seq (.reg [mv 43 7,o 44 (.fld 1 (.t 3)),o 45 (.ld none (.t 44)),o 46 (.call 56 [.t 43, .t 45]),od (.st 2 (.t 4) (.t 46))]) .ret))))
theorem in_num_Add:Ent 34 47 c_num_Add [.c 4 (some 2)]:=ent Try.func34 rfl rfl rfl (show compile _ 47 _=_ by kernel_rfl) (show compRes _ 47 _=_ by kernel_rfl)
def c_num_Sub:AC:= .seq (.reg [o 2 (.box 45 (.t 0)),o 3 (.box 45 (.t 1)),o 4 (.alloc 45 [.sl none 0 0 none, .bool false])]) (.seq (.reg [o 5 (.ld (some 2) (.t 2)),o 6 (.fld 0 (.t 3)),o 7 (.ld none (.t 6)),o 8 (.fld 1 (.t 3)),o 9 (.ld none (.t 8)),o 10 (.un .not (.t 9)),o 11 (.bld [.sl none 0 0 none, .bool false] [(0,1, .t 7),(1,1, .t 10)]),o 12 (.call 34 [.t 5, .t 11]),od (.st 2 (.t 4) (.t 12))]) .ret)
theorem in_num_Sub:Ent 42 13 c_num_Sub [.c 4 (some 2)]:=ent Try.func42 rfl rfl rfl (show compile _ 13 _=_ by kernel_rfl) (show compRes _ 13 _=_ by kernel_rfl)
def c_num_Norm:AC:= .seq (.reg [o 1 (.box 45 (.t 0)),o 2 (.alloc 45 [.sl none 0 0 none, .bool false])]) (.seq (.reg [o 3 (.fld 0 (.t 1)),o 4 (.ld none (.t 3)),o 6 (.fld 1 (.t 1)),o 7 (.ld none (.t 6)),⟨some 5,none, .call 72 [.t 4],[(some 7,none, .ld none (.t 6))]⟩,o 8 (.call 56 [.t 5, .t 7]),od (.st 2 (.t 2) (.t 8))]) .ret)
theorem in_num_Norm:Ent 44 9 c_num_Norm [.c 2 (some 2)]:=ent Try.func44 rfl rfl rfl (show compile _ 9 _=_ by kernel_rfl) (show compRes _ 9 _=_ by kernel_rfl)
def c_num_Cmp:AC:= .seq (.reg [o 2 (.box 45 (.t 0)),o 3 (.box 45 (.t 1)),o 4 (.mv (i64 0))]) (.seq (.reg [o 8 (.ld (some 2) (.t 2)),o 10 (.ld (some 2) (.t 3)),⟨some 9,none, .call 75 [.t 8],[(some 10,none, .ld (some 2) (.t 3))]⟩,o 11 (.call 75 [.t 10]),mv 5 9,mv 6 11]) (.seq (.seq (.reg [mv 12 5,mv 13 6,bn 14 .neq 12 13]) (.cond (.t 14) (.seq (.seq (.reg [mv 15 5,mv 16 6,bn 17 .lss 15 16]) (.cond (.t 17) (.seq (.reg [o 4 (.mv (i64 (-1)))]) .ret) .skip)) (.seq (.reg [o 4 (.mv (i64 1))]) .ret)) .skip)) (.seq (.reg [o 18 (.fld 0 (.t 2)),o 19 (.ld none (.t 18)),o 20 (.fld 0 (.t 3)),o 21 (.ld none (.t 20)),o 22 (.call 76 [.t 19, .t 21]),mv 7 22]) (.seq (.seq (.reg [mv 23 5,o 24 (.bin .lss (.t 23) (i64 0))]) (.cond (.t 24) (.seq (.reg [mv 25 7,o 26 (.un .neg (.t 25)),mv 4 26]) .ret) .skip)) (.seq (.reg [mv 27 7,mv 4 27]) .ret)))))
theorem in_num_Cmp:Ent 48 28 c_num_Cmp [.t 4]:=ent Try.func48 rfl rfl rfl (show compile _ 28 _=_ by kernel_rfl) (show compRes _ 28 _=_ by kernel_rfl)
def c_num_made:AC:= .seq (.reg [o 4 (.alloc 45 [.sl none 0 0 none, .bool false])]) (.seq (.reg [mv 5 0,mv 6 1,mv 7 6,og 8 7 true (.mv (.t 0)),og 9 7 true (.call 64 [.t 8]),og 10 7 true (.un .not (.t 9)),o 11 (.pick (.t 7) (.t 10) (.c (.bool false))),o 12 (.bld [.sl none 0 0 none, .bool false] [(0,1, .t 5),(1,1, .t 11)]),od (.st 2 (.t 4) (.t 12))]) .ret)
theorem in_num_made:Ent 56 13 c_num_made [.c 4 (some 2)]:=ent Try.func56 rfl rfl rfl (show compile _ 13 _=_ by kernel_rfl) (show compRes _ 13 _=_ by kernel_rfl)
def c_num_New:AC:= .seq (.reg [o 1 (.box 55 (.t 0)),o 2 (.mv (.c (.ptr none)))]) (.seq (.reg [o 3 (.ld (some 11) (.t 1)),o 4 (.call 97 [.t 3]),o 5 (.bld [.ptr none] [(0,1, .t 4)]),o 6 (.box 138 (.t 5)),mv 2 6]) .ret)
theorem in_num_New:Ent 96 7 c_num_New [.t 2]:=ent Try.func96 rfl rfl rfl (show compile _ 7 _=_ by kernel_rfl) (show compRes _ 7 _=_ by kernel_rfl)
def c_ref17_Residue:AC:= .seq (.reg [o 2 (.box 61 (.t 0)),o 4 (.mv (.c (.sl none 0 0 none)))]) (.seq (.regt [o 8 (.ld (some 2) (.t 2)),mv 9 1] (.alt (⟨some 10,none, .call 59 [.t 9],[(some 8,none, .ld (some 2) (.t 2))]⟩) [] (.alt (o 11 (.call 58 [.t 8, .t 10])) [mv 7 11,o 12 (.ext (.t 7) 0),o 13 (.ext (.t 7) 1)] (.alt (⟨some 5,none, .alloc 61 [.sl none 0 0 none, .bool false],[(some 8,none, .ld (some 2) (.t 2))]⟩) [] (.alt (⟨some 6,none, .alloc 61 [.sl none 0 0 none, .bool false],[(some 8,none, .ld (some 2) (.t 2))]⟩) [] (.alt (od (.st 2 (.t 5) (.t 12))) [] (.alt (od (.st 2 (.t 6) (.t 13))) [] .fin .no) .no) .no) (.alt (⟨some 6,none, .alloc 61 [.sl none 0 0 none, .bool false],[(some 8,none, .ld (some 2) (.t 2))]⟩) [] (.alt (⟨some 5,none, .alloc 61 [.sl none 0 0 none, .bool false],[(some 8,none, .ld (some 2) (.t 2))]⟩) [] (.alt (od (.st 2 (.t 5) (.t 12))) [] (.alt (od (.st 2 (.t 6) (.t 13))) [] .fin .no) .no) .no) .no)) (.alt (⟨some 5,none, .alloc 61 [.sl none 0 0 none, .bool false],[(some 8,none, .ld (some 2) (.t 2))]⟩) [] (.alt (o 11 (.call 58 [.t 8, .t 10])) [mv 7 11,o 12 (.ext (.t 7) 0),o 13 (.ext (.t 7) 1)] (.alt (⟨some 6,none, .alloc 61 [.sl none 0 0 none, .bool false],[(some 8,none, .ld (some 2) (.t 2))]⟩) [] (.alt (od (.st 2 (.t 5) (.t 12))) [] (.alt (od (.st 2 (.t 6) (.t 13))) [] .fin .no) .no) .no) (.alt (⟨some 6,none, .alloc 61 [.sl none 0 0 none, .bool false],[(some 8,none, .ld (some 2) (.t 2))]⟩) [] (.alt (o 11 (.call 58 [.t 8, .t 10])) [mv 7 11,o 12 (.ext (.t 7) 0),o 13 (.ext (.t 7) 1)] (.alt (od (.st 2 (.t 5) (.t 12))) [] (.alt (od (.st 2 (.t 6) (.t 13))) [] .fin .no) .no) .no) .no)) (.alt (⟨some 6,none, .alloc 61 [.sl none 0 0 none, .bool false],[(some 8,none, .ld (some 2) (.t 2))]⟩) [] (.alt (o 11 (.call 58 [.t 8, .t 10])) [mv 7 11,o 12 (.ext (.t 7) 0),o 13 (.ext (.t 7) 1)] (.alt (⟨some 5,none, .alloc 61 [.sl none 0 0 none, .bool false],[(some 8,none, .ld (some 2) (.t 2))]⟩) [] (.alt (od (.st 2 (.t 5) (.t 12))) [] (.alt (od (.st 2 (.t 6) (.t 13))) [] .fin .no) .no) .no) (.alt (⟨some 5,none, .alloc 61 [.sl none 0 0 none, .bool false],[(some 8,none, .ld (some 2) (.t 2))]⟩) [] (.alt (o 11 (.call 58 [.t 8, .t 10])) [mv 7 11,o 12 (.ext (.t 7) 0),o 13 (.ext (.t 7) 1)] (.alt (od (.st 2 (.t 5) (.t 12))) [] (.alt (od (.st 2 (.t 6) (.t 13))) [] .fin .no) .no) .no) .no)) .no))) (.alt (⟨some 5,none, .alloc 61 [.sl none 0 0 none, .bool false],[(some 8,none, .ld (some 2) (.t 2))]⟩) [] (.alt (⟨some 10,none, .call 59 [.t 9],[(some 8,none, .ld (some 2) (.t 2))]⟩) [] (.alt (o 11 (.call 58 [.t 8, .t 10])) [mv 7 11,o 12 (.ext (.t 7) 0),o 13 (.ext (.t 7) 1)] (.alt (⟨some 6,none, .alloc 61 [.sl none 0 0 none, .bool false],[(some 8,none, .ld (some 2) (.t 2))]⟩) [] (.alt (od (.st 2 (.t 5) (.t 12))) [] (.alt (od (.st 2 (.t 6) (.t 13))) [] .fin .no) .no) .no) (.alt (⟨some 6,none, .alloc 61 [.sl none 0 0 none, .bool false],[(some 8,none, .ld (some 2) (.t 2))]⟩) [] (.alt (o 11 (.call 58 [.t 8, .t 10])) [mv 7 11,o 12 (.ext (.t 7) 0),o 13 (.ext (.t 7) 1)] (.alt (od (.st 2 (.t 5) (.t 12))) [] (.alt (od (.st 2 (.t 6) (.t 13))) [] .fin .no) .no) .no) .no)) (.alt (⟨some 6,none, .alloc 61 [.sl none 0 0 none, .bool false],[(some 8,none, .ld (some 2) (.t 2))]⟩) [] (.alt (⟨some 10,none, .call 59 [.t 9],[(some 8,none, .ld (some 2) (.t 2))]⟩) [] (.alt (o 11 (.call 58 [.t 8, .t 10])) [mv 7 11,o 12 (.ext (.t 7) 0),o 13 (.ext (.t 7) 1)] (.alt (od (.st 2 (.t 5) (.t 12))) [] (.alt (od (.st 2 (.t 6) (.t 13))) [] .fin .no) .no) .no) .no) .no)) (.alt (⟨some 6,none, .alloc 61 [.sl none 0 0 none, .bool false],[(some 8,none, .ld (some 2) (.t 2))]⟩) [] (.alt (⟨some 10,none, .call 59 [.t 9],[(some 8,none, .ld (some 2) (.t 2))]⟩) [] (.alt (o 11 (.call 58 [.t 8, .t 10])) [mv 7 11,o 12 (.ext (.t 7) 0),o 13 (.ext (.t 7) 1)] (.alt (⟨some 5,none, .alloc 61 [.sl none 0 0 none, .bool false],[(some 8,none, .ld (some 2) (.t 2))]⟩) [] (.alt (od (.st 2 (.t 5) (.t 12))) [] (.alt (od (.st 2 (.t 6) (.t 13))) [] .fin .no) .no) .no) (.alt (⟨some 5,none, .alloc 61 [.sl none 0 0 none, .bool false],[(some 8,none, .ld (some 2) (.t 2))]⟩) [] (.alt (o 11 (.call 58 [.t 8, .t 10])) [mv 7 11,o 12 (.ext (.t 7) 0),o 13 (.ext (.t 7) 1)] (.alt (od (.st 2 (.t 5) (.t 12))) [] (.alt (od (.st 2 (.t 6) (.t 13))) [] .fin .no) .no) .no) .no)) (.alt (⟨some 5,none, .alloc 61 [.sl none 0 0 none, .bool false],[(some 8,none, .ld (some 2) (.t 2))]⟩) [] (.alt (⟨some 10,none, .call 59 [.t 9],[(some 8,none, .ld (some 2) (.t 2))]⟩) [] (.alt (o 11 (.call 58 [.t 8, .t 10])) [mv 7 11,o 12 (.ext (.t 7) 0),o 13 (.ext (.t 7) 1)] (.alt (od (.st 2 (.t 5) (.t 12))) [] (.alt (od (.st 2 (.t 6) (.t 13))) [] .fin .no) .no) .no) .no) .no)) .no)))) (.seq (.reg [o 14 (.fld 0 (.t 6)),o 15 (.ld none (.t 14)),mv 4 15]) .ret))
theorem in_ref17_Residue:Ent 31 16 c_ref17_Residue [.t 4]:=ent Try.func31 rfl rfl rfl (show compile _ 16 _=_ by kernel_rfl) (show compRes _ 16 _=_ by kernel_rfl)
def c_ref17_Add:AC:= .seq (.reg [o 2 (.box 61 (.t 0)),o 3 (.box 61 (.t 1)),o 4 (.alloc 61 [.sl none 0 0 none, .bool false])]) (.seq (.seq (.reg [o 5 (.fld 1 (.t 2)),o 6 (.ld none (.t 5)),o 7 (.fld 1 (.t 3)),o 8 (.ld none (.t 7)),o 9 (.beq false (.t 6) (.t 8))]) (.cond (.t 9) (.seq (.reg [o 10 (.fld 0 (.t 2)),o 11 (.ld none (.t 10)),o 12 (.fld 0 (.t 3)),o 13 (.ld none (.t 12)),o 15 (.fld 1 (.t 2)),o 16 (.ld none (.t 15)),⟨some 14,none, .call 67 [.t 11, .t 13],[(some 16,none, .ld none (.t 15))]⟩,o 17 (.call 66 [.t 14, .t 16]),od (.st 2 (.t 4) (.t 17))]) .ret) .skip)) (.seq (.seq (.reg [o 18 (.fld 0 (.t 2)),o 19 (.ld none (.t 18)),o 20 (.fld 0 (.t 3)),o 21 (.ld none (.t 20)),o 22 (.call 68 [.t 19, .t 21]),o 23 (.bin .geq (.t 22) (i64 0))]) (.cond (.t 23) (.seq (.reg [o 24 (.fld 0 (.t 2)),o 25 (.ld none (.t 24)),o 26 (.fld 0 (.t 3)),o 27 (.ld none (.t 26)),o 29 (.fld 1 (.t 2)),o 30 (.ld none (.t 29)),⟨some 28,none, .call 69 [.t 25, .t 27],[(some 30,none, .ld none (.t 29))]⟩,o 31 (.call 66 [.t 28, .t 30]),od (.st 2 (.t 4) (.t 31))]) .ret) .skip)) (.seq (.reg [o 32 (.fld 0 (.t 3)),o 33 (.ld none (.t 32)),o 34 (.fld 0 (.t 2)),o 35 (.ld none (.t 34)),o 37 (.fld 1 (.t 3)),o 38 (.ld none (.t 37)),⟨some 36,none, .call 69 [.t 33, .t 35],[(some 38,none, .ld none (.t 37))]⟩,o 39 (.call 66 [.t 36, .t 38]),od (.st 2 (.t 4) (.t 39))]) .ret)))
theorem in_ref17_Add:Ent 38 40 c_ref17_Add [.c 4 (some 2)]:=ent Try.func38 rfl rfl rfl (show compile _ 40 _=_ by kernel_rfl) (show compRes _ 40 _=_ by kernel_rfl)
def c_ref17_Sub:AC:= .seq (.reg [o 2 (.box 61 (.t 0)),o 3 (.box 61 (.t 1)),o 4 (.alloc 61 [.sl none 0 0 none, .bool false])]) (.seq (.reg [o 5 (.ld (some 2) (.t 2)),o 6 (.ld (some 2) (.t 3)),⟨some 7,none, .call 71 [.t 6],[(some 5,none, .ld (some 2) (.t 2))]⟩,o 8 (.call 38 [.t 5, .t 7]),od (.st 2 (.t 4) (.t 8))]) .ret)
theorem in_ref17_Sub:Ent 41 9 c_ref17_Sub [.c 4 (some 2)]:=ent Try.func41 rfl rfl rfl (show compile _ 9 _=_ by kernel_rfl) (show compRes _ 9 _=_ by kernel_rfl)
def c_ref17_Mul:AC:= .seq (.reg [o 2 (.box 61 (.t 0)),o 3 (.box 61 (.t 1)),o 4 (.alloc 61 [.sl none 0 0 none, .bool false])]) (.seq (.reg [o 5 (.fld 0 (.t 2)),o 6 (.ld none (.t 5)),o 7 (.fld 0 (.t 3)),o 8 (.ld none (.t 7)),o 10 (.fld 1 (.t 2)),o 11 (.ld none (.t 10)),o 12 (.fld 1 (.t 3)),o 13 (.ld none (.t 12)),o 14 (.beq true (.t 11) (.t 13)),⟨some 9,none, .call 73 [.t 6, .t 8],[(some 11,none, .ld none (.t 10)),(some 13,none, .ld none (.t 12))]⟩,o 15 (.call 66 [.t 9, .t 14]),od (.st 2 (.t 4) (.t 15))]) .ret)
theorem in_ref17_Mul:Ent 45 16 c_ref17_Mul [.c 4 (some 2)]:=ent Try.func45 rfl rfl rfl (show compile _ 16 _=_ by kernel_rfl) (show compRes _ 16 _=_ by kernel_rfl)
def c_ref17_Small:AC:= .seq (.reg [o 2 (.alloc 61 [.sl none 0 0 none, .bool false])]) (.seq (.seq (.reg [mv 3 0,o 4 (.bin .lss (.t 3) (i64 0))]) (.cond (.t 4) (.seq (.reg [mv 5 0,o 6 (.un .neg (.t 5)),o 7 (.cvI .u64 (.t 6)),o 8 (.call 32 [.t 7]),o 9 (.call 66 [.t 8, .c (.bool true)]),od (.st 2 (.t 2) (.t 9))]) .ret) .skip)) (.seq (.reg [mv 10 0,o 11 (.cvI .u64 (.t 10)),o 12 (.call 32 [.t 11]),o 13 (.call 66 [.t 12, .c (.bool false)]),od (.st 2 (.t 2) (.t 13))]) .ret))
theorem in_ref17_Small:Ent 46 14 c_ref17_Small [.c 2 (some 2)]:=ent Try.func46 rfl rfl rfl (show compile _ 14 _=_ by kernel_rfl) (show compRes _ 14 _=_ by kernel_rfl)
def c_ref17_From:AC:= .seq (.reg [o 1 (.box 45 (.t 0)),o 2 (.alloc 61 [.sl none 0 0 none, .bool false])]) (.seq (.reg [o 3 (.fld 0 (.t 1)),o 4 (.ld none (.t 3)),o 6 (.fld 1 (.t 1)),o 7 (.ld none (.t 6)),⟨some 5,none, .call 60 [.t 4],[(some 7,none, .ld none (.t 6))]⟩,o 8 (.call 66 [.t 5, .t 7]),od (.st 2 (.t 2) (.t 8))]) .ret)
theorem in_ref17_From:Ent 53 9 c_ref17_From [.c 2 (some 2)]:=ent Try.func53 rfl rfl rfl (show compile _ 9 _=_ by kernel_rfl) (show compRes _ 9 _=_ by kernel_rfl)
def c_ref17_Euclid:AC:= .seq (.reg [o 2 (.box 61 (.t 0)),o 3 (.box 61 (.t 1)),o 4 (.alloc 61 [.sl none 0 0 none, .bool false]),o 5 (.alloc 61 [.sl none 0 0 none, .bool false])]) (.seq (.reg [o 9 (.ld (some 2) (.t 2)),o 10 (.ld (some 2) (.t 3)),o 11 (.call 83 [.t 9, .t 10]),mv 8 11,o 12 (.ext (.t 8) 0),o 13 (.ext (.t 8) 1),o 6 (.alloc 61 [.sl none 0 0 none, .bool false]),o 7 (.alloc 61 [.sl none 0 0 none, .bool false]),od (.st 2 (.t 6) (.t 12)),od (.st 2 (.t 7) (.t 13))]) (.seq (.seq (.reg [o 14 (.fld 1 (.t 7)),o 15 (.ld none (.t 14)),o 16 (.un .not (.t 15))]) (.cond (.t 16) (.seq (.reg [o 17 (.ld (some 2) (.t 6)),o 18 (.ld (some 2) (.t 7)),⟨none,none, .st 2 (.t 4) (.t 17),[(some 18,none, .ld (some 2) (.t 7))]⟩,od (.st 2 (.t 5) (.t 18))]) .ret) .skip)) (.seq (.seq (.reg [o 19 (.fld 1 (.t 3)),o 20 (.ld none (.t 19))]) (.cond (.t 20) (.seq (.reg [o 21 (.ld (some 2) (.t 6)),o 24 (.ld (some 2) (.t 7)),o 25 (.ld (some 2) (.t 3)),⟨some 22,none, .call 46 [i64 1],[(some 21,none, .ld (some 2) (.t 6)),(some 24,none, .ld (some 2) (.t 7)),(some 25,none, .ld (some 2) (.t 3))]⟩,⟨some 23,none, .call 38 [.t 21, .t 22],[(some 24,none, .ld (some 2) (.t 7)),(some 25,none, .ld (some 2) (.t 3))]⟩,o 26 (.call 41 [.t 24, .t 25]),od (.st 2 (.t 4) (.t 23)),od (.st 2 (.t 5) (.t 26))]) .ret) .skip)) (.seq (.reg [o 27 (.ld (some 2) (.t 6)),o 30 (.ld (some 2) (.t 7)),o 31 (.ld (some 2) (.t 3)),⟨some 28,none, .call 46 [i64 1],[(some 27,none, .ld (some 2) (.t 6)),(some 30,none, .ld (some 2) (.t 7)),(some 31,none, .ld (some 2) (.t 3))]⟩,⟨some 29,none, .call 41 [.t 27, .t 28],[(some 30,none, .ld (some 2) (.t 7)),(some 31,none, .ld (some 2) (.t 3))]⟩,o 32 (.call 38 [.t 30, .t 31]),od (.st 2 (.t 4) (.t 29)),od (.st 2 (.t 5) (.t 32))]) .ret))))
theorem in_ref17_Euclid:Ent 58 33 c_ref17_Euclid [.c 4 (some 2), .c 5 (some 2)]:=ent Try.func58 rfl rfl rfl (show compile _ 33 _=_ by kernel_rfl) (show compRes _ 33 _=_ by kernel_rfl)
def c_ref17_Nat:AC:= .seq (.reg [o 2 (.alloc 61 [.sl none 0 0 none, .bool false])]) (.seq (.reg [mv 3 0,o 4 (.bld [.sl none 0 0 none, .bool false] [(0,1, .t 3),(1,1, .c (.bool false))]),od (.st 2 (.t 2) (.t 4))]) .ret)
theorem in_ref17_Nat:Ent 59 5 c_ref17_Nat [.c 2 (some 2)]:=ent Try.func59 rfl rfl rfl (show compile _ 5 _=_ by kernel_rfl) (show compRes _ 5 _=_ by kernel_rfl)
def c_ref17_To:AC:= .seq (.reg [o 1 (.box 61 (.t 0)),o 2 (.alloc 45 [.sl none 0 0 none, .bool false])]) (.seq (.reg [o 3 (.fld 0 (.t 1)),o 4 (.ld none (.t 3)),o 6 (.fld 1 (.t 1)),o 7 (.ld none (.t 6)),⟨some 5,none, .call 30 [.t 4],[(some 7,none, .ld none (.t 6))]⟩,o 8 (.bld [.sl none 0 0 none, .bool false] [(0,1, .t 5),(1,1, .t 7)]),od (.st 2 (.t 2) (.t 8))]) .ret)
theorem in_ref17_To:Ent 65 9 c_ref17_To [.c 2 (some 2)]:=ent Try.func65 rfl rfl rfl (show compile _ 9 _=_ by kernel_rfl) (show compRes _ 9 _=_ by kernel_rfl)
def c_ref17_made:AC:= .seq (.reg [o 4 (.alloc 61 [.sl none 0 0 none, .bool false])]) (.seq (.reg [mv 5 0,mv 6 1,mv 7 6,og 8 7 true (.mv (.t 0)),og 9 7 true (.call 87 [.t 8]),og 10 7 true (.un .not (.t 9)),o 11 (.pick (.t 7) (.t 10) (.c (.bool false))),o 12 (.bld [.sl none 0 0 none, .bool false] [(0,1, .t 5),(1,1, .t 11)]),od (.st 2 (.t 4) (.t 12))]) .ret)
theorem in_ref17_made:Ent 66 13 c_ref17_made [.c 4 (some 2)]:=ent Try.func66 rfl rfl rfl (show compile _ 13 _=_ by kernel_rfl) (show compRes _ 13 _=_ by kernel_rfl)
def c_ref17_Zero:AC:= .seq (.reg [o 1 (.box 61 (.t 0)),o 2 (.mv (.c (.bool false)))]) (.seq (.reg [o 3 (.fld 0 (.t 1)),o 4 (.ld none (.t 3)),o 5 (.call 87 [.t 4]),mv 2 5]) .ret)
theorem in_ref17_Zero:Ent 70 6 c_ref17_Zero [.t 2]:=ent Try.func70 rfl rfl rfl (show compile _ 6 _=_ by kernel_rfl) (show compRes _ 6 _=_ by kernel_rfl)
def c_ref17_Neg:AC:= .seq (.reg [o 1 (.box 61 (.t 0)),o 2 (.alloc 61 [.sl none 0 0 none, .bool false])]) (.seq (.reg [o 3 (.fld 0 (.t 1)),o 4 (.ld none (.t 3)),o 5 (.fld 1 (.t 1)),o 6 (.ld none (.t 5)),o 7 (.un .not (.t 6)),o 8 (.call 66 [.t 4, .t 7]),od (.st 2 (.t 2) (.t 8))]) .ret)
theorem in_ref17_Neg:Ent 71 9 c_ref17_Neg [.c 2 (some 2)]:=ent Try.func71 rfl rfl rfl (show compile _ 9 _=_ by kernel_rfl) (show compRes _ 9 _=_ by kernel_rfl)
def c_ref17_Trunc:AC:= .seq (.reg [o 2 (.box 61 (.t 0)),o 3 (.box 61 (.t 1)),o 4 (.alloc 61 [.sl none 0 0 none, .bool false]),o 5 (.alloc 61 [.sl none 0 0 none, .bool false])]) (.seq (.reg [o 9 (.fld 0 (.t 2)),o 10 (.ld none (.t 9)),o 11 (.fld 0 (.t 3)),o 12 (.ld none (.t 11)),o 13 (.call 91 [.t 10, .t 12]),mv 8 13,o 14 (.ext (.t 8) 0),o 15 (.ext (.t 8) 1),mv 6 14,mv 7 15]) (.seq (.reg [mv 16 6,o 17 (.fld 1 (.t 2)),o 18 (.ld none (.t 17)),o 19 (.fld 1 (.t 3)),o 20 (.ld none (.t 19)),o 21 (.beq true (.t 18) (.t 20)),mv 23 7,o 24 (.fld 1 (.t 2)),o 25 (.ld none (.t 24)),⟨some 22,none, .call 66 [.t 16, .t 21],[(some 25,none, .ld none (.t 24))]⟩,o 26 (.call 66 [.t 23, .t 25]),od (.st 2 (.t 4) (.t 22)),od (.st 2 (.t 5) (.t 26))]) .ret))
theorem in_ref17_Trunc:Ent 83 27 c_ref17_Trunc [.c 4 (some 2), .c 5 (some 2)]:=ent Try.func83 rfl rfl rfl (show compile _ 27 _=_ by kernel_rfl) (show compRes _ 27 _=_ by kernel_rfl)
end
theorem wI {n:Int} (h1: -9223372036854775808≤n) (h2:n<9223372036854775808):IntKind.i64.wrap n=n:=by rw[IntKind.wrap_i64];omega
theorem wU {n:Int} (h1:0≤n) (h2:n<18446744073709551616):IntKind.u64.wrap n=n:=by rw[IntKind.wrap_u64];omega
theorem wUm {n:Int}:IntKind.u64.wrap n=n%18446744073709551616:=IntKind.wrap_u64 n
theorem tmodN {a:Nat} {b:Nat}:((a:Int)).tmod (b:Int)=((a%b:Nat):Int):=by rw[Int.tmod_eq_emod_of_nonneg (by omega)];rfl
theorem tdivN {a:Nat} {b:Nat}:((a:Int)).tdiv (b:Int)=((a/b:Nat):Int):=by rw[Int.tdiv_eq_ediv_of_nonneg (by omega)];rfl
theorem bandN {a b:Nat} (ha:a<18446744073709551616) (hb:b<18446744073709551616):IntKind.u64.wrap ((BitVec.ofInt IntKind.u64.bits (a:Int)&&&BitVec.ofInt IntKind.u64.bits (b:Int)).toNat:Int)=((a&&&b:Nat):Int):=by
 have e1:(BitVec.ofInt IntKind.u64.bits (a:Int)&&&BitVec.ofInt IntKind.u64.bits (b:Int)).toNat=a&&&b:=by
  rw[BitVec.toNat_and,BitVec.toNat_ofInt,BitVec.toNat_ofInt]
  show((a:Int)%18446744073709551616).toNat&&&((b:Int)%18446744073709551616).toNat=_
  rw[show((a:Int)%18446744073709551616).toNat=a from by omega,show((b:Int)%18446744073709551616).toNat=b from by omega]
 rw[e1]
 exact wU (by omega) (by have:=Nat.and_lt_two_pow (n:=64) a (y:=b) (by omega);omega)
theorem borN {a b:Nat} (ha:a<18446744073709551616) (hb:b<18446744073709551616):IntKind.u64.wrap ((BitVec.ofInt IntKind.u64.bits (a:Int)|||BitVec.ofInt IntKind.u64.bits (b:Int)).toNat:Int)=((a|||b:Nat):Int):=by
 have e1:(BitVec.ofInt IntKind.u64.bits (a:Int)|||BitVec.ofInt IntKind.u64.bits (b:Int)).toNat=a|||b:=by
  rw[BitVec.toNat_or,BitVec.toNat_ofInt,BitVec.toNat_ofInt]
  show((a:Int)%18446744073709551616).toNat|||((b:Int)%18446744073709551616).toNat=_
  rw[show((a:Int)%18446744073709551616).toNat=a from by omega,show((b:Int)%18446744073709551616).toNat=b from by omega]
 rw[e1]
 exact wU (by omega) (by have:=Nat.or_lt_two_pow (n:=64) (x:=a) (y:=b) (by omega) (by omega);omega)
def val (B:Nat):List Nat→Nat
 |[]=>0
 |x::xs=>x+B*val B xs
theorem val_append (B:Nat) (xs ys:List Nat):val B (xs++ys)=val B xs+B^xs.length*val B ys:=by
 induction xs with
 |nil=>simp[val]
 |cons x xs ih=>
  simp only[List.cons_append,val,ih,List.length_cons,Nat.pow_succ,Nat.mul_add]
  rw[Nat.mul_comm (B^xs.length) B,Nat.mul_assoc,Nat.add_assoc]
theorem val_snoc (B:Nat) (xs:List Nat) (y:Nat):val B (xs++[y])=val B xs+B^xs.length*y:=by simp[val_append,val]
theorem val_zero (B:Nat) (xs:List Nat) (h:∀x∈xs,x=0):val B xs=0:=by
 induction xs with
 |nil=>rfl
 |cons x xs ih=>simp[val,h x (by simp),ih (fun y hy=>h y (by simp[hy]))]
theorem val_cut (B:Nat) (xs:List Nat) (k:Nat) (h:k≤xs.length):val B xs=val B (xs.take k)+B^k*val B (xs.drop k):=by
 rw[←List.take_append_drop k xs,val_append]
 simp[Nat.min_eq_left h]
theorem val_take (B:Nat) (xs:List Nat) (k:Nat) (h:∀x∈xs.drop k,x=0):val B (xs.take k)=val B xs:=by
 conv=>rhs;rw[←List.take_append_drop k xs,val_append,val_zero B _ h]
 simp
theorem val_take_succ (B:Nat) (xs:List Nat) (k:Nat) (h:k<xs.length):val B (xs.take (k+1))=val B (xs.take k)+B^k*xs[k]:=by
 rw[List.take_succ_eq_append_getElem h,val_snoc]
 simp[Nat.min_eq_left (Nat.le_of_lt h)]
theorem val_lt (B:Nat) (_:0<B) (xs:List Nat) (h:∀x∈xs,x<B):val B xs<B^xs.length:=by
 induction xs with
 |nil=>simp[val]
 |cons x xs ih=>
  have h1:=h x (by simp)
  have h2:=ih (fun y hy=>h y (by simp[hy]))
  simp only[val,List.length_cons,Nat.pow_succ]
  rw[Nat.mul_comm _ B]
  calc x+B*val B xs<B+B*val B xs:=by omega
   _=B*(val B xs+1):=by rw[Nat.mul_add];omega
   _≤B*B^xs.length:=Nat.mul_le_mul_left _ h2
theorem val_lt_take (B:Nat) (hB:0<B) (xs:List Nat) (h:∀x∈xs,x<B) (k:Nat):val B (xs.take k)<B^k:=by
 have h1:=val_lt B hB (xs.take k) (fun x hx=>h x (List.mem_of_mem_take hx))
 refine Nat.lt_of_lt_of_le h1 (Nat.pow_le_pow_right hB ?_)
 simp;omega
theorem val_inj (B:Nat) (hB:0<B):∀(xs ys:List Nat),xs.length=ys.length→(∀x∈xs,x<B)→(∀x∈ys,x<B)→val B xs=val B ys→xs=ys
 |[],[],_,_,_,_=>rfl
 |[],_::_,h,_,_,_=>by simp at h
 |_::_,[],h,_,_,_=>by simp at h
 |x::xs,y::ys,h,h1,h2,h3=>by
  simp only[val] at h3
  have hx:=h1 x (by simp)
  have hy:=h2 y (by simp)
  have e1:x=y:=by
   have:=congrArg (· %B) h3
   simpa [Nat.add_mul_mod_self_left,Nat.mod_eq_of_lt hx,Nat.mod_eq_of_lt hy] using this
  subst e1
  have e2:val B xs=val B ys:=Nat.eq_of_mul_eq_mul_left hB (by omega)
  rw[val_inj B hB xs ys (by simpa using h) (fun z hz=>h1 z (by simp[hz])) (fun z hz=>h2 z (by simp[hz])) e2]
def IsN (h:H) (v:AV) (xs:List Nat):Prop:=IsW .u64 h v (xs.map fun n:Nat=>(n:Int))
theorem IsN.mono {h h':H} {v:AV} {xs:List Nat} (hv:IsN h v xs) (hl:h.le h'):IsN h' v xs:=IsW.mono hv hl
theorem IsN.form {h:H} {v:AV} {xs:List Nat} (hv:IsN h v xs):∃id off c,v= .sl id off xs.length c:=by
 obtain⟨id,off,c,e⟩:=IsW.form hv
 exact⟨id,off,c,by simpa using e⟩
theorem IsN.at {h:H} {id:Option Nat} {off n:Nat} {c:Option Nat} {xs:List Nat} (hv:IsN h (.sl id off n c) xs) {j:Nat} (hj:j<xs.length):∃i,id=some i∧n=xs.length∧h.get i (off+j)=some (.int .u64 (xs[j]:Nat)):=by
 obtain⟨i,e1,e2,e3⟩:=IsW.at hv (j:=j) (by simpa using hj)
 exact⟨i,e1,by simpa using e2,by simpa using e3⟩
theorem IsN.row {h:H} {id:Option Nat} {off n:Nat} {c:Option Nat} {xs:List Nat} (hv:IsN h (.sl id off n c) xs):∀i,id=some i→∃r,h.rows i=some r∧(r.own=none∨r.esz=1):=IsW.row hv
theorem IsN.cut {h:H} {id:Option Nat} {off n:Nat} {c c':Option Nat} {xs:List Nat} (hv:IsN h (.sl id off n c) xs) {a b:Nat} (hab:a≤b) (hb:b≤xs.length):IsN h (.sl id (off+a) (b-a) c') ((xs.take b).drop a):=by
 have:=IsW.cut (c':=c') hv hab (by simpa using hb)
 unfold IsN
 rw[List.map_drop,List.map_take]
 exact this
theorem IsN.take {h:H} {id:Option Nat} {off n:Nat} {c c':Option Nat} {xs:List Nat} (hv:IsN h (.sl id off n c) xs) {b:Nat} (hb:b≤xs.length):IsN h (.sl id off b c') (xs.take b):=by
 have:=IsN.cut (c':=c') hv (Nat.zero_le b) hb
 simpa using this
theorem IsN.nil (h:H) (c:Option Nat):IsN h (.sl none 0 0 c) []:=IsW.nil _ _ _
def IsG (b:Nat) (h:H) (v:AV) (xs:List Nat):Prop:=IsF 23 .u64 b h v (xs.map fun n:Nat=>(n:Int))
def Num (B:Nat) (h:H) (v:AV) (n:Nat):Prop:=∃xs,IsN h v xs∧(∀x∈xs,x<B)∧(∀x,xs.getLast? =some x→x≠0)∧val B xs=n
theorem Num.mono {B:Nat} {h h':H} {v:AV} {n:Nat} (hv:Num B h v n) (hl:h.le h'):Num B h' v n:=by
 obtain⟨xs,h1,h2⟩:=hv
 exact⟨xs,h1.mono hl,h2⟩
theorem val_ge (B:Nat) (xs:List Nat) (h:∀x,xs.getLast? =some x→x≠0) (h0:xs≠ []):B^(xs.length-1)≤val B xs:=by
 rcases List.eq_nil_or_concat xs with rfl|⟨ys,y,rfl⟩
 ·exact absurd rfl h0
 ·have hy:=h y (by simp)
  rw[List.concat_eq_append,val_snoc]
  simp only[List.length_append,List.length_cons,List.length_nil]
  have:B^ys.length*1≤B^ys.length*y:=Nat.mul_le_mul_left _ (by omega)
  simp only[Nat.mul_one] at this
  show B^(ys.length+1-1)≤_
  rw[Nat.add_sub_cancel]
  omega
theorem digits_le (B:Nat) (hB:1<B) {xs:List Nat} (h:∀x,xs.getLast? =some x→x≠0) {k:Nat} (hk:val B xs<B^k):xs.length≤k:=by
 by_cases h0:xs=[]
 ·subst h0;simp
 ·have h1:=val_ge B xs h h0
  have h2:B^(xs.length-1)<B^k:=by omega
  have h3:=(Nat.pow_lt_pow_iff_right hB).1 h2
  omega
theorem digits_lt_iff (B:Nat) (hB:1<B) {xs ys:List Nat} (hx:∀x∈xs,x<B) (h:∀x,ys.getLast? =some x→x≠0) (hl:xs.length<ys.length):val B xs<val B ys:=by
 have h1:=val_lt B (by omega) xs hx
 have h2:=val_ge B ys h (by intro e;subst e;simp at hl)
 have h3:B^xs.length≤B^(ys.length-1):=Nat.pow_le_pow_right (by omega) (by omega)
 omega
theorem IsN.lit {h:H} {l:List AV} (ys:List Nat) (t:TypeId) {n:Nat} (hn:n=ys.length) (hl:l=W .u64 (ys.map fun n:Nat=>(n:Int))):IsN (h.new ⟨some t,1,l⟩) (.sl (some h.next) 0 n (some n)) ys:=by
 subst hl
 have:=IsW.lit (t:=t) (k:= .u64) (h:=h) (ys.map fun n:Nat=>(n:Int))
 subst hn
 simpa [IsN] using this
theorem IsG.isN {b:Nat} {h:H} {v:AV} {xs:List Nat} (hv:IsG b h v xs):IsN h v xs:=IsF.isW hv
theorem IsG.mono {b:Nat} {h h':H} {v:AV} {xs:List Nat} (hv:IsG b h v xs) (hl:h.le h'):IsG b h' v xs:=IsF.mono hv hl
theorem H.le_old {a h h':H} (ha:a.wf) (k:a.le h) (hn:h.next≤h'.next) (ho:∀i r,i<a.next→h.rows i=some r→h'.rows i=some r):a.le h':=
 ⟨Nat.le_trans k.1 hn,fun i r e=>ho i r (H.row_lt ha e) (k.2 i r e)⟩
theorem app_num {a h:H} {K:AV→H→Prop} {s x:AV} {xs ys:List Nat} (ha:a.wf) (hw:h.wf) (hah:a.le h) (hs:IsG a.next h s xs) (hx:IsN h x ys) (hl:xs.length+ys.length≤17592186044416)
  (hk:∀v h',h'.wf→a.le h'→IsG a.next h' v (xs++ys)→K v h'):appK 23 1 8 s x h K:=by
 refine app_own hw hs hx hah.1 ?_ ?_ (fun v h' w' hv hn ho=>hk v h' w' (H.le_old ha hah hn ho) ?_)
 ·simp;omega
 ·simp;omega
 ·simpa [IsG] using hv
theorem app_lit {a h:H} {K:AV→H→Prop} {s:AV} {xs:List Nat} {l:List AV} {n:Nat} (ys:List Nat) (ha:a.wf) (hw:h.wf) (hah:a.le h) (hs:IsG a.next h s xs) (hn:n=ys.length) (hy:l=W .u64 (ys.map fun n:Nat=>(n:Int))) (hl:xs.length+ys.length≤17592186044416)
  (hk:∀v h',h'.wf→a.le h'→IsG a.next h' v (xs++ys)→K v h'):appK 23 1 8 s (.sl (some h.next) 0 n (some n)) (h.new ⟨some 23,1,l⟩) K:=
 app_num ha (H.wf_new hw _) (H.le_new hw hah _) (hs.mono (H.le_new hw (H.le_refl h) _)) (IsN.lit ys _ hn hy) hl hk
theorem IsG.made {b:Nat} {h:H} (hb:b≤h.next) (n:Nat):IsG b (h.new ⟨some 23,1,zs [AV.int .u64 0] n⟩) (.sl (some h.next) 0 n (some n)) (List.replicate n 0):=by
 have:=IsF.made (t:=23) (k:= .u64) hb n
 simpa [IsG] using this
theorem IsG.made0 {b:Nat} {h:H} (hb:b≤h.next) (n:Nat):IsG b (h.new ⟨some 23,1,zs [AV.int .u64 0] n⟩) (.sl (some h.next) 0 0 (some n)) []:=IsF.made0 hb n
theorem IsG.put {b:Nat} {h:H} {id:Option Nat} {n:Nat} {c:Option Nat} {xs:List Nat} (hw:h.wf) (hv:IsG b h (.sl id 0 n c) xs) {j:Nat} (hj:j<xs.length):∃i r,id=some i∧b≤i∧i<h.next∧h.rows i=some r∧r.own≠none∧j+1≤r.cells.length∧
  ∀x:Nat,IsG b (h.set i {r with cells:=putAt r.cells j [AV.int .u64 x]}) (.sl id 0 n c) (xs.set j x):=by
 obtain⟨i,r,h1,h2,h3,h4,h5,h6,h7⟩:=IsF.put hw hv (j:=j) (by simpa using hj)
 refine⟨i,r,h1,h2,h3,h4,h5,h6,fun x=> ?_⟩
 have:=h7 x
 unfold IsG
 rw[List.map_set]
 exact this
theorem IsG.form {b:Nat} {h:H} {v:AV} {xs:List Nat} (hv:IsG b h v xs):∃id c,v= .sl id 0 xs.length c:=by
 obtain⟨id,c,e,_⟩:=hv
 exact⟨id,c,by simpa using e⟩
end Ab
end Go.Proofs.Ytkbglkjpdndkiaa
