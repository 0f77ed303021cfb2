/- Joined texts: S1 B1 D1 N1 N2 N8 N3 B2 C1 C3. No condition. -/
import Derived.Test.YtkbglkjpdndkiaaDoorZ2
import Derived.LoopN
import Derived.Laws.BitsLemmas
import Derived.Laws.Bits64
import Derived.Test.YtkbglkjpdndkiaaDoorProg
import Derived.KernelRfl
namespace Go.Proofs.YtkbglkjpdndkiaaDoor
namespace Ab
open Go Go.RowKit
set_option linter.unusedSimpArgs false
set_option linter.unusedVariables false
section
section
variable {P:Program} {ρ:Env} {h:H} {K:AV→H→Prop}
def bAnd (k:IntKind) (a b:Int):Int:=k.wrap (BitVec.ofInt k.bits a&&&BitVec.ofInt k.bits b).toNat
def bOr (k:IntKind) (a b:Int):Int:=k.wrap (BitVec.ofInt k.bits a|||BitVec.ofInt k.bits b).toNat
def bXor (k:IntKind) (a b:Int):Int:=k.wrap (BitVec.ofInt k.bits a^^^BitVec.ofInt k.bits b).toNat
def bCom (k:IntKind) (n:Int):Int:=k.wrap (BitVec.ofInt k.bits (if k.signed then-1 else k.max)^^^BitVec.ofInt k.bits n).toNat
def bShl (k:IntKind) (a:Int) (n:Nat):Int:=k.wrap (a*2^(min n k.bits))
def bShr (k:IntKind) (a:Int) (n:Nat):Int:=a.fdiv (2^(min n k.bits))
def H.get (h:H) (id off:Nat):Option AV:=(h.rows id).bind fun r=>r.cells[off]?
def H.gets (h:H) (id off n:Nat):Option (List AV):=(h.rows id).bind fun r=>if off+n≤r.cells.length then some ((r.cells.drop off).take n) else none
def vK (v:AV) (h:H) (K:AV→H→Prop):Prop:=K v h
def pickK (c a b:AV) (h:H) (K:AV→H→Prop):Prop:=match c with
 | .bool t=>K (if t=true then a else b) h
 |_=>False
def binK (op:BinOp) (x y:AV) (h:H) (K:AV→H→Prop):Prop:=abinV op x y (fun v=>K v h)
def beqK (ng:Bool) (x y:AV) (h:H) (K:AV→H→Prop):Prop:=match x,y with
 | .bool a, .bool b=>K (.bool (if ng then a !=b else a==b)) h
 |_,_=>False
def peqK (ng:Bool) (x y:AV) (h:H) (K:AV→H→Prop):Prop:=match x,y with
 | .ptr none, .ptr b=>K (.bool (ng !=b.isNone)) h
 | .ptr (some _), .ptr none=>K (.bool ng) h
 |_,_=>False
def idxSK (x i:AV) (h:H) (K:AV→H→Prop):Prop:=match x,i with
 | .str s, .int _ n=>0≤n∧∃b,s[n.toNat]? =some b∧K (.int .u8 b.toNat) h
 |_,_=>False
def seqK (ng:Bool) (x y:AV) (h:H) (K:AV→H→Prop):Prop:=match x,y with
 | .str a, .str b=>K (.bool (ng !=(a==b))) h
 |_,_=>False
def catK (x y:AV) (h:H) (K:AV→H→Prop):Prop:=match x,y with
 | .str a, .str b=>a.size+b.size<9223372036854775808∧K (.str (a++b)) h
 |_,_=>False
def eqsK (ng:Bool) (b:Option Bool) (h:H) (K:AV→H→Prop):Prop:=match b with
 |some b=>K (.bool (ng !=b)) h
 |none=>False
def aeqK (ng:Bool) (n:Nat) (x y:AV) (h:H) (K:AV→H→Prop):Prop:=match x,y with
 | .agg l, .agg m=>l.length=n∧m.length=n∧eqsK ng (eqs l m) h K
 |_,_=>False
def gldK (o:Option Nat) (h:H) (K:AV→H→Prop):Prop:=match o with
 |some n=>K (.int .u8 n) h
 |none=>False
def unK (op:UnOp) (x:AV) (h:H) (K:AV→H→Prop):Prop:=match op,x with
 | .neg, .int k n=>K (.int k (k.wrap (0-n))) h
 | .xor, .int k n=>K (.int k (k.wrap (BitVec.ofInt k.bits (if k.signed then-1 else k.max)^^^BitVec.ofInt k.bits n).toNat)) h
 | .not, .bool b=>K (.bool (!b)) h
 |_,_=>False
def cvIK (k:IntKind) (x:AV) (h:H) (K:AV→H→Prop):Prop:=match x with
 | .int _ n=>K (.int k (k.wrap n)) h
 |_=>False
def idxK (z:Nat) (x i:AV) (h:H) (K:AV→H→Prop):Prop:=match x,i with
 | .sl (some id) off len _, .int _ n=>0≤n∧n<len∧K (.ptr (some (id,off+n.toNat*z))) h
 |_,_=>False
def idxAK (m z:Nat) (x i:AV) (h:H) (K:AV→H→Prop):Prop:=match x,i with
 | .ptr (some (id,off)), .int _ n=>0≤n∧n<m∧K (.ptr (some (id,off+n.toNat*z))) h
 | .gp g off, .int _ n=>0≤n∧n<m∧K (.gp g (off+n.toNat*z)) h
 |_,_=>False
def btsK (x:AV) (h:H) (K:AV→H→Prop):Prop:=match x with
 | .sl (some id) off n _=>∃r,h.rows id=some r∧0<n∧off+n≤r.cells.length∧allU8 ((r.cells.drop off).take n)=true∧K (.str (bytesOf ((r.cells.drop off).take n))) h
 |_=>False
def fldK (off:Nat) (x:AV) (h:H) (K:AV→H→Prop):Prop:=match x with
 | .ptr (some (id,o))=>K (.ptr (some (id,o+off))) h
 |_=>False
def getK (v:Option AV) (h:H) (K:AV→H→Prop):Prop:=match v with
 |some v=>K v h
 |none=>False
def idxVK (sz:Option Nat) (m z:Nat) (x i:AV) (h:H) (K:AV→H→Prop):Prop:=match x,i with
 | .agg l, .int _ n=>0≤n∧n<m∧(match sz with
  |none=>getK l[n.toNat*z]? h K
  |some s=>n.toNat*z+s≤l.length∧K (.agg ((l.drop (n.toNat*z)).take s)) h)
 |_,_=>False
def getsK (v:Option (List AV)) (h:H) (K:AV→H→Prop):Prop:=match v with
 |some l=>K (.agg l) h
 |none=>False
def ldK (sz:Option Nat) (p:AV) (h:H) (K:AV→H→Prop):Prop:=match p with
 | .ptr (some (id,off))=>match sz with
  |none=>getK (h.get id off) h K
  |some n=>getsK (h.gets id off n) h K
 | .gp g off=>match sz with
  |none=>gldK (gcell g off) h K
  |some _=>False
 |_=>False
def putK (r:Option Row) (id off n:Nat) (l:List AV) (h:H) (K:AV→H→Prop):Prop:=match r with
 |some r=>r.own≠none∧off+n≤r.cells.length∧K .junk (h.set id {r with cells:=putAt r.cells off l})
 |none=>False
def stK (n:Nat) (p v:AV) (h:H) (K:AV→H→Prop):Prop:=match p with
 | .ptr (some (id,off))=>v.held=true∧v.cells.length=n∧(v.cells.all (·.one))=true∧putK (h.rows id) id off n v.cells h K
 |_=>False
def nnK (x:AV) (h:H) (K:AV→H→Prop):Prop:=match x with
 | .ptr (some p)=>K (.ptr (some p)) h
 |_=>False
def prtK (sz:Option Nat) (off:Nat) (x:AV) (h:H) (K:AV→H→Prop):Prop:=match x with
 | .agg l=>match sz with
  |none=>getK l[off]? h K
  |some n=>off+n≤l.length∧K (.agg ((l.drop off).take n)) h
 |_=>False
def natK (v:AV) (K:Nat→Prop):Prop:=match v with
 | .int _ n=>0≤n∧K n.toNat
 |_=>False
def slcK (z:Nat) (x:AV) (lo hi:Option AV) (h:H) (K:AV→H→Prop):Prop:=match x with
 | .sl id off len cap=>(match hi with|none=>fun(k:Nat→Prop)=>k len|some v=>natK v) fun b=>(match lo with|none=>fun(k:Nat→Prop)=>k 0|some v=>natK v) fun a=>
   a≤b∧(b≤len∨∃c,cap=some c∧b≤c)∧(∀i,id=some i→∃r,h.rows i=some r∧(r.own=none∨r.esz=z))∧K (.sl id (off+a*z) (b-a) (cap.map (· -a))) h
 |_=>False
def mkK (e:TypeId) (z b:Nat) (zr:List AV) (l c:AV) (h:H) (K:AV→H→Prop):Prop:=match l,c with
 | .int _ l, .int _ c=>0≤l∧l≤c∧b*c≤140737488355328∧K (.sl (some h.next) 0 l.toNat (some c.toNat)) (h.new ⟨some e,z,zs zr c.toNat⟩)
 |_,_=>False
def aggK (l:Option (List AV)) (h:H) (K:AV→H→Prop):Prop:=match l with
 |some l=>K (.agg l) h
 |none=>False
def bslK (l:Option (List AV)) (e:TypeId) (z n:Nat) (h:H) (K:AV→H→Prop):Prop:=match l with
 |some l=>K (.sl (some h.next) 0 n (some n)) (h.new ⟨some e,z,l⟩)
 |none=>False
def boxK (e:TypeId) (x:AV) (h:H) (K:AV→H→Prop):Prop:=x.held=true∧K (.ptr (some (h.next,0))) (h.new ⟨some e,x.cells.length,x.cells⟩)
def lenK (str:Bool) (x:AV) (h:H) (K:AV→H→Prop):Prop:=match str,x with
 |false, .sl _ _ n _=>K (.int .i64 n) h
 |true, .str s=>K (.int .i64 s.size) h
 |_,_=>False
def capoK (x:AV) (h:H) (K:AV→H→Prop):Prop:=match x with
 | .sl _ _ _ (some n)=>K (.int .i64 n) h
 |_=>False
def mnxK (mx:Bool) (x:AV) (ys:List AV) (h:H) (K:AV→H→Prop):Prop:=match x with
 | .int k a=>mnxs mx k a ys fun v=>K v h
 |_=>False
def appK (e:TypeId) (z b:Nat) (s x:AV) (h:H) (K:AV→H→Prop):Prop:=match s,x with
 | .sl ids offs n cs, .sl idx offx m _=>
  (m=0→K (.sl ids offs n cs) h)∧
  (m≠0→∃j r,idx=some j∧h.rows j=some r∧offx+m*z≤r.cells.length∧(((r.cells.drop offx).take (m*z)).all (·.one))=true∧(n+m)*b≤140737488355328∧n+m≤140737488355328∧
   ((ids=none∧n=0∧K (.sl (some h.next) 0 m none) (h.new ⟨some e,z,(r.cells.drop offx).take (m*z)⟩))∨
    (∃i q,ids=some i∧h.rows i=some q∧q.own=some e∧q.esz=z∧offs=0∧n*z≤q.cells.length∧
    K (.sl (some h.next) 0 (n+m) none) ((h.del ids).new ⟨some e,z,q.cells.take (n*z)++(r.cells.drop offx).take (m*z)⟩))))
 |_,_=>False
def cpyK (z:Nat) (d s:AV) (h:H) (K:AV→H→Prop):Prop:=match d,s with
 | .sl idd offd n _, .sl ids offs m _=>
  (min m n=0→K (.int .i64 0) h)∧
  (min m n≠0→∃i q j r,idd=some i∧h.rows i=some q∧q.own≠none∧ids=some j∧h.rows j=some r∧offs+min m n*z≤r.cells.length∧offd+min m n*z≤q.cells.length∧
   (((r.cells.drop offs).take (min m n*z)).all (·.one))=true∧K (.int .i64 (min m n)) (h.set i {q with cells:=putAt q.cells offd ((r.cells.drop offs).take (min m n*z))}))
 |_,_=>False
def extK (x:AV) (i:Nat) (h:H) (K:AV→H→Prop):Prop:=match x with
 | .tup l=>getK l[i]? h K
 |_=>False
def callVK (P:Program) (f:AV) (asx:List AV) (h:H) (K:AV→H→Prop):Prop:=match f with
 | .fn f first caps=>ACalls P f (first++asx++caps) h K
 |_=>False
def condK (v:AV) (X Y:Env→H→Prop) (ρ:Env) (h:H):Prop:=match v with
 | .bool t=>(t=true→X ρ h)∧(t=false→Y ρ h)
 |_=>False
def grdK (P:Program) (v:AV) (b:Bool) (o:AOp) (ρ:Env) (h:H) (K:AV→H→Prop):Prop:=match v with
 | .bool c=>if c=b then aexec P o ρ h K else K (.tup []) h
 | .tup []=>K (.tup []) h
 |_=>False
def kOps (P:Program) (os:List AOper) (Q:Env→H→Prop) (ρ:Env) (d:Option Nat) (v:AV) (h:H):Prop:=aops P os Q (aput ρ d v) h
def kChk (P:Program) (cs:List (Option Nat×Option (Nat×Bool)×AOp)) (os:List AOper) (Q:Env→H→Prop) (ρ:Env) (d:Option Nat) (v:AV) (h:H):Prop:=achks P ρ h cs∧aops P os Q (aput ρ d v) h
def kFin (P:Program) (rs:List AR) (acc:List AV) (K:AV→H→Prop) (ρ:Env) (h0:H) (v:AV) (_:H):Prop:=afin P rs (acc++[v]) K ρ h0

--an operation,by its kind
theorem x_mv {x:AO}:aexec P (.mv x) ρ h K=vK (aev ρ x) h K:=_root_.id rfl
theorem x_pick {c a b:AO}:aexec P (.pick c a b) ρ h K=pickK (aev ρ c) (aev ρ a) (aev ρ b) h K:=_root_.id rfl
theorem x_bin {op:BinOp} {x y:AO}:aexec P (.bin op x y) ρ h K=binK op (aev ρ x) (aev ρ y) h K:=_root_.id rfl
theorem x_beq {ng:Bool} {x y:AO}:aexec P (.beq ng x y) ρ h K=beqK ng (aev ρ x) (aev ρ y) h K:=_root_.id rfl
theorem x_peq {ng:Bool} {x y:AO}:aexec P (.peq ng x y) ρ h K=peqK ng (aev ρ x) (aev ρ y) h K:=_root_.id rfl
theorem x_seq {ng:Bool} {x y:AO}:aexec P (.seq ng x y) ρ h K=seqK ng (aev ρ x) (aev ρ y) h K:=_root_.id rfl
theorem x_cat {x y:AO}:aexec P (.cat x y) ρ h K=catK (aev ρ x) (aev ρ y) h K:=_root_.id rfl
theorem x_aeq {ng:Bool} {n:Nat} {x y:AO}:aexec P (.aeq ng n x y) ρ h K=aeqK ng n (aev ρ x) (aev ρ y) h K:=by
 apply propext
 simp only[aexec]
 generalize aev ρ x=p
 generalize aev ρ y=q
 cases p<;>try exact Iff.rfl
 cases q<;>try exact Iff.rfl
 rename_i l m
 simp only[aeqK]
 cases eqs l m<;>simp[eqsK]
theorem x_idxS {x y:AO}:aexec P (.idxS x y) ρ h K=idxSK (aev ρ x) (aev ρ y) h K:=_root_.id rfl
theorem x_idxV {sz:Option Nat} {m z:Nat} {x i:AO}:aexec P (.idxV sz m z x i) ρ h K=idxVK sz m z (aev ρ x) (aev ρ i) h K:=by
 apply propext
 simp only[aexec]
 generalize aev ρ x=p
 generalize aev ρ i=q
 cases p<;>try exact Iff.rfl
 cases q<;>try exact Iff.rfl
 rename_i l k n
 simp only[idxVK]
 cases sz with
 |none=>
  simp only
  cases hl:l[n.toNat*z]? with
  |none=>simp[getK]
  |some v=>simp[getK]
 |some s=>exact Iff.rfl
theorem x_un {op:UnOp} {x:AO}:aexec P (.un op x) ρ h K=unK op (aev ρ x) h K:=_root_.id rfl
theorem x_cvI {k:IntKind} {x:AO}:aexec P (.cvI k x) ρ h K=cvIK k (aev ρ x) h K:=_root_.id rfl
theorem x_idx {z:Nat} {x i:AO}:aexec P (.idx z x i) ρ h K=idxK z (aev ρ x) (aev ρ i) h K:=_root_.id rfl
theorem x_idxA {m z:Nat} {x i:AO}:aexec P (.idxA m z x i) ρ h K=idxAK m z (aev ρ x) (aev ρ i) h K:=_root_.id rfl
theorem x_bts {x:AO}:aexec P (.bts x) ρ h K=btsK (aev ρ x) h K:=_root_.id rfl
theorem x_fld {off:Nat} {x:AO}:aexec P (.fld off x) ρ h K=fldK off (aev ρ x) h K:=_root_.id rfl
theorem x_ld {sz:Option Nat} {p:AO}:aexec P (.ld sz p) ρ h K=ldK sz (aev ρ p) h K:=by
 apply propext
 simp only[aexec]
 generalize aev ρ p=q
 cases q<;>try exact Iff.rfl
 case gp g off=>
  simp only[ldK]
  cases sz with
  |none=>
   simp only
   cases hg:gcell g off<;>simp[gldK]
  |some n=>exact Iff.rfl
 rename_i o
 rcases o with _|⟨id,off⟩
 ·exact Iff.rfl
 ·simp only[ldK,H.get,H.gets]
  cases sz with
  |none=>
   cases hr:h.rows id with
   |none=>simp[getK]
   |some r=>
    cases hl:r.cells[off]? with
    |none=>simp[getK,hl]
    |some v=>simp[getK,hl]
  |some n=>
   cases hr:h.rows id with
   |none=>simp[getsK]
   |some r=>
    by_cases hl:off+n≤r.cells.length
    ·simp[getsK,hl]
    ·simp[getsK,hl]
theorem x_st {n:Nat} {p v:AO}:aexec P (.st n p v) ρ h K=stK n (aev ρ p) (aev ρ v) h K:=by
 apply propext
 simp only[aexec]
 generalize aev ρ p=q
 cases q<;>try exact Iff.rfl
 rename_i o
 rcases o with _|⟨id,off⟩
 ·exact Iff.rfl
 ·simp only[stK]
  cases hr:h.rows id with
  |none=>simp[putK]
  |some r=>
   simp only[putK,Option.some.injEq,exists_eq_left']
   constructor
   ·rintro⟨h1,h2,h3,h4,h5,h6⟩;exact⟨h2,h3,h5,h1,h4,h6⟩
   ·rintro⟨h1,h2,h3,h4,h5,h6⟩;exact⟨h4,h1,h2,h5,h3,h6⟩
theorem x_nn {x:AO}:aexec P (.nn x) ρ h K=nnK (aev ρ x) h K:=_root_.id rfl
theorem x_prt {sz:Option Nat} {off:Nat} {x:AO}:aexec P (.prt sz off x) ρ h K=prtK sz off (aev ρ x) h K:=by
 apply propext
 simp only[aexec]
 generalize aev ρ x=q
 cases q<;>try exact Iff.rfl
 rename_i l
 simp only[prtK]
 cases sz with
 |none=>
  cases hl:l[off]? with
  |none=>simp[getK]
  |some v=>simp[getK]
 |some n=>exact Iff.rfl
theorem x_slc {z:Nat} {x:AO} {lo hi:Option AO}:aexec P (.slc z x lo hi) ρ h K=slcK z (aev ρ x) (lo.map (aev ρ)) (hi.map (aev ρ)) h K:=by
 simp only[aexec]
 generalize aev ρ x=q
 cases q<;>try rfl
 cases lo<;>cases hi<;>rfl
theorem x_mk {e:TypeId} {z b:Nat} {zr:List AV} {l c:AO}:aexec P (.mk e z b zr l c) ρ h K=mkK e z b zr (aev ρ l) (aev ρ c) h K:=_root_.id rfl
theorem x_bsl {e:TypeId} {z n:Nat} {zr:List AV} {ps:List (Nat×AO)}:aexec P (.bsl e z n zr ps) ρ h K=bslK (abuild (zs zr n) (ps.map fun p=>(p.1*z,z,aev ρ p.2))) e z n h K:=by
 apply propext
 simp only[aexec,bslK]
 cases abuild (zs zr n) (ps.map fun p=>(p.1*z,z,aev ρ p.2))<;>simp
theorem x_bld {zr:List AV} {ps:List (Nat×Nat×AO)}:aexec P (.bld zr ps) ρ h K=aggK (abuild zr (ps.map fun p=>(p.1,p.2.1,aev ρ p.2.2))) h K:=by
 apply propext
 simp only[aexec,aggK]
 cases abuild zr (ps.map fun p=>(p.1,p.2.1,aev ρ p.2.2))<;>simp
theorem x_box {e:TypeId} {x:AO}:aexec P (.box e x) ρ h K=boxK e (aev ρ x) h K:=_root_.id rfl
theorem x_alloc {e:TypeId} {zr:List AV}:aexec P (.alloc e zr) ρ h K=K (.ptr (some (h.next,0))) (h.new ⟨some e,zr.length,zr⟩):=_root_.id rfl
theorem x_len {s:Bool} {x:AO}:aexec P (.len s x) ρ h K=lenK s (aev ρ x) h K:=_root_.id rfl
theorem x_capo {x:AO}:aexec P (.capo x) ρ h K=capoK (aev ρ x) h K:=_root_.id rfl
theorem x_mnx {m:Bool} {x:AO} {ys:List AO}:aexec P (.mnx m x ys) ρ h K=mnxK m (aev ρ x) (ys.map (aev ρ)) h K:=_root_.id rfl
theorem x_app {e:TypeId} {z b:Nat} {s x:AO}:aexec P (.app e z b s x) ρ h K=appK e z b (aev ρ s) (aev ρ x) h K:=_root_.id rfl
theorem x_cpy {z:Nat} {d s:AO}:aexec P (.cpy z d s) ρ h K=cpyK z (aev ρ d) (aev ρ s) h K:=_root_.id rfl
theorem x_mkf {f:FuncId} {a b:List AO}:aexec P (.mkf f a b) ρ h K=vK (.fn f (a.map (aev ρ)) (b.map (aev ρ))) h K:=_root_.id rfl
theorem x_ext {x:AO} {i:Nat}:aexec P (.ext x i) ρ h K=extK (aev ρ x) i h K:=by
 apply propext
 simp only[aexec]
 generalize aev ρ x=q
 cases q<;>try exact Iff.rfl
 rename_i l
 simp only[extK]
 cases hl:l[i]? with
 |none=>simp[getK]
 |some v=>simp[getK]
theorem x_call {f:FuncId} {asx:List AO}:aexec P (.call f asx) ρ h K=ACalls P f (asx.map (aev ρ)) h K:=_root_.id rfl
theorem x_callV {x:AO} {asx:List AO}:aexec P (.callV x asx) ρ h K=callVK P (aev ρ x) (asx.map (aev ρ)) h K:=_root_.id rfl
theorem x_bad:aexec P .bad ρ h K=False:=_root_.id rfl
--steps
theorem s_none {o:AOp}:astep P none o ρ h K=aexec P o ρ h K:=_root_.id rfl
theorem s_some {t:Nat} {b:Bool} {o:AOp}:astep P (some (t,b)) o ρ h K=grdK P (ρ t) b o ρ h K:=_root_.id rfl
theorem s_nil {Q:Env→H→Prop}:aops P [] Q ρ h=Q ρ h:=_root_.id rfl
theorem s_cons {d:Option Nat} {g:Option (Nat×Bool)} {op:AOp} {os:List AOper} {Q:Env→H→Prop}:aops P (⟨d,g,op,[]⟩::os) Q ρ h=astep P g op ρ h (kOps P os Q ρ d):=by
 simp only[aops,achks,true_and]
 rfl
theorem s_chks {d:Option Nat} {g:Option (Nat×Bool)} {op:AOp} {c:Option Nat×Option (Nat×Bool)×AOp} {cs:List (Option Nat×Option (Nat×Bool)×AOp)} {os:List AOper} {Q:Env→H→Prop}:aops P (⟨d,g,op,c::cs⟩::os) Q ρ h=astep P g op ρ h (kChk P (c::cs) os Q ρ d):=_root_.id rfl
theorem w_skip {Q:Post}:awp P .skip Q ρ h=Q .normal ρ h:=_root_.id rfl
theorem w_reg {os:List AOper} {Q:Post}:awp P (.reg os) Q ρ h=aops P os (Q .normal) ρ h:=_root_.id rfl
theorem tP_fin {Q:Env→H→Prop}:atP P Q .fin ρ h=Q ρ h:=_root_.id rfl
theorem tP_no {Q:Env→H→Prop}:atP P Q .no ρ h=True:=_root_.id rfl
theorem tP_alt {x:AOper} {ns:List AOper} {t r:AT} {Q:Env→H→Prop}:atP P Q (.alt x ns t r) ρ h=(aops P (x::ns) (atP P Q t) ρ h∧atP P Q r ρ h):=_root_.id rfl
theorem w_seq {a b:AC} {Q:Post}:awp P (.seq a b) Q ρ h=awp P a (athen (awp P b Q) Q) ρ h:=_root_.id rfl
theorem w_cond {c:AO} {x y:AC} {Q:Post}:awp P (.cond c x y) Q ρ h=condK (aev ρ c) (awp P x Q) (awp P y Q) ρ h:=by
 apply propext
 simp only[awp]
 generalize aev ρ c=q
 cases q<;>simp[condK]
theorem w_block {id:Nat} {c:AC} {Q:Post}:awp P (.block id c) Q ρ h=awp P c (ablk id Q) ρ h:=_root_.id rfl
theorem w_exit {id:Nat} {Q:Post}:awp P (.exit id) Q ρ h=Q (.exit id) ρ h:=_root_.id rfl
theorem w_ret {Q:Post}:awp P .ret Q ρ h=Q .ret ρ h:=_root_.id rfl
--ways out
theorem t_normal {n:Env→H→Prop} {Q:Post}:athen n Q .normal ρ h=n ρ h:=_root_.id rfl
theorem t_exit {n:Env→H→Prop} {Q:Post} {id:Nat}:athen n Q (.exit id) ρ h=Q (.exit id) ρ h:=_root_.id rfl
theorem t_ret {n:Env→H→Prop} {Q:Post}:athen n Q .ret ρ h=Q .ret ρ h:=_root_.id rfl
theorem b_normal {id:Nat} {Q:Post}:ablk id Q .normal ρ h=Q .normal ρ h:=_root_.id rfl
theorem b_ret {id:Nat} {Q:Post}:ablk id Q .ret ρ h=Q .ret ρ h:=_root_.id rfl
theorem b_exit {id id':Nat} {Q:Post}:ablk id Q (.exit id') ρ h=if id'=id then Q .normal ρ h else Q (.exit id') ρ h:=_root_.id rfl
theorem p_normal {rs:List AR}:apost P rs K .normal ρ h=afin P rs [] K ρ h:=_root_.id rfl
theorem p_ret {rs:List AR}:apost P rs K .ret ρ h=afin P rs [] K ρ h:=_root_.id rfl
theorem f_nil {acc:List AV}:afin P [] acc K ρ h=K (tupOf acc) h:=_root_.id rfl
theorem f_t {n:Nat} {rs:List AR} {acc:List AV}:afin P (.t n::rs) acc K ρ h=afin P rs (acc++[ρ n]) K ρ h:=_root_.id rfl
theorem f_c {n:Nat} {sz:Option Nat} {rs:List AR} {acc:List AV}:afin P (.c n sz::rs) acc K ρ h=ldK sz (ρ n) h (kFin P rs acc K ρ h):=x_ld
--values
theorem e_t {n:Nat}:aev ρ (.t n)=ρ n:=_root_.id rfl
theorem e_c {v:AV}:aev ρ (.c v)=v:=_root_.id rfl
theorem e_f {f:FuncId}:aev ρ (.f f)= .fn f [] []:=_root_.id rfl
theorem u_some {d:Nat} {v:AV}:aput ρ (some d) v=upd ρ d v:=_root_.id rfl
theorem u_none {v:AV}:aput ρ none v=ρ:=_root_.id rfl
theorem u_at {d t:Nat} {v:AV}:upd ρ d v t=if t=d then v else ρ t:=_root_.id rfl
theorem env_at {l:List AV} {t:Nat}:envOf l t=(l[t]?).getD .junk:=_root_.id rfl
--what remains where the values are known
theorem k_v {v:AV}:vK v h K=K v h:=_root_.id rfl
theorem k_pick {t:Bool} {a b:AV}:pickK (.bool t) a b h K=K (if t=true then a else b) h:=_root_.id rfl
theorem k_add {k:IntKind} {a b:Int}:binK .add (.int k a) (.int k b) h K=K (.int k (k.wrap (a+b))) h:=by simp[binK,abinV,abin]
theorem k_sub {k:IntKind} {a b:Int}:binK .sub (.int k a) (.int k b) h K=K (.int k (k.wrap (a-b))) h:=by simp[binK,abinV,abin]
theorem k_mul {k:IntKind} {a b:Int}:binK .mul (.int k a) (.int k b) h K=K (.int k (k.wrap (a*b))) h:=by simp[binK,abinV,abin]
theorem k_quo {k:IntKind} {a b:Int}:binK .quo (.int k a) (.int k b) h K=(b≠0∧K (.int k (k.wrap (a.tdiv b))) h):=by simp[binK,abinV,abin]
theorem k_rem {k:IntKind} {a b:Int}:binK .rem (.int k a) (.int k b) h K=(b≠0∧K (.int k (a.tmod b)) h):=by simp[binK,abinV,abin]
theorem k_and {k:IntKind} {a b:Int}:binK .and (.int k a) (.int k b) h K=K (.int k (bAnd k a b)) h:=by simp[binK,abinV,abin,bAnd]
theorem k_or {k:IntKind} {a b:Int}:binK .or (.int k a) (.int k b) h K=K (.int k (bOr k a b)) h:=by simp[binK,abinV,abin,bOr]
theorem k_xor {k:IntKind} {a b:Int}:binK .xor (.int k a) (.int k b) h K=K (.int k (bXor k a b)) h:=by simp[binK,abinV,abin,bXor]
theorem k_shl {k k':IntKind} {a b:Int}:binK .shl (.int k a) (.int k' b) h K=(0≤b∧K (.int k (bShl k a b.toNat)) h):=by simp[binK,abinV,ashift,bShl]
theorem k_shr {k k':IntKind} {a b:Int}:binK .shr (.int k a) (.int k' b) h K=(0≤b∧K (.int k (bShr k a b.toNat)) h):=by simp[binK,abinV,ashift,bShr]
theorem k_eql {k:IntKind} {a b:Int}:binK .eql (.int k a) (.int k b) h K=K (.bool (a==b)) h:=by simp[binK,abinV,abin]
theorem k_neq {k:IntKind} {a b:Int}:binK .neq (.int k a) (.int k b) h K=K (.bool (a !=b)) h:=by simp[binK,abinV,abin]
theorem k_lss {k:IntKind} {a b:Int}:binK .lss (.int k a) (.int k b) h K=K (.bool (decide (a<b))) h:=by simp[binK,abinV,abin]
theorem k_leq {k:IntKind} {a b:Int}:binK .leq (.int k a) (.int k b) h K=K (.bool (decide (a≤b))) h:=by simp[binK,abinV,abin]
theorem k_gtr {k:IntKind} {a b:Int}:binK .gtr (.int k a) (.int k b) h K=K (.bool (decide (b<a))) h:=by simp[binK,abinV,abin]
theorem k_geq {k:IntKind} {a b:Int}:binK .geq (.int k a) (.int k b) h K=K (.bool (decide (b≤a))) h:=by simp[binK,abinV,abin]
theorem k_beq {ng a b:Bool}:beqK ng (.bool a) (.bool b) h K=K (.bool (if ng then a !=b else a==b)) h:=_root_.id rfl
theorem k_peqn {ng:Bool} {b:Option (Nat×Nat)}:peqK ng (.ptr none) (.ptr b) h K=K (.bool (ng !=b.isNone)) h:=_root_.id rfl
theorem k_peqs {ng:Bool} {b:Nat×Nat}:peqK ng (.ptr (some b)) (.ptr none) h K=K (.bool ng) h:=_root_.id rfl
theorem k_neg {k:IntKind} {n:Int}:unK .neg (.int k n) h K=K (.int k (k.wrap (0-n))) h:=_root_.id rfl
theorem k_not {b:Bool}:unK .not (.bool b) h K=K (.bool (!b)) h:=_root_.id rfl
theorem k_com {k:IntKind} {n:Int}:unK .xor (.int k n) h K=K (.int k (bCom k n)) h:=_root_.id rfl
theorem k_cvI {k k':IntKind} {n:Int}:cvIK k (.int k' n) h K=K (.int k (k.wrap n)) h:=_root_.id rfl
theorem k_idxS {s:ByteArray} {k:IntKind} {n:Int}:idxSK (.str s) (.int k n) h K=(0≤n∧∃b,s[n.toNat]? =some b∧K (.int .u8 b.toNat) h):=_root_.id rfl
theorem k_idxV1 {m z:Nat} {l:List AV} {k:IntKind} {n:Int}:idxVK none m z (.agg l) (.int k n) h K=(0≤n∧n<m∧getK l[n.toNat*z]? h K):=_root_.id rfl
theorem k_idxVn {m z s:Nat} {l:List AV} {k:IntKind} {n:Int}:idxVK (some s) m z (.agg l) (.int k n) h K=(0≤n∧n<m∧n.toNat*z+s≤l.length∧K (.agg ((l.drop (n.toNat*z)).take s)) h):=_root_.id rfl
theorem k_idx {z id off len:Nat} {c:Option Nat} {k:IntKind} {n:Int}:idxK z (.sl (some id) off len c) (.int k n) h K=(0≤n∧n<len∧K (.ptr (some (id,off+n.toNat*z))) h):=_root_.id rfl
theorem k_idxA {m z id off:Nat} {k:IntKind} {n:Int}:idxAK m z (.ptr (some (id,off))) (.int k n) h K=(0≤n∧n<m∧K (.ptr (some (id,off+n.toNat*z))) h):=_root_.id rfl
theorem k_idxG {m z g off:Nat} {k:IntKind} {n:Int}:idxAK m z (.gp g off) (.int k n) h K=(0≤n∧n<m∧K (.gp g (off+n.toNat*z)) h):=_root_.id rfl
theorem k_ldG {g off:Nat}:ldK none (.gp g off) h K=gldK (gcell g off) h K:=_root_.id rfl
theorem k_gld {n:Nat}:gldK (some n) h K=K (.int .u8 n) h:=_root_.id rfl
theorem k_seq {ng:Bool} {a b:ByteArray}:seqK ng (.str a) (.str b) h K=K (.bool (ng !=(a==b))) h:=_root_.id rfl
theorem k_cat {a b:ByteArray}:catK (.str a) (.str b) h K=(a.size+b.size<9223372036854775808∧K (.str (a++b)) h):=_root_.id rfl
theorem k_aeq {ng:Bool} {n:Nat} {l m:List AV}:aeqK ng n (.agg l) (.agg m) h K=(l.length=n∧m.length=n∧eqsK ng (eqs l m) h K):=_root_.id rfl
theorem k_eqs {ng b:Bool}:eqsK ng (some b) h K=K (.bool (ng !=b)) h:=_root_.id rfl
theorem k_fld {off id o:Nat}:fldK off (.ptr (some (id,o))) h K=K (.ptr (some (id,o+off))) h:=_root_.id rfl
theorem k_ld1 {id off:Nat}:ldK none (.ptr (some (id,off))) h K=getK (h.get id off) h K:=_root_.id rfl
theorem k_ldn {id off n:Nat}:ldK (some n) (.ptr (some (id,off))) h K=getsK (h.gets id off n) h K:=_root_.id rfl
theorem k_get {v:AV}:getK (some v) h K=K v h:=_root_.id rfl
theorem k_gets {l:List AV}:getsK (some l) h K=K (.agg l) h:=_root_.id rfl
theorem k_sti {id off:Nat} {k:IntKind} {x:Int}:stK 1 (.ptr (some (id,off))) (.int k x) h K=putK (h.rows id) id off 1 [.int k x] h K:=by simp[stK,AV.held,AV.cells,AV.one]
theorem k_stb {id off:Nat} {b:Bool}:stK 1 (.ptr (some (id,off))) (.bool b) h K=putK (h.rows id) id off 1 [.bool b] h K:=by simp[stK,AV.held,AV.cells,AV.one]
theorem k_stp {id off:Nat} {p:Option (Nat×Nat)}:stK 1 (.ptr (some (id,off))) (.ptr p) h K=putK (h.rows id) id off 1 [.ptr p] h K:=by simp[stK,AV.held,AV.cells,AV.one]
theorem k_sts {id off:Nat} {i c:Option Nat} {o n:Nat}:stK 1 (.ptr (some (id,off))) (.sl i o n c) h K=putK (h.rows id) id off 1 [.sl i o n c] h K:=by simp[stK,AV.held,AV.cells,AV.one]
theorem k_stf {id off:Nat} {f:FuncId} {a b:List AV}:stK 1 (.ptr (some (id,off))) (.fn f a b) h K=putK (h.rows id) id off 1 [.fn f a b] h K:=by simp[stK,AV.held,AV.cells,AV.one]
theorem k_sta {n id off:Nat} {l:List AV}:stK n (.ptr (some (id,off))) (.agg l) h K=(l.length=n∧l.all (·.one)=true∧putK (h.rows id) id off n l h K):=by simp[stK,AV.held,AV.cells]
theorem k_put {r:Row} {id off n:Nat} {l:List AV}:putK (some r) id off n l h K=(r.own≠none∧off+n≤r.cells.length∧K .junk (h.set id {r with cells:=putAt r.cells off l})):=_root_.id rfl
theorem k_nn {p:Nat×Nat}:nnK (.ptr (some p)) h K=K (.ptr (some p)) h:=_root_.id rfl
theorem k_prt1 {off:Nat} {l:List AV}:prtK none off (.agg l) h K=getK l[off]? h K:=_root_.id rfl
theorem k_prtn {off n:Nat} {l:List AV}:prtK (some n) off (.agg l) h K=(off+n≤l.length∧K (.agg ((l.drop off).take n)) h):=_root_.id rfl
theorem k_slc_a {z:Nat} {id cap:Option Nat} {off len:Nat} {k:IntKind} {n:Int}:slcK z (.sl id off len cap) none (some (.int k n)) h K=(0≤n∧(n.toNat≤len∨∃c,cap=some c∧n.toNat≤c)∧(∀i,id=some i→∃r,h.rows i=some r∧(r.own=none∨r.esz=z))∧K (.sl id off n.toNat cap) h):=by
 simp[slcK,natK]
theorem k_slc_b {z:Nat} {id cap:Option Nat} {off len:Nat} {k:IntKind} {n:Int}:slcK z (.sl id off len cap) (some (.int k n)) none h K=(0≤n∧n.toNat≤len∧(∀i,id=some i→∃r,h.rows i=some r∧(r.own=none∨r.esz=z))∧K (.sl id (off+n.toNat*z) (len-n.toNat) (cap.map (· -n.toNat))) h):=by
 simp[slcK,natK]
theorem k_slc_c {z:Nat} {id cap:Option Nat} {off len:Nat} {k k':IntKind} {m n:Int}:slcK z (.sl id off len cap) (some (.int k m)) (some (.int k' n)) h K=(0≤n∧0≤m∧m.toNat≤n.toNat∧(n.toNat≤len∨∃c,cap=some c∧n.toNat≤c)∧(∀i,id=some i→∃r,h.rows i=some r∧(r.own=none∨r.esz=z))∧K (.sl id (off+m.toNat*z) (n.toNat-m.toNat) (cap.map (· -m.toNat))) h):=rfl
theorem k_mk {e:TypeId} {z b:Nat} {zr:List AV} {k k':IntKind} {l c:Int}:mkK e z b zr (.int k l) (.int k' c) h K=(0≤l∧l≤c∧b*c≤140737488355328∧K (.sl (some h.next) 0 l.toNat (some c.toNat)) (h.new ⟨some e,z,zs zr c.toNat⟩)):=_root_.id rfl
theorem k_agg {l:List AV}:aggK (some l) h K=K (.agg l) h:=_root_.id rfl
theorem k_bsl {l:List AV} {e:TypeId} {z n:Nat}:bslK (some l) e z n h K=K (.sl (some h.next) 0 n (some n)) (h.new ⟨some e,z,l⟩):=_root_.id rfl
theorem k_box {e:TypeId} {x:AV}:boxK e x h K=(x.held=true∧K (.ptr (some (h.next,0))) (h.new ⟨some e,x.cells.length,x.cells⟩)):=_root_.id rfl
theorem k_len {id c:Option Nat} {off n:Nat}:lenK false (.sl id off n c) h K=K (.int .i64 n) h:=_root_.id rfl
theorem k_lenS {s:ByteArray}:lenK true (.str s) h K=K (.int .i64 s.size) h:=_root_.id rfl
theorem k_cap {id:Option Nat} {off n c:Nat}:capoK (.sl id off n (some c)) h K=K (.int .i64 c) h:=_root_.id rfl
theorem k_max {k:IntKind} {a b:Int}:mnxK true (.int k a) [.int k b] h K=K (.int k (max a b)) h:=by simp[mnxK,mnxs]
theorem k_min {k:IntKind} {a b:Int}:mnxK false (.int k a) [.int k b] h K=K (.int k (min a b)) h:=by simp[mnxK,mnxs]
theorem k_ext {l:List AV} {i:Nat}:extK (.tup l) i h K=getK l[i]? h K:=_root_.id rfl
theorem k_callV {f:FuncId} {a b asx:List AV}:callVK P (.fn f a b) asx h K=ACalls P f (a++asx++b) h K:=_root_.id rfl
theorem k_true {X Y:Env→H→Prop}:condK (.bool true) X Y ρ h=X ρ h:=by simp[condK]
theorem k_false {X Y:Env→H→Prop}:condK (.bool false) X Y ρ h=Y ρ h:=by simp[condK]
theorem k_gtt {o:AOp}:grdK P (.bool true) true o ρ h K=aexec P o ρ h K:=_root_.id rfl
theorem k_gtf {o:AOp}:grdK P (.bool true) false o ρ h K=K (.tup []) h:=_root_.id rfl
theorem k_gft {o:AOp}:grdK P (.bool false) true o ρ h K=K (.tup []) h:=_root_.id rfl
theorem k_gsk {b:Bool} {o:AOp}:grdK P (.tup []) b o ρ h K=K (.tup []) h:=_root_.id rfl
theorem k_gff {o:AOp}:grdK P (.bool false) false o ρ h K=aexec P o ρ h K:=_root_.id rfl
theorem k_ops {os:List AOper} {Q:Env→H→Prop} {d:Option Nat} {v:AV}:kOps P os Q ρ d v h=aops P os Q (aput ρ d v) h:=_root_.id rfl
theorem k_chk {cs:List (Option Nat×Option (Nat×Bool)×AOp)} {os:List AOper} {Q:Env→H→Prop} {d:Option Nat} {v:AV}:kChk P cs os Q ρ d v h=(achks P ρ h cs∧aops P os Q (aput ρ d v) h):=_root_.id rfl
theorem k_fin {rs:List AR} {acc:List AV} {h0:H} {v:AV}:kFin P rs acc K ρ h0 v h=afin P rs (acc++[v]) K ρ h0:=_root_.id rfl
theorem k_c0:achks P ρ h []=True:=_root_.id rfl
theorem k_c1 {c:Option Nat×Option (Nat×Bool)×AOp} {cs:List (Option Nat×Option (Nat×Bool)×AOp)}:achks P ρ h (c::cs)=(achk P ρ h c∧achks P ρ h cs):=_root_.id rfl
theorem k_ck {d:Nat} {g:Option (Nat×Bool)} {o:AOp}:achk P ρ h (some d,g,o)=astep P g o ρ h (fun v _=>v=ρ d):=by
 unfold achk
 simp
theorem k_lit1i {z:AV} {k:IntKind} {a:Int}:abuild (zs [z] 1) [(0,1, .int k a)]=some [.int k a]:=_root_.id rfl
theorem k_lit2i {z:AV} {k:IntKind} {a b:Int}:abuild (zs [z] 2) [(0,1, .int k a),(1,1, .int k b)]=some [.int k a, .int k b]:=_root_.id rfl
theorem k_lit3i {z:AV} {k:IntKind} {a b c:Int}:abuild (zs [z] 3) [(0,1, .int k a),(1,1, .int k b),(2,1, .int k c)]=some [.int k a, .int k b, .int k c]:=_root_.id rfl
def onN (M:Env→H→Prop) (Q:Post):Post
 | .normal,ρ,h=>M ρ h
 |e,ρ,h=>Q e ρ h
theorem n_normal {M:Env→H→Prop} {Q:Post}:onN M Q .normal ρ h=M ρ h:=_root_.id rfl
theorem n_exit {M:Env→H→Prop} {Q:Post} {id:Nat}:onN M Q (.exit id) ρ h=Q (.exit id) ρ h:=_root_.id rfl
theorem n_ret {M:Env→H→Prop} {Q:Post}:onN M Q .ret ρ h=Q .ret ρ h:=_root_.id rfl
theorem cond_split {t:Bool} {X Y:Env→H→Prop} (h1:t=true→X ρ h) (h2:t=false→Y ρ h):condK (.bool t) X Y ρ h:=⟨h1,h2⟩
end
end
def H.wf (h:H):Prop:=∀i,h.next≤i→h.rows i=none
theorem Rep.wf {base:Nat} {w0 w:World} {μ:Mu} {h:H} (R:Rep base w0 μ w h):h.wf:=fun _ hi=>R.row_free hi
theorem acalls_wf {P:Program} (hm:P.follows .mixedOrders=true) {f:FuncId} {fn:Func} {c:Code} {ac:AC} {rs:List AR} {avs:List AV} {h:H} {K:AV→H→Prop} (hf:P.funcs[f]? =some fn) (hb:fn.body=some c) (hname:(fn.name== "runtime.NumGoroutine")=false)
  (hc:compile P fn.ntmps c=some ac) (hrs:compRes P fn.ntmps fn.results.toList=some rs) (hlen:avs.length≤fn.ntmps) (hx:h.wf→awp P ac (apost P rs (fun r h'=>h'.wf→K r h')) (envOf avs) h):ACalls P f avs h K:=by
 intro base w0 μ w vs R hr
 rcases acalls_of hm hf hb hname hc hrs hlen (hx R.wf) base w0 μ w vs R hr with⟨h1,h2⟩|⟨v,h1,μ',r,h',q1,q2,q3,q4⟩
 ·refine .inl ⟨h1,h2.mono ?_⟩
  rintro e w' ⟨v,rfl,μ',r,h',q1,q2,q3,q4⟩
  exact⟨v,rfl,μ',r,h',q1,q2,q3,q4 q3.wf⟩
 ·exact .inr ⟨v,h1,μ',r,h',q1,q2,q3,q4 q3.wf⟩
def H.le (h h':H):Prop:=h.next≤h'.next∧∀i r,h.rows i=some r→h'.rows i=some r
theorem H.le_refl (h:H):h.le h:=⟨Nat.le_refl _,fun _ _ e=>e⟩
theorem H.le_trans {a b c:H} (h:a.le b) (k:b.le c):a.le c:=⟨Nat.le_trans h.1 k.1,fun i r e=>k.2 i r (h.2 i r e)⟩
theorem H.row_lt {h:H} (hw:h.wf) {i:Nat} {r:Row} (e:h.rows i=some r):i<h.next:=by
 rcases Nat.lt_or_ge i h.next with hl|hl
 ·exact hl
 ·rw[hw i hl] at e;cases e
theorem H.le_new {a h:H} (hw:h.wf) (k:a.le h) (r:Row):a.le (h.new r):=⟨Nat.le_trans k.1 (Nat.le_succ _),fun i q e=>by
 have e2:=k.2 i q e
 have:=H.row_lt hw e2
 simp only[H.new]
 rw[if_neg (by omega)]
 exact e2⟩
theorem H.le_del {a h:H} (hw:a.wf) (k:a.le h) {i:Nat} (hi:a.next≤i):a.le (h.del (some i)):=⟨k.1,fun j q e=>by
 have:=H.row_lt hw e
 simp only[H.del]
 rw[if_neg (by intro x;injection x;omega)]
 exact k.2 j q e⟩
theorem H.le_set {a h:H} (hw:a.wf) (k:a.le h) {i:Nat} (hi:a.next≤i) (r:Row):a.le (h.set i r):=⟨k.1,fun j q e=>by
 have:=H.row_lt hw e
 simp only[H.set]
 rw[if_neg (by omega)]
 exact k.2 j q e⟩
theorem H.wf_new {h:H} (hw:h.wf) (r:Row):(h.new r).wf:=fun i hi=>by
 simp only[H.new] at hi⊢
 rw[if_neg (by omega)]
 exact hw i (by omega)
theorem H.wf_del {h:H} (hw:h.wf) (o:Option Nat):(h.del o).wf:=fun i hi=>by
 simp only[H.del] at hi⊢
 split
 ·rfl
 ·exact hw i hi
theorem H.wf_set {h:H} (hw:h.wf) {i:Nat} (hi:i<h.next) (r:Row):(h.set i r).wf:=fun j hj=>by
 simp only[H.set] at hj⊢
 rw[if_neg (by omega)]
 exact hw j hj
theorem H.rows_new (h:H) (r:Row):(h.new r).rows h.next=some r:=by simp[H.new]
theorem H.rows_new_ne {h:H} {r:Row} {i:Nat} (hi:i≠h.next):(h.new r).rows i=h.rows i:=by
 show(if i=h.next then some r else h.rows i)=_
 rw[if_neg hi]
theorem H.rows_set (h:H) (i:Nat) (r:Row):(h.set i r).rows i=some r:=by simp[H.set]
theorem H.rows_set_ne {h:H} {r:Row} {i j:Nat} (hi:j≠i):(h.set i r).rows j=h.rows j:=by
 show(if j=i then some r else h.rows j)=_
 rw[if_neg hi]
theorem H.rows_del_ne {h:H} {i j:Nat} (hi:j≠i):(h.del (some i)).rows j=h.rows j:=by
 show(if some j=some i then none else h.rows j)=_
 rw[if_neg (by intro x;injection x with x;exact hi x)]
theorem H.next_new (h:H) (r:Row):(h.new r).next=h.next+1:=rfl
theorem H.next_del (h:H) (o:Option Nat):(h.del o).next=h.next:=rfl
def W (k:IntKind) (xs:List Int):List AV:=xs.map (AV.int k)
theorem W_length (k:IntKind) (xs:List Int):(W k xs).length=xs.length:=by simp[W]
theorem W_one (k:IntKind) (xs:List Int):(W k xs).all (·.one)=true:=by simp[W,AV.one]
theorem W_get {k:IntKind} {xs:List Int} {i:Nat}:(W k xs)[i]? =(xs[i]?).map (AV.int k):=by simp[W]
theorem W_all (k:IntKind) (xs:List Int):(W k xs).take xs.length=W k xs:=List.take_of_length_le (by simp[W])
theorem W_append (k:IntKind) (xs ys:List Int):W k (xs++ys)=W k xs++W k ys:=by simp[W]
theorem W_take (k:IntKind) (xs:List Int) (n:Nat):(W k xs).take n=W k (xs.take n):=by simp[W,List.map_take]
theorem W_drop (k:IntKind) (xs:List Int) (n:Nat):(W k xs).drop n=W k (xs.drop n):=by simp[W,List.map_drop]
def IsW (k:IntKind) (h:H) (v:AV) (xs:List Int):Prop:=
 ∃id off c,v= .sl id off xs.length c∧((id=none∧xs=[]∧off=0)∨∃i r,id=some i∧h.rows i=some r∧(r.own=none∨r.esz=1)∧off+xs.length≤r.cells.length∧(r.cells.drop off).take xs.length=W k xs)
def IsF (t:TypeId) (k:IntKind) (b:Nat) (h:H) (v:AV) (xs:List Int):Prop:=
 ∃id c,v= .sl id 0 xs.length c∧((id=none∧xs=[])∨∃i r,id=some i∧b≤i∧h.rows i=some r∧r.own=some t∧r.esz=1∧xs.length≤r.cells.length∧r.cells.take xs.length=W k xs)
theorem IsF.isW {t:TypeId} {k:IntKind} {b:Nat} {h:H} {v:AV} {xs:List Int} (hv:IsF t k b h v xs):IsW k h v xs:=by
 obtain⟨id,c,rfl,h1⟩:=hv
 refine⟨id,0,c,rfl, ?_⟩
 rcases h1 with⟨rfl,rfl⟩|⟨i,r,rfl,_,hr,_,he,hl,ht⟩
 ·exact .inl ⟨rfl,rfl,rfl⟩
 ·exact .inr ⟨i,r,rfl,hr, .inr he,by omega,by simpa using ht⟩
theorem IsW.mono {k:IntKind} {h h':H} {v:AV} {xs:List Int} (hv:IsW k h v xs) (hl:h.le h'):IsW k h' v xs:=by
 obtain⟨id,off,c,rfl,h1⟩:=hv
 refine⟨id,off,c,rfl, ?_⟩
 rcases h1 with h1|⟨i,r,rfl,hr,h2⟩
 ·exact .inl h1
 ·exact .inr ⟨i,r,rfl,hl.2 i r hr,h2⟩
theorem IsF.mono {t:TypeId} {k:IntKind} {b:Nat} {h h':H} {v:AV} {xs:List Int} (hv:IsF t k b h v xs) (hl:h.le h'):IsF t k b h' v xs:=by
 obtain⟨id,c,rfl,h1⟩:=hv
 refine⟨id,c,rfl, ?_⟩
 rcases h1 with h1|⟨i,r,rfl,hb,hr,h2⟩
 ·exact .inl h1
 ·exact .inr ⟨i,r,rfl,hb,hl.2 i r hr,h2⟩
theorem IsF.base {t:TypeId} {k:IntKind} {b b':Nat} {h:H} {v:AV} {xs:List Int} (hv:IsF t k b h v xs) (hb:b'≤b):IsF t k b' h v xs:=by
 obtain⟨id,c,rfl,h1⟩:=hv
 refine⟨id,c,rfl, ?_⟩
 rcases h1 with h1|⟨i,r,rfl,hb',h2⟩
 ·exact .inl h1
 ·exact .inr ⟨i,r,rfl,by omega,h2⟩
theorem IsF.nil (t:TypeId) (k:IntKind) (b:Nat) (h:H) (c:Option Nat):IsF t k b h (.sl none 0 0 c) []:=⟨none,c,rfl, .inl ⟨rfl,rfl⟩⟩
theorem IsW.nil (k:IntKind) (h:H) (c:Option Nat):IsW k h (.sl none 0 0 c) []:=⟨none,0,c,rfl, .inl ⟨rfl,rfl,rfl⟩⟩
theorem IsW.at {k:IntKind} {h:H} {id:Option Nat} {off n:Nat} {c:Option Nat} {xs:List Int} (hv:IsW k h (.sl id off n c) xs) {j:Nat} (hj:j<xs.length):∃i,id=some i∧n=xs.length∧h.get i (off+j)=some (.int k xs[j]):=by
 obtain⟨id',off',c',e,h1⟩:=hv
 injection e with e1 e2 e3 e4
 subst e1;subst e2;subst e3;subst e4
 rcases h1 with⟨_,rfl,_⟩|⟨i,r,rfl,hr,_,hl,ht⟩
 ·simp at hj
 ·refine⟨i,rfl,rfl, ?_⟩
  have h2:((r.cells.drop off).take xs.length)[j]? =(W k xs)[j]? :=by rw[ht]
  rw[List.getElem?_take,if_pos hj,List.getElem?_drop,W_get,List.getElem?_eq_getElem hj] at h2
  simp[H.get,hr,h2]
theorem IsW.form {k:IntKind} {h:H} {v:AV} {xs:List Int} (hv:IsW k h v xs):∃id off c,v= .sl id off xs.length c:=by
 obtain⟨id',off',c',e,h1⟩:=hv
 exact⟨_,_,_,e⟩
theorem IsW.row {k:IntKind} {h:H} {id:Option Nat} {off n:Nat} {c:Option Nat} {xs:List Int} (hv:IsW k h (.sl id off n c) xs):∀i,id=some i→∃r,h.rows i=some r∧(r.own=none∨r.esz=1):=by
 obtain⟨id',off',c',e,h1⟩:=hv
 injection e with e1 e2 e3 e4
 subst e1
 rintro i rfl
 rcases h1 with⟨h0,_,_⟩|⟨i',r,h0,hr,he,_⟩
 ·cases h0
 ·injection h0 with h0
  subst h0
  exact⟨r,hr,he⟩
theorem IsW.cut {k:IntKind} {h:H} {id:Option Nat} {off n:Nat} {c c':Option Nat} {xs:List Int} (hv:IsW k h (.sl id off n c) xs) {a b:Nat} (hab:a≤b) (hb:b≤xs.length):IsW k h (.sl id (off+a) (b-a) c') ((xs.take b).drop a):=by
 obtain⟨id',off',c2,e,h1⟩:=hv
 injection e with e1 e2 e3 e4
 subst e1;subst e2;subst e3
 have hl:((xs.take b).drop a).length=b-a:=by simp;omega
 refine⟨id,off+a,c',by rw[hl], ?_⟩
 rcases h1 with⟨rfl,rfl,rfl⟩|⟨i,r,rfl,hr,he,hfit,ht⟩
 ·simp at hb
  subst hb
  have:a=0:=by omega
  subst this
  exact .inl ⟨rfl,by simp,rfl⟩
 ·refine .inr ⟨i,r,rfl,hr,he,by rw[hl];omega, ?_⟩
  rw[hl,←W_drop,←W_take,←ht,List.take_take,Nat.min_eq_left hb,List.drop_take,List.drop_drop]
theorem IsF.cut {t:TypeId} {k:IntKind} {b:Nat} {h:H} {id:Option Nat} {n:Nat} {c c':Option Nat} {xs:List Int} (hv:IsF t k b h (.sl id 0 n c) xs) {m:Nat} (hm:m≤xs.length):IsF t k b h (.sl id 0 m c') (xs.take m):=by
 obtain⟨id',c2,e,h1⟩:=hv
 injection e with e1 e2 e3 e4
 subst e1;subst e3
 have hl:(xs.take m).length=m:=by simp;omega
 refine⟨id,c',by rw[hl], ?_⟩
 rcases h1 with⟨rfl,rfl⟩|⟨i,r,rfl,hbi,hr,ho,he,hfit,ht⟩
 ·exact .inl ⟨rfl,by simp⟩
 ·refine .inr ⟨i,r,rfl,hbi,hr,ho,he,by rw[hl];omega, ?_⟩
  rw[hl,←W_take,←ht,List.take_take,Nat.min_eq_left hm]
theorem IsF.made {t:TypeId} {k:IntKind} {b:Nat} {h:H} (hb:b≤h.next) (n:Nat):IsF t k b (h.new ⟨some t,1,zs [AV.int k 0] n⟩) (.sl (some h.next) 0 n (some n)) (List.replicate n 0):=by
 refine⟨some h.next,some n,by simp, .inr ⟨h.next,_,rfl,hb,H.rows_new _ _,rfl,rfl,by simp[zs_length], ?_⟩⟩
 simp[zs,W]
theorem app_own {t:TypeId} {k:IntKind} {b:Nat} {h:H} {K:AV→H→Prop} {s x:AV} {xs ys:List Int} {by_:Nat} (hw:h.wf) (hs:IsF t k b h s xs) (hx:IsW k h x ys) (hb:b≤h.next) (hl:(xs.length+ys.length)*by_≤140737488355328) (hl2:xs.length+ys.length≤140737488355328)
  (hk:∀v h',h'.wf→IsF t k b h' v (xs++ys)→h.next≤h'.next→(∀i r,i<b→h.rows i=some r→h'.rows i=some r)→K v h'):appK t 1 by_ s x h K:=by
 have hs0:=hs
 obtain⟨ids,cs,rfl,hs⟩:=hs
 obtain⟨idx,offx,cx,rfl,hx⟩:=hx
 simp only[appK]
 refine⟨fun h0=> ?_,fun h0=> ?_⟩
 ·have:ys=[]:=List.eq_nil_of_length_eq_zero h0
  subst this
  exact hk _ _ hw (by simpa using hs0) (Nat.le_refl _) (fun i r _ e=>e)
 ·rcases hx with⟨_,rfl,_⟩|⟨j,r,rfl,hr,_,hfit,ht⟩
  ·simp at h0
  ·refine⟨j,r,rfl,hr,by simpa using hfit,by rw[Nat.mul_one,ht];exact W_one _ _,hl,hl2, ?_⟩
   rw[Nat.mul_one,Nat.mul_one,ht]
   rcases hs with⟨rfl,rfl⟩|⟨i,q,rfl,hbi,hq,ho,he,hf2,ht2⟩
   ·refine .inl ⟨by simp,by simp,hk _ _ (H.wf_new hw _) ?_ (by simp[H.new]) (fun i q hi e=> ?_)⟩
    ·exact⟨some h.next,none,by simp, .inr ⟨h.next,_,rfl,hb,H.rows_new _ _,rfl,rfl,by simp[W_length],by simp only[List.nil_append];exact W_all k ys⟩⟩
    ·rw[H.rows_new_ne (by omega)];exact e
   ·refine .inr ⟨i,q,rfl,hq,ho,he,by simp,hf2,hk _ _ (H.wf_new (H.wf_del hw _) _) ?_ (by rw[H.next_new,H.next_del];omega) (fun j' q' hj e=> ?_)⟩
    ·refine⟨some h.next,none,by simp, .inr ⟨h.next,_,rfl,hb,H.rows_new _ _,rfl,rfl, ?_, ?_⟩⟩
     ·simp only[List.length_append,ht2,W_length];omega
     ·rw[ht2,W_append]
      exact List.take_of_length_le (by simp[W_length])
    ·rw[H.rows_new_ne (by rw[H.next_del];omega),H.rows_del_ne (by omega)]
     exact e
theorem IsW.lit {t:TypeId} {k:IntKind} {h:H} (xs:List Int):IsW k (h.new ⟨some t,1,W k xs⟩) (.sl (some h.next) 0 xs.length (some xs.length)) xs:=
 ⟨some h.next,0,some xs.length,rfl, .inr ⟨h.next,_,rfl,H.rows_new _ _, .inr rfl,by simp[W_length],by simp only[List.drop_zero];exact W_all k xs⟩⟩
theorem IsF.put {t:TypeId} {k:IntKind} {b:Nat} {h:H} {id:Option Nat} {n:Nat} {c:Option Nat} {xs:List Int} (hw:h.wf) (hv:IsF t k b h (.sl id 0 n c) xs) {j:Nat} (hj:j<xs.length):∃i r,id=some i∧b≤i∧i<h.next∧h.rows i=some r∧r.own≠none∧j+1≤r.cells.length∧
  ∀x,IsF t k b (h.set i {r with cells:=putAt r.cells j [AV.int k x]}) (.sl id 0 n c) (xs.set j x):=by
 obtain⟨id',c2,e,h1⟩:=hv
 injection e with e1 e2 e3 e4
 subst e1;subst e3;subst e4
 rcases h1 with⟨_,rfl⟩|⟨i,r,rfl,hbi,hr,ho,he,hfit,ht⟩
 ·simp at hj
 ·refine⟨i,r,rfl,hbi,H.row_lt hw hr,hr,by rw[ho];simp,by omega,fun x=> ?_⟩
  refine⟨some i,c,by simp, .inr ⟨i,_,rfl,hbi,H.rows_set _ _ _,ho,he, ?_, ?_⟩⟩
  ·simp only[List.length_set]
   rw[putAt_length (by simp;omega)]
   exact hfit
  ·simp only[List.length_set]
   apply List.ext_getElem?
   intro m
   have h2:(r.cells.take xs.length)[m]? =(W k xs)[m]? :=by rw[ht]
   rw[List.getElem?_take] at h2⊢
   by_cases hm:m<xs.length
   ·rw[if_pos hm] at h2⊢
    unfold putAt
    rw[W_get,List.getElem?_set]
    by_cases e1:m=j
    ·subst e1
     have hmin:min m r.cells.length=m:=by omega
     rw[List.append_assoc,List.getElem?_append_right (by simp;omega)]
     simp[hm,hmin]
    ·rw[if_neg (Ne.symm e1)]
     rcases Nat.lt_or_ge m j with h3|h3
     ·rw[List.append_assoc,List.getElem?_append_left (by simp;omega),List.getElem?_take,if_pos h3,h2,W_get]
     ·rw[List.getElem?_append_right (by simp;omega),List.getElem?_drop]
      simp only[List.length_append,List.length_take,List.length_cons,List.length_nil]
      rw[show j+(0+1)+(m-(min j r.cells.length+(0+1)))=m from by omega,h2,W_get]
   ·rw[if_neg hm,W_get,List.getElem?_eq_none (by simp;omega)]
    rfl
theorem wI {n:Int} (h1: -9223372036854775808≤n) (h2:n<9223372036854775808):IntKind.i64.wrap n=n:=by rw[IntKind.wrap_i64];omega
theorem wU {n:Int} (h1:0≤n) (h2:n<18446744073709551616):IntKind.u64.wrap n=n:=by rw[IntKind.wrap_u64];omega
theorem wUm {n:Int}:IntKind.u64.wrap n=n%18446744073709551616:=IntKind.wrap_u64 n
theorem tmodN {a:Nat} {b:Nat}:((a:Int)).tmod (b:Int)=((a%b:Nat):Int):=by rw[Int.tmod_eq_emod_of_nonneg (by omega)];rfl
theorem tdivN {a:Nat} {b:Nat}:((a:Int)).tdiv (b:Int)=((a/b:Nat):Int):=by rw[Int.tdiv_eq_ediv_of_nonneg (by omega)];rfl
theorem bandN {a b:Nat} (ha:a<18446744073709551616) (hb:b<18446744073709551616):IntKind.u64.wrap ((BitVec.ofInt IntKind.u64.bits (a:Int)&&&BitVec.ofInt IntKind.u64.bits (b:Int)).toNat:Int)=((a&&&b:Nat):Int):=by
 have e1:(BitVec.ofInt IntKind.u64.bits (a:Int)&&&BitVec.ofInt IntKind.u64.bits (b:Int)).toNat=a&&&b:=by
  rw[BitVec.toNat_and,BitVec.toNat_ofInt,BitVec.toNat_ofInt]
  show((a:Int)%18446744073709551616).toNat&&&((b:Int)%18446744073709551616).toNat=_
  rw[show((a:Int)%18446744073709551616).toNat=a from by omega,show((b:Int)%18446744073709551616).toNat=b from by omega]
 rw[e1]
 exact wU (by omega) (by have:=Nat.and_lt_two_pow (n:=64) a (y:=b) (by omega);omega)
theorem borN {a b:Nat} (ha:a<18446744073709551616) (hb:b<18446744073709551616):IntKind.u64.wrap ((BitVec.ofInt IntKind.u64.bits (a:Int)|||BitVec.ofInt IntKind.u64.bits (b:Int)).toNat:Int)=((a|||b:Nat):Int):=by
 have e1:(BitVec.ofInt IntKind.u64.bits (a:Int)|||BitVec.ofInt IntKind.u64.bits (b:Int)).toNat=a|||b:=by
  rw[BitVec.toNat_or,BitVec.toNat_ofInt,BitVec.toNat_ofInt]
  show((a:Int)%18446744073709551616).toNat|||((b:Int)%18446744073709551616).toNat=_
  rw[show((a:Int)%18446744073709551616).toNat=a from by omega,show((b:Int)%18446744073709551616).toNat=b from by omega]
 rw[e1]
 exact wU (by omega) (by have:=Nat.or_lt_two_pow (n:=64) (x:=a) (y:=b) (by omega) (by omega);omega)
def val (B:Nat):List Nat→Nat
 |[]=>0
 |x::xs=>x+B*val B xs
def IsN (h:H) (v:AV) (xs:List Nat):Prop:=IsW .u64 h v (xs.map fun n:Nat=>(n:Int))
theorem IsN.mono {h h':H} {v:AV} {xs:List Nat} (hv:IsN h v xs) (hl:h.le h'):IsN h' v xs:=IsW.mono hv hl
theorem IsN.form {h:H} {v:AV} {xs:List Nat} (hv:IsN h v xs):∃id off c,v= .sl id off xs.length c:=by
 obtain⟨id,off,c,e⟩:=IsW.form hv
 exact⟨id,off,c,by simpa using e⟩
theorem IsN.at {h:H} {id:Option Nat} {off n:Nat} {c:Option Nat} {xs:List Nat} (hv:IsN h (.sl id off n c) xs) {j:Nat} (hj:j<xs.length):∃i,id=some i∧n=xs.length∧h.get i (off+j)=some (.int .u64 (xs[j]:Nat)):=by
 obtain⟨i,e1,e2,e3⟩:=IsW.at hv (j:=j) (by simpa using hj)
 exact⟨i,e1,by simpa using e2,by simpa using e3⟩
theorem IsN.row {h:H} {id:Option Nat} {off n:Nat} {c:Option Nat} {xs:List Nat} (hv:IsN h (.sl id off n c) xs):∀i,id=some i→∃r,h.rows i=some r∧(r.own=none∨r.esz=1):=IsW.row hv
theorem IsN.cut {h:H} {id:Option Nat} {off n:Nat} {c c':Option Nat} {xs:List Nat} (hv:IsN h (.sl id off n c) xs) {a b:Nat} (hab:a≤b) (hb:b≤xs.length):IsN h (.sl id (off+a) (b-a) c') ((xs.take b).drop a):=by
 have:=IsW.cut (c':=c') hv hab (by simpa using hb)
 unfold IsN
 rw[List.map_drop,List.map_take]
 exact this
theorem IsN.take {h:H} {id:Option Nat} {off n:Nat} {c c':Option Nat} {xs:List Nat} (hv:IsN h (.sl id off n c) xs) {b:Nat} (hb:b≤xs.length):IsN h (.sl id off b c') (xs.take b):=by
 have:=IsN.cut (c':=c') hv (Nat.zero_le b) hb
 simpa using this
theorem IsN.nil (h:H) (c:Option Nat):IsN h (.sl none 0 0 c) []:=IsW.nil _ _ _
def IsG (b:Nat) (h:H) (v:AV) (xs:List Nat):Prop:=IsF 22 .u64 b h v (xs.map fun n:Nat=>(n:Int))
theorem IsN.lit {h:H} {l:List AV} (ys:List Nat) (t:TypeId) {n:Nat} (hn:n=ys.length) (hl:l=W .u64 (ys.map fun n:Nat=>(n:Int))):IsN (h.new ⟨some t,1,l⟩) (.sl (some h.next) 0 n (some n)) ys:=by
 subst hl
 have:=IsW.lit (t:=t) (k:= .u64) (h:=h) (ys.map fun n:Nat=>(n:Int))
 subst hn
 simpa [IsN] using this
theorem IsG.isN {b:Nat} {h:H} {v:AV} {xs:List Nat} (hv:IsG b h v xs):IsN h v xs:=IsF.isW hv
theorem IsG.mono {b:Nat} {h h':H} {v:AV} {xs:List Nat} (hv:IsG b h v xs) (hl:h.le h'):IsG b h' v xs:=IsF.mono hv hl
theorem H.le_old {a h h':H} (ha:a.wf) (k:a.le h) (hn:h.next≤h'.next) (ho:∀i r,i<a.next→h.rows i=some r→h'.rows i=some r):a.le h':=
 ⟨Nat.le_trans k.1 hn,fun i r e=>ho i r (H.row_lt ha e) (k.2 i r e)⟩
theorem app_num {a h:H} {K:AV→H→Prop} {s x:AV} {xs ys:List Nat} (ha:a.wf) (hw:h.wf) (hah:a.le h) (hs:IsG a.next h s xs) (hx:IsN h x ys) (hl:xs.length+ys.length≤17592186044416)
  (hk:∀v h',h'.wf→a.le h'→IsG a.next h' v (xs++ys)→K v h'):appK 22 1 8 s x h K:=by
 refine app_own hw hs hx hah.1 ?_ ?_ (fun v h' w' hv hn ho=>hk v h' w' (H.le_old ha hah hn ho) ?_)
 ·simp;omega
 ·simp;omega
 ·simpa [IsG] using hv
theorem app_lit {a h:H} {K:AV→H→Prop} {s:AV} {xs:List Nat} {l:List AV} {n:Nat} (ys:List Nat) (ha:a.wf) (hw:h.wf) (hah:a.le h) (hs:IsG a.next h s xs) (hn:n=ys.length) (hy:l=W .u64 (ys.map fun n:Nat=>(n:Int))) (hl:xs.length+ys.length≤17592186044416)
  (hk:∀v h',h'.wf→a.le h'→IsG a.next h' v (xs++ys)→K v h'):appK 22 1 8 s (.sl (some h.next) 0 n (some n)) (h.new ⟨some 22,1,l⟩) K:=
 app_num ha (H.wf_new hw _) (H.le_new hw hah _) (hs.mono (H.le_new hw (H.le_refl h) _)) (IsN.lit ys _ hn hy) hl hk
theorem IsG.made {b:Nat} {h:H} (hb:b≤h.next) (n:Nat):IsG b (h.new ⟨some 22,1,zs [AV.int .u64 0] n⟩) (.sl (some h.next) 0 n (some n)) (List.replicate n 0):=by
 have:=IsF.made (t:=22) (k:= .u64) hb n
 simpa [IsG] using this
theorem IsG.put {b:Nat} {h:H} {id:Option Nat} {n:Nat} {c:Option Nat} {xs:List Nat} (hw:h.wf) (hv:IsG b h (.sl id 0 n c) xs) {j:Nat} (hj:j<xs.length):∃i r,id=some i∧b≤i∧i<h.next∧h.rows i=some r∧r.own≠none∧j+1≤r.cells.length∧
  ∀x:Nat,IsG b (h.set i {r with cells:=putAt r.cells j [AV.int .u64 x]}) (.sl id 0 n c) (xs.set j x):=by
 obtain⟨i,r,h1,h2,h3,h4,h5,h6,h7⟩:=IsF.put hw hv (j:=j) (by simpa using hj)
 refine⟨i,r,h1,h2,h3,h4,h5,h6,fun x=> ?_⟩
 have:=h7 x
 unfold IsG
 rw[List.map_set]
 exact this
theorem IsG.form {b:Nat} {h:H} {v:AV} {xs:List Nat} (hv:IsG b h v xs):∃id c,v= .sl id 0 xs.length c:=by
 obtain⟨id,c,e,_⟩:=hv
 exact⟨id,c,by simpa using e⟩
section
section
variable {p:Nat} [NeZero p]
abbrev zp (p:Nat) [NeZero p] (x:Nat):_root_.Fin p:=_root_.Fin.ofNat p x
theorem zp_add (x y:Nat):zp p (x+y)=zp p x+zp p y:=by
 apply _root_.Fin.ext;simp[zp,_root_.Fin.ofNat,_root_.Fin.add_def]
theorem zp_mul (x y:Nat):zp p (x*y)=zp p x*zp p y:=by
 apply _root_.Fin.ext;simp[zp,_root_.Fin.ofNat,_root_.Fin.mul_def,Nat.mul_mod]
theorem zp_mod (x:Nat):zp p (x%p)=zp p x:=by
 apply _root_.Fin.ext;simp[zp,_root_.Fin.ofNat]
theorem zp_iff {x y:Nat}:zp p x=zp p y↔x%p=y%p:=by
 rw[_root_.Fin.ext_iff];rfl
theorem zp_self:zp p p=0:=by
 apply _root_.Fin.ext;simp[zp,_root_.Fin.ofNat]
theorem zp_sub {x y:Nat} (h:y≤x):zp p (x-y)=zp p x-zp p y:=by
 have e:zp p x=zp p (x-y)+zp p y:=by rw[←zp_add];congr 1;omega
 rw[e];grind
end
def adL:List Nat→List Nat→List Nat
 |[],ys=>ys
 |xs,[]=>xs
 |x::xs,y::ys=>(x+y)::adL xs ys
theorem adL_val (B:Nat):∀xs ys,val B (adL xs ys)=val B xs+val B ys
 |[],ys=>by simp[adL,val]
 |x::xs,[]=>by simp[adL,val]
 |x::xs,y::ys=>by
  simp only[adL,val]
  rw[adL_val B xs ys,Nat.mul_add];omega
def cvL:List Nat→List Nat→List Nat
 |[],_=>[]
 |x::xs,ys=>adL (ys.map (x* ·)) (0::cvL xs ys)
theorem map_val (B x:Nat):∀ys:List Nat,val B (ys.map (x* ·))=x*val B ys
 |[]=>rfl
 |y::ys=>by
  simp only[List.map_cons,val]
  rw[map_val B x ys,Nat.mul_add];ac_rfl
theorem cvL_val (B:Nat) (ys:List Nat):∀xs,val B (cvL xs ys)=val B xs*val B ys
 |[]=>by simp[cvL,val]
 |x::xs=>by
  rw[cvL,adL_val,map_val,val,val,cvL_val B ys xs,Nat.add_mul,Nat.zero_add,Nat.mul_assoc]
end
def TrimF (c:Nat→Nat) (ys:List Nat):Prop:=(∀i,ys.getD i 0=c i)∧∀y,ys.getLast? =some y→y≠0
theorem getD_out {ys:List Nat} {i:Nat} (h:ys.length≤i):ys.getD i 0=0:=by
 rw[List.getD_eq_getElem?_getD,List.getElem?_eq_none h]
 rfl
theorem getD_in {ys:List Nat} {i:Nat} (h:i<ys.length):ys.getD i 0=ys[i]:=by
 rw[List.getD_eq_getElem?_getD,List.getElem?_eq_getElem h]
 rfl
theorem TrimF.len {c:Nat→Nat} {ys zs:List Nat} (hz:∀i,zs.getD i 0=c i) (hy:TrimF c ys):ys.length≤zs.length:=by
 rcases Nat.lt_or_ge zs.length ys.length with h|h
 ·have h1:=hy.1 (ys.length-1)
  rw[←hz,getD_out (ys:=zs) (by omega),getD_in (by omega)] at h1
  have h2:=hy.2 ys[ys.length-1] (by rw[List.getLast?_eq_getElem?,List.getElem?_eq_getElem (by omega)])
  exact absurd h1 h2
 ·exact h
theorem TrimF.uniq {c:Nat→Nat} {ys zs:List Nat} (hy:TrimF c ys) (hz:TrimF c zs):ys=zs:=by
 have h1:=Nat.le_antisymm (hy.len hz.1) (hz.len hy.1)
 refine List.ext_getElem h1 fun i h2 h3=> ?_
 rw[←getD_in h2,←getD_in h3,hy.1,hz.1]
theorem TrimF.congr {c d:Nat→Nat} {ys:List Nat} (hy:TrimF c ys) (h:∀i,c i=d i):TrimF d ys:=⟨fun i=>(hy.1 i).trans (h i),hy.2⟩
def cau (f g:Nat→Nat):Nat→Nat
 |0=>f 0*g 0
 |k+1=>f 0*g (k+1)+cau (fun i=>f (i+1)) g k
theorem cau_congr {p:Nat} {f f' g g':Nat→Nat} (hf:∀i,f i%p=f' i%p) (hg:∀i,g i%p=g' i%p):∀k,cau f g k%p=cau f' g' k%p:=by
 intro k
 induction k generalizing f f' with
 |zero=>
  rw[cau,cau,Nat.mul_mod,hf,hg,←Nat.mul_mod]
 |succ k ih=>
  rw[cau,cau,Nat.add_mod,Nat.mul_mod,hf,hg,←Nat.mul_mod,ih (f:=fun i=>f (i+1)) (f':=fun i=>f' (i+1)) (fun i=>hf (i+1)),←Nat.add_mod]
theorem cau_f0 {f g:Nat→Nat} (hf:∀i,f i=0):∀k,cau f g k=0:=by
 intro k
 induction k generalizing f with
 |zero=>rw[cau,hf,Nat.zero_mul]
 |succ k ih=>rw[cau,hf,ih fun i=>hf (i+1),Nat.zero_mul]
theorem cau_zero {f g:Nat→Nat} {m:Nat} (hf:∀i,m≤i→f i=0) {n:Nat} (hg:∀i,n≤i→g i=0):∀k,m+n≤k+1→cau f g k=0:=by
 intro k
 induction k generalizing f m with
 |zero=>
  intro h
  rw[cau]
  rcases Nat.eq_zero_or_pos m with h0|h0
  ·rw[hf 0 (by omega),Nat.zero_mul]
  ·rw[hg 0 (by omega),Nat.mul_zero]
 |succ k ih=>
  intro h
  rcases Nat.eq_zero_or_pos m with h0|h0
  ·exact cau_f0 (fun i=>hf i (by omega)) _
  ·rw[cau,ih (m:=m-1) (fun i hi=>hf (i+1) (by omega)) (by omega),hg (k+1) (by omega),Nat.mul_zero]
theorem cau_add {f f' g:Nat→Nat}:∀k,cau (fun i=>f i+f' i) g k=cau f g k+cau f' g k:=by
 intro k
 induction k generalizing f f' with
 |zero=>rw[cau,cau,cau,Nat.add_mul]
 |succ k ih=>
  rw[cau,cau,cau,ih (f:=fun i=>f (i+1)) (f':=fun i=>f' (i+1)),Nat.add_mul]
  omega
def drv (f:Nat→Nat) (i:Nat):Nat:=(i+1)*f (i+1)
theorem cau_drv {f g:Nat→Nat}:∀k,drv (cau f g) k=cau (drv f) g k+cau f (drv g) k:=by
 intro k
 induction k generalizing f with
 |zero=>
  show(0+1)*(f 0*g 1+f 1*g 0)=(0+1)*f (0+1)*g 0+f 0*((0+1)*g (0+1))
  simp only[Nat.zero_add,Nat.one_mul]
  omega
 |succ k ih=>
  have h1:=ih (f:=fun i=>f (i+1))
  unfold drv at h1
  have e1:cau (fun i=>f (i+1)) g (k+1)=f 1*g (k+1)+cau (fun i=>f (i+2)) g k:=rfl
  have e2:cau (drv f) g (k+1)=(0+1)*f (0+1)*g (k+1)+cau (fun i=>drv f (i+1)) g k:=rfl
  have e3:cau (fun i=>drv f (i+1)) g k=cau (fun i=>(i+1)*f (i+1+1)) g k+cau (fun i=>f (i+2)) g k:=by
   rw[←cau_add]
   congr 1
   funext i
   unfold drv
   rw[Nat.add_mul (i+1) 1,Nat.one_mul]
  have e4:cau f (drv g) (k+1)=f 0*((k+1+1)*g (k+1+1))+cau (fun i=>f (i+1)) (drv g) k:=rfl
  have e5:drv (cau f g) (k+1)=(k+1+1)*(f 0*g (k+1+1)+cau (fun i=>f (i+1)) g (k+1)):=rfl
  rw[e5,e2,e3,e4,Nat.mul_add,Nat.add_mul (k+1) 1 (cau (fun i=>f (i+1)) g (k+1)),h1,Nat.one_mul,e1,Nat.mul_left_comm (k+1+1)]
  simp only[Nat.zero_add,Nat.one_mul]
  unfold drv
  omega
def part (f g:Nat→Nat) (i k:Nat):Nat:=match i with
 |0=>0
 |i+1=>part f g i k+(if i≤k then f i*g (k-i) else 0)
theorem part_head (f g:Nat→Nat):∀n k,part f g (n+1) (k+1)=f 0*g (k+1)+part (fun i=>f (i+1)) g n k
 |0,k=>by simp[part]
 |n+1,k=>by
  rw[part,part_head f g n k,part]
  simp only[Nat.add_le_add_iff_right,Nat.add_sub_add_right,Nat.add_assoc]
theorem part_cau {f g:Nat→Nat}:∀{k n:Nat},(∀i,n≤i→f i=0)→part f g n k=cau f g k:=by
 intro k
 induction k generalizing f with
 |zero=>
  intro n hf
  have h1:∀m,part f g (m+1) 0=f 0*g 0:=by
   intro m
   induction m with
   |zero=>simp[part]
   |succ m ih=>rw[part,ih,if_neg (by omega),Nat.add_zero]
  rcases n with _|n
  ·rw[cau,hf 0 (by omega),Nat.zero_mul];rfl
  ·rw[h1,cau]
 |succ k ih=>
  intro n hf
  rcases n with _|n
  ·have:∀k,cau f g k=0:=by
    intro k
    have:f=fun _=>0:=funext fun i=>hf i (by omega)
    rw[this]
    clear this hf ih
    induction k with
    |zero=>rw[cau,Nat.zero_mul]
    |succ k ih=>rw[cau,ih,Nat.zero_mul]
   rw[this]
   rfl
  ·rw[part_head,cau,ih (n:=n) fun i hi=>hf (i+1) (by omega)]
theorem adL_getD:∀(xs ys:List Nat) (k:Nat),(adL xs ys).getD k 0=xs.getD k 0+ys.getD k 0
 |[],ys,k=>by rw[adL,getD_out (ys:=[]) (Nat.zero_le _),Nat.zero_add]
 |x::xs,[],k=>by rw[adL,getD_out (ys:=[]) (Nat.zero_le _),Nat.add_zero];intro h;cases h
 |x::xs,y::ys,0=>rfl
 |x::xs,y::ys,k+1=>adL_getD xs ys k
theorem mapx_getD (x:Nat):∀(ys:List Nat) (k:Nat),(ys.map (x* ·)).getD k 0=x*ys.getD k 0
 |[],k=>rfl
 |y::ys,0=>rfl
 |y::ys,k+1=>mapx_getD x ys k
theorem cvL_getD (ys:List Nat):∀(xs:List Nat) (k:Nat),(cvL xs ys).getD k 0=cau (fun i=>xs.getD i 0) (fun i=>ys.getD i 0) k
 |[],k=>by
  have:(fun i=>([]:List Nat).getD i 0)=fun _=>0:=funext fun i=>getD_out (Nat.zero_le _)
  rw[this,cvL,getD_out (Nat.zero_le _)]
  induction k with
  |zero=>rw[cau,Nat.zero_mul]
  |succ k ih=>rw[cau,←ih,Nat.zero_mul]
 |x::xs,0=>by rw[cvL,adL_getD,mapx_getD];rfl
 |x::xs,k+1=>by
  rw[cvL,adL_getD,mapx_getD]
  show x*ys.getD (k+1) 0+(cvL xs ys).getD k 0=_
  rw[cvL_getD ys xs k]
  rfl
theorem val_modp (x p:Nat):∀{xs ys:List Nat},(∀k,xs.getD k 0%p=ys.getD k 0%p)→val x xs%p=val x ys%p
 |[],[],_=>rfl
 |[],b::ys,h=>by
  have h0:0%p=b%p:=h 0
  have h1:=val_modp x p (xs:=[]) (ys:=ys) fun k=>by
   have:=h (k+1)
   exact this
  show 0%p=(b+x*val x ys)%p
  have h2:0%p=val x ys%p:=h1
  rw[Nat.add_mod,←h0,Nat.mul_mod,←h2]
  simp
 |a::xs,[],h=>by
  have h0:a%p=0%p:=h 0
  have h1:=val_modp x p (xs:=xs) (ys:=[]) fun k=>by
   have:=h (k+1)
   exact this
  show(a+x*val x xs)%p=0%p
  have h2:val x xs%p=0%p:=h1
  rw[Nat.add_mod,h0,Nat.mul_mod,h2]
  simp
 |a::xs,b::ys,h=>by
  have h0:a%p=b%p:=h 0
  have h1:=val_modp x p (xs:=xs) (ys:=ys) fun k=>h (k+1)
  show(a+x*val x xs)%p=(b+x*val x ys)%p
  rw[Nat.add_mod,h0,Nat.mul_mod,h1,←Nat.mul_mod,←Nat.add_mod]
theorem cau_lin {g:Nat→Nat} (hg:∀i,2≤i→g i=0):∀(k:Nat) (f:Nat→Nat),cau f g (k+1)=f k*g 1+f (k+1)*g 0
 |0,f=>rfl
 |k+1,f=>by
  rw[cau,hg (k+1+1) (by omega),Nat.mul_zero,Nat.zero_add,cau_lin hg k]
def linC (p v:Nat) (i:Nat):Nat:=match i with
 |0=>(p-v%p)%p
 |1=>1
 |_=>0
theorem linC_out (p v:Nat):∀i,2≤i→linC p v i=0
 |0,h=>by omega
 |1,h=>by omega
 |_+2,_=>rfl
def rootC (p:Nat) (f:Nat→Nat) (v:Nat) (k:Nat):Nat:=cau f (linC p v) k%p
def rootsC (p:Nat) (xs:List Nat):Nat→Nat:=xs.foldl (rootC p) fun i=>if i=0 then 1 else 0
theorem rootsC_snoc (p:Nat) (xs:List Nat) (v:Nat):rootsC p (xs++[v])=rootC p (rootsC p xs) v:=by
 unfold rootsC
 rw[List.foldl_append]
 rfl
theorem rootC_deg {p:Nat} (hp:1<p) {f:Nat→Nat} {d:Nat} (h1:f d=1) (h0:∀i,d<i→f i=0) (v:Nat):rootC p f v (d+1)=1∧∀i,d+1<i→rootC p f v i=0:=by
 constructor
 ·unfold rootC
  rw[cau_lin (linC_out p v),h1,h0 (d+1) (by omega),Nat.zero_mul,Nat.add_zero]
  exact Nat.mod_eq_of_lt hp
 ·intro i hi
  obtain⟨k,rfl⟩:∃k,i=k+1:=⟨i-1,by omega⟩
  unfold rootC
  rw[cau_lin (linC_out p v),h0 k (by omega),h0 (k+1) (by omega),Nat.zero_mul,Nat.zero_mul]
  exact Nat.zero_mod p
theorem rootsC_deg {p:Nat} (hp:1<p) (xs:List Nat):rootsC p xs xs.length=1∧∀i,xs.length<i→rootsC p xs i=0:=by
 have key:∀(xs:List Nat) (f:Nat→Nat) (d:Nat),f d=1→(∀i,d<i→f i=0)→(xs.foldl (rootC p) f) (d+xs.length)=1∧∀i,d+xs.length<i→(xs.foldl (rootC p) f) i=0:=by
  intro xs
  induction xs with
  |nil=>intro f d h1 h0;exact⟨h1,h0⟩
  |cons v xs ih=>
   intro f d h1 h0
   obtain⟨h2,h3⟩:=rootC_deg hp h1 h0 v
   have:=ih (rootC p f v) (d+1) h2 h3
   rw[List.length_cons,show d+(xs.length+1)=d+1+xs.length by omega]
   exact this
 have:=key xs (fun i=>if i=0 then 1 else 0) 0 rfl (fun i hi=>if_neg (by omega))
 rw[Nat.zero_add] at this
 exact this
theorem rootsC_len {p:Nat} (hp:1<p) {xs ys:List Nat} (h:TrimF (rootsC p xs) ys):ys.length=xs.length+1:=by
 obtain⟨h1,h2⟩:=rootsC_deg hp xs
 rcases Nat.lt_trichotomy ys.length (xs.length+1) with h3|h3|h3
 ·have:=h.1 xs.length
  rw[getD_out (by omega),h1] at this
  omega
 ·exact h3
 ·have h4:=h.1 (ys.length-1)
  rw[getD_in (by omega),h2 _ (by omega)] at h4
  exact absurd h4 (h.2 _ (by rw[List.getLast?_eq_getElem?,List.getElem?_eq_getElem (by omega)]))
theorem val_mulp (x p:Nat) {xs ys zs:List Nat} (h:∀k,zs.getD k 0%p=cau (fun i=>xs.getD i 0) (fun i=>ys.getD i 0) k%p):val x zs%p=val x xs*val x ys%p:=by
 rw[←cvL_val]
 exact val_modp x p fun k=>by rw[h k,cvL_getD]
theorem root_zero {p x:Nat} (hp:0<p):((p-x%p)%p+x)%p=0:=by
 have:=Nat.mod_lt x hp
 have e:x=x%p+p*(x/p):=(Nat.mod_add_div x p).symm
 rcases Nat.eq_zero_or_pos (x%p) with h0|h0
 ·rw[h0,Nat.sub_zero,Nat.mod_self,Nat.zero_add,h0]
 ·rw[Nat.mod_eq_of_lt (show p-x%p<p by omega)]
  have e2:p-x%p+x=p+p*(x/p):=by omega
  rw[e2,Nat.add_mul_mod_self_left,Nat.mod_self]
def rootV (p x:Nat) (xs:List Nat):Nat:=xs.foldl (fun a v=>a*((p-v%p)%p+x)%p) (1%p)
theorem rootV_snoc (p x:Nat) (xs:List Nat) (v:Nat):rootV p x (xs++[v])=rootV p x xs*((p-v%p)%p+x)%p:=by
 unfold rootV
 rw[List.foldl_append]
 rfl
theorem rootV_zero {p x:Nat} (hp:0<p) {xs:List Nat} (h:x∈xs):rootV p x xs=0:=by
 have key:∀(xs:List Nat) (a:Nat),(a=0∨x∈xs)→xs.foldl (fun a v=>a*((p-v%p)%p+x)%p) a=0:=by
  intro xs
  induction xs with
  |nil=>
   intro a h
   rcases h with h|h
   ·exact h
   ·cases h
  |cons v xs ih=>
   intro a h
   rw[List.foldl_cons]
   refine ih _ ?_
   rcases h with h|h
   ·left
    rw[h,Nat.zero_mul,Nat.zero_mod]
   ·rcases List.mem_cons.1 h with rfl|h
    ·left
     rw[Nat.mul_mod,root_zero hp,Nat.mul_zero,Nat.zero_mod]
    ·exact .inr h
 exact key xs _ (.inr h)
theorem drv_mulp {p:Nat} {f g ab d1 d2:Nat→Nat} (hab:∀k,ab k=cau f g k%p) (h1:∀k,d1 k%p=drv f k%p) (h2:∀k,d2 k%p=drv g k%p) (k:Nat):drv ab k%p=(cau d1 g k%p+cau f d2 k%p)%p:=by
 have e1:cau d1 g k%p=cau (drv f) g k%p:=cau_congr h1 (fun _=>rfl) k
 have e2:cau f d2 k%p=cau f (drv g) k%p:=cau_congr (fun _=>rfl) h2 k
 rw[e1,e2,←Nat.add_mod,←cau_drv]
 unfold drv
 rw[hab,Nat.mul_mod,Nat.mod_mod,←Nat.mul_mod]
def TrimG {α:Type} (z:α) (c:Nat→α) (ys:List α):Prop:=(∀i,ys.getD i z=c i)∧∀y,ys.getLast? =some y→y≠z
theorem getG_out {α:Type} {z:α} {ys:List α} {i:Nat} (h:ys.length≤i):ys.getD i z=z:=by
 rw[List.getD_eq_getElem?_getD,List.getElem?_eq_none h]
 rfl
theorem getG_in {α:Type} {z:α} {ys:List α} {i:Nat} (h:i<ys.length):ys.getD i z=ys[i]:=by
 rw[List.getD_eq_getElem?_getD,List.getElem?_eq_getElem h]
 rfl
theorem TrimG.congr {α:Type} {z:α} {c d:Nat→α} {ys:List α} (hy:TrimG z c ys) (h:∀i,c i=d i):TrimG z d ys:=⟨fun i=>(hy.1 i).trans (h i),hy.2⟩
theorem TrimG.of {α:Type} {z:α} {xs:List α} {k:Nat} (hz:∀x∈xs.drop k,x=z) (hl:∀y,(xs.take k).getLast? =some y→y≠z):TrimG z (fun i=>xs.getD i z) (xs.take k):=by
 refine⟨fun i=> ?_,hl⟩
 show(xs.take k).getD i z=xs.getD i z
 rcases Nat.lt_or_ge i k with h|h
 ·rw[List.getD_eq_getElem?_getD,List.getD_eq_getElem?_getD,List.getElem?_take,if_pos h]
 ·rw[getG_out (by rw[List.length_take];omega)]
  rcases Nat.lt_or_ge i xs.length with h2|h2
  ·rw[getG_in h2]
   have h3:xs[i]∈xs.drop k:=by
    rw[List.mem_iff_getElem]
    exact⟨i-k,by rw[List.length_drop];omega,by rw[List.getElem_drop];congr 1;omega⟩
   exact(hz _ h3).symm
  ·rw[getG_out h2]
theorem aops_mono {P:Program}:∀{os:List AOper} {Q Q':Env→H→Prop} {ρ:Env} {h:H},(∀ρ h,Q ρ h→Q' ρ h)→aops P os Q ρ h→aops P os Q' ρ h
 |[],_,_,_,_,hq,hx=>hq _ _ hx
 |o::os,Q,Q',ρ,h,hq,hx=>by
  simp only[aops] at hx⊢
  exact astep_mono (fun v h' hh=>⟨hh.1,aops_mono hq hh.2⟩) hx
theorem atP_mono {P:Program} {Q Q':Env→H→Prop} (hq:∀ρ h,Q ρ h→Q' ρ h):∀{t:AT} {ρ:Env} {h:H},atP P Q t ρ h→atP P Q' t ρ h
 | .fin,_,_,hx=>hq _ _ hx
 | .no,_,_,_=>trivial
 | .alt x ns t r,ρ,h,hx=>⟨aops_mono (fun ρ h hh=>atP_mono hq hh) hx.1,atP_mono hq hx.2⟩
theorem awp_mono {P:Program}:∀{c:AC} {Q Q':Post} {ρ:Env} {h:H},(∀e ρ h,Q e ρ h→Q' e ρ h)→awp P c Q ρ h→awp P c Q' ρ h:=by
 intro c
 induction c with
 |skip=>intro Q Q' ρ h hq hx;exact hq _ _ _ hx
 |reg os=>intro Q Q' ρ h hq hx;exact aops_mono (fun ρ h=>hq .normal ρ h) hx
 |regt os t=>intro Q Q' ρ h hq hx;exact aops_mono (fun ρ h hh=>atP_mono (fun ρ h=>hq .normal ρ h) hh) hx
 |seq a b iha ihb=>
  intro Q Q' ρ h hq hx
  refine iha (fun e ρ h hh=> ?_) hx
  cases e<;>first|exact ihb hq hh|exact hq _ _ _ hh
 |cond c x y ihx ihy=>
  rintro Q Q' ρ h hq ⟨t,ht,h1,h2⟩
  exact⟨t,ht,fun e=>ihx hq (h1 e),fun e=>ihy hq (h2 e)⟩
 |block id c ih=>
  intro Q Q' ρ h hq hx
  refine ih (fun e ρ h hh=> ?_) hx
  cases e with
  |exit id'=>
   simp only[ablk] at hh⊢
   split
   ·rename_i hi;rw[if_pos hi] at hh;exact hq _ _ _ hh
   ·rename_i hi;rw[if_neg hi] at hh;exact hq _ _ _ hh
  |_=>exact hq _ _ _ hh
 |loop c ih=>
  rintro Q Q' ρ h hq ⟨I,n,h0,hI⟩
  refine⟨I,n,h0,fun n ρ h hh=>ih (fun e ρ h he=> ?_) (hI n ρ h hh)⟩
  cases e<;>first|exact he|exact hq _ _ _ he
 |exit id=>intro Q Q' ρ h hq hx;exact hq _ _ _ hx
 |ret=>intro Q Q' ρ h hq hx;exact hq _ _ _ hx
theorem awp_cut {P:Program} {c:AC} {next:Env→H→Prop} {Q:Post} {ρ:Env} {h:H} (M:Env→H→Prop) (h1:awp P c (onN M Q) ρ h) (h2:∀ρ h,M ρ h→next ρ h):awp P c (athen next Q) ρ h:=by
 refine awp_mono (fun e ρ h hh=> ?_) h1
 cases e<;>first|exact h2 _ _ hh|exact hh
theorem loop_cut {P:Program} {c:AC} {id:Nat} {next:Env→H→Prop} {Q:Post} {ρ:Env} {h:H} (M:Env→H→Prop) (h1:awp P (.loop c) (ablk id (onN M Q)) ρ h) (h2:∀ρ h,M ρ h→next ρ h):awp P (.loop c) (ablk id (athen next Q)) ρ h:=by
 refine awp_mono (fun e ρ h hh=> ?_) h1
 cases e with
 |exit id'=>
  simp only[ablk] at hh⊢
  split
  ·rename_i hi;rw[if_pos hi] at hh;exact h2 _ _ hh
  ·rename_i hi;rw[if_neg hi] at hh;exact hh
 |normal=>exact h2 _ _ hh
 |_=>exact hh
theorem cond_cut {P:Program} {x y:AC} {v:AV} {next:Env→H→Prop} {Q:Post} {ρ:Env} {h:H} (M:Env→H→Prop) (h1:condK v (awp P x (onN M Q)) (awp P y (onN M Q)) ρ h) (h2:∀ρ h,M ρ h→next ρ h):condK v (awp P x (athen next Q)) (awp P y (athen next Q)) ρ h:=by
 cases v<;>try exact h1
 exact⟨fun e=>awp_cut M (h1.1 e) h2,fun e=>awp_cut M (h1.2 e) h2⟩
section
open Go
theorem mix:Tryd.prog.follows .mixedOrders=true:=by kernel_rfl
abbrev Ent (f n:Nat) (c:AC) (rs:List AR):Prop:=∀{avs:List AV} {h:H} {K:AV→H→Prop},avs.length≤n→(h.wf→awp Tryd.prog c (apost Tryd.prog rs (fun r h'=>h'.wf→K r h')) (envOf avs) h)→ACalls Tryd.prog f avs h K
theorem ent {f n:Nat} {c:AC} {rs:List AR} {fn:Func} {b:Code} (hf:Tryd.prog.funcs[f]? =some fn) (hb:fn.body=some b) (hname:(fn.name== "runtime.NumGoroutine")=false) (hn:fn.ntmps=n) (hc:compile Tryd.prog n b=some c) (hrs:compRes Tryd.prog n fn.results.toList=some rs):Ent f n c rs:=by
 subst hn
 intro avs h K hl hx
 exact acalls_wf mix hf hb hname hc hrs hl hx
def c_bits_Mul64:AC:= .seq (.reg [o 4 (.mv (u64 0)),o 5 (.mv (u64 0))]) (.seq (.reg [mv 14 0,o 15 (.bin .and (.t 14) (u64 4294967295)),mv 6 15]) (.seq (.reg [mv 16 0,o 17 (.bin .shr (.t 16) (u64 32)),mv 7 17]) (.seq (.reg [mv 18 1,o 19 (.bin .and (.t 18) (u64 4294967295)),mv 8 19]) (.seq (.reg [mv 20 1,o 21 (.bin .shr (.t 20) (u64 32)),mv 9 21]) (.seq (.reg [mv 22 6,mv 23 8,bn 24 .mul 22 23,mv 10 24]) (.seq (.reg [mv 25 7,mv 26 8,bn 27 .mul 25 26,mv 28 10,o 29 (.bin .shr (.t 28) (u64 32)),bn 30 .add 27 29,mv 11 30]) (.seq (.reg [mv 31 11,o 32 (.bin .and (.t 31) (u64 4294967295)),mv 12 32]) (.seq (.reg [mv 33 11,o 34 (.bin .shr (.t 33) (u64 32)),mv 13 34]) (.seq (.reg [mv 35 12,mv 36 6,mv 37 9,bn 38 .mul 36 37,bn 39 .add 35 38,mv 12 39]) (.seq (.reg [mv 40 7,mv 41 9,bn 42 .mul 40 41,mv 43 13,bn 44 .add 42 43,mv 45 12,o 46 (.bin .shr (.t 45) (u64 32)),bn 47 .add 44 46,mv 4 47]) (.seq (.reg [mv 48 0,mv 49 1,bn 50 .mul 48 49,mv 5 50]) .ret)))))))))))
theorem in_bits_Mul64:Ent 70 51 c_bits_Mul64 [.t 4, .t 5]:=ent Tryd.func70 rfl rfl rfl (show compile _ 51 _=_ by kernel_rfl) (show compRes _ 51 _=_ by kernel_rfl)
def c_bits_Div64:AC:= .seq (.reg [o 6 (.mv (u64 0)),o 7 (.mv (u64 0))]) (.seq (.seq (.reg [mv 19 2,o 20 (.bin .eql (.t 19) (u64 0))]) (.cond (.t 20) (.reg [o 21 (.ld none (.c (.gp 0 0))),od .bad]) .skip)) (.seq (.seq (.reg [mv 22 2,mv 23 0,bn 24 .leq 22 23]) (.cond (.t 24) (.reg [o 25 (.ld none (.c (.gp 1 0))),od .bad]) .skip)) (.seq (.seq (.reg [mv 26 0,o 27 (.bin .eql (.t 26) (u64 0))]) (.cond (.t 27) (.seq (.reg [mv 28 1,mv 29 2,bn 30 .quo 28 29,mv 31 1,mv 32 2,bn 33 .rem 31 32,mv 6 30,mv 7 33]) .ret) .skip)) (.seq (.reg [mv 34 2,o 35 (.call 76 [.t 34]),o 36 (.cvI .u64 (.t 35)),mv 8 36]) (.seq (.reg [mv 37 2,mv 38 8,bn 39 .shl 37 38,mv 2 39]) (.seq (.reg [mv 40 2,o 41 (.bin .shr (.t 40) (u64 32)),mv 9 41]) (.seq (.reg [mv 42 2,o 43 (.bin .and (.t 42) (u64 4294967295)),mv 10 43]) (.seq (.reg [mv 44 0,mv 45 8,bn 46 .shl 44 45,mv 47 1,mv 48 8,o 49 (.bin .sub (u64 64) (.t 48)),bn 50 .shr 47 49,bn 51 .or 46 50,mv 11 51]) (.seq (.reg [mv 52 1,mv 53 8,bn 54 .shl 52 53,mv 12 54]) (.seq (.reg [mv 55 12,o 56 (.bin .shr (.t 55) (u64 32)),mv 13 56]) (.seq (.reg [mv 57 12,o 58 (.bin .and (.t 57) (u64 4294967295)),mv 14 58]) (.seq (.reg [mv 59 11,mv 60 9,bn 61 .quo 59 60,mv 15 61]) (.seq (.reg [mv 62 11,mv 63 15,mv 64 9,bn 65 .mul 63 64,bn 66 .sub 62 65,mv 16 66]) (.seq (.block 0 (.loop (.seq (.seq (.reg [mv 67 15,o 68 (.bin .geq (.t 67) (u64 4294967296)),mv 69 68,og 70 69 false (.mv (.t 15)),og 71 69 false (.mv (.t 10)),og 72 69 false (.bin .mul (.t 70) (.t 71)),og 73 69 false (.mv (.t 16)),og 74 69 false (.bin .mul (u64 4294967296) (.t 73)),og 75 69 false (.mv (.t 13)),og 76 69 false (.bin .add (.t 74) (.t 75)),og 77 69 false (.bin .gtr (.t 72) (.t 76)),o 78 (.pick (.t 69) (.c (.bool true)) (.t 77))]) (.cond (.t 78) .skip (.exit 0))) (.block 1 (.seq (.reg [mv 79 15,o 80 (.bin .sub (.t 79) (u64 1)),mv 15 80]) (.seq (.reg [mv 81 16,mv 82 9,bn 83 .add 81 82,mv 16 83]) (.seq (.reg [mv 84 16,o 85 (.bin .geq (.t 84) (u64 4294967296))]) (.cond (.t 85) (.exit 0) .skip)))))))) (.seq (.reg [mv 86 11,o 87 (.bin .mul (.t 86) (u64 4294967296)),mv 88 13,bn 89 .add 87 88,mv 90 15,mv 91 2,bn 92 .mul 90 91,bn 93 .sub 89 92,mv 17 93]) (.seq (.reg [mv 94 17,mv 95 9,bn 96 .quo 94 95,mv 18 96]) (.seq (.reg [mv 97 17,mv 98 18,mv 99 9,bn 100 .mul 98 99,bn 101 .sub 97 100,mv 16 101]) (.seq (.block 2 (.loop (.seq (.seq (.reg [mv 102 18,o 103 (.bin .geq (.t 102) (u64 4294967296)),mv 104 103,og 105 104 false (.mv (.t 18)),og 106 104 false (.mv (.t 10)),og 107 104 false (.bin .mul (.t 105) (.t 106)),og 108 104 false (.mv (.t 16)),og 109 104 false (.bin .mul (u64 4294967296) (.t 108)),og 110 104 false (.mv (.t 14)),og 111 104 false (.bin .add (.t 109) (.t 110)),og 112 104 false (.bin .gtr (.t 107) (.t 111)),o 113 (.pick (.t 104) (.c (.bool true)) (.t 112))]) (.cond (.t 113) .skip (.exit 2))) (.block 3 (.seq (.reg [mv 114 18,o 115 (.bin .sub (.t 114) (u64 1)),mv 18 115]) (.seq (.reg [mv 116 16,mv 117 9,bn 118 .add 116 117,mv 16 118]) (.seq (.reg [mv 119 16,o 120 (.bin .geq (.t 119) (u64 4294967296))]) (.cond (.t 120) (.exit 2) .skip)))))))) (.seq (.reg [mv 121 15,o 122 (.bin .mul (.t 121) (u64 4294967296)),mv 123 18,bn 124 .add 122 123,mv 125 17,o 126 (.bin .mul (.t 125) (u64 4294967296)),mv 127 14,bn 128 .add 126 127,mv 129 18,mv 130 2,bn 131 .mul 129 130,bn 132 .sub 128 131,mv 133 8,bn 134 .shr 132 133,mv 6 124,mv 7 134]) .ret)))))))))))))))))))
theorem in_bits_Div64:Ent 71 135 c_bits_Div64 [.t 6, .t 7]:=ent Tryd.func71 rfl rfl rfl (show compile _ 135 _=_ by kernel_rfl) (show compRes _ 135 _=_ by kernel_rfl)
def c_bits_TrailingZeros64:AC:= .seq (.reg [o 2 (.mv (i64 0))]) (.seq (.seq (.reg [mv 3 0,o 4 (.bin .eql (.t 3) (u64 0))]) (.cond (.t 4) (.seq (.reg [o 2 (.mv (i64 64))]) .ret) .skip)) (.seq (.reg [mv 5 0,mv 6 0,o 7 (.un .neg (.t 6)),bn 8 .and 5 7,o 9 (.bin .mul (.t 8) (u64 285870213051353865)),o 10 (.bin .shr (.t 9) (u64 58)),o 11 (.idxA 64 1 (.c (.gp 2 0)) (.t 10)),o 12 (.ld none (.t 11)),o 13 (.cvI .i64 (.t 12)),mv 2 13]) .ret))
theorem in_bits_TrailingZeros64:Ent 73 14 c_bits_TrailingZeros64 [.t 2]:=ent Tryd.func73 rfl rfl rfl (show compile _ 14 _=_ by kernel_rfl) (show compRes _ 14 _=_ by kernel_rfl)
def c_bits_LeadingZeros64:AC:= .seq (.reg [o 2 (.mv (i64 0))]) (.seq (.reg [mv 3 0,o 4 (.call 79 [.t 3]),o 5 (.bin .sub (i64 64) (.t 4)),mv 2 5]) .ret)
theorem in_bits_LeadingZeros64:Ent 76 6 c_bits_LeadingZeros64 [.t 2]:=ent Tryd.func76 rfl rfl rfl (show compile _ 6 _=_ by kernel_rfl) (show compRes _ 6 _=_ by kernel_rfl)
def s_bits_Len64_0:ByteArray:=⟨#[0,1,2,2,3,3,3,3,4,4,4,4,4,4,4,4,5,5,5,5,5,5,5,5,5,5,5,5,5,5,5,5,6,6,6,6,6,6,6,6,6,6,6,6,6,6,6,6,6,6,6,6,6,6,6,6,6,6,6,6,6,6,6,6,7,7,7,7,7,7,7,7,7,7,7,7,7,7,7,7,7,7,7,7,7,7,7,7,7,7,7,7,7,7,7,7,7,7,7,7,7,7,7,7,7,7,7,7,7,7,7,7,7,7,7,7,7,7,7,7,7,7,7,7,7,7,7,7,8,8,8,8,8,8,8,8,8,8,8,8,8,8,8,8,8,8,8,8,8,8,8,8,8,8,8,8,8,8,8,8,8,8,8,8,8,8,8,8,8,8,8,8,8,8,8,8,8,8,8,8,8,8,8,8,8,8,8,8,8,8,8,8,8,8,8,8,8,8,8,8,8,8,8,8,8,8,8,8,8,8,8,8,8,8,8,8,8,8,8,8,8,8,8,8,8,8,8,8,8,8,8,8,8,8,8,8,8,8,8,8,8,8,8,8,8,8,8,8,8,8,8,8,8,8,8,8]⟩
def c_bits_Len64:AC:= .seq (.reg [o 2 (.mv (i64 0))]) (.seq (.seq (.reg [mv 3 0,o 4 (.bin .geq (.t 3) (u64 4294967296))]) (.cond (.t 4) (.seq (.reg [mv 5 0,o 6 (.bin .shr (.t 5) (u64 32)),mv 0 6]) (.reg [o 2 (.mv (i64 32))])) .skip)) (.seq (.seq (.reg [mv 7 0,o 8 (.bin .geq (.t 7) (u64 65536))]) (.cond (.t 8) (.seq (.reg [mv 9 0,o 10 (.bin .shr (.t 9) (u64 16)),mv 0 10]) (.reg [mv 11 2,o 12 (.bin .add (.t 11) (i64 16)),mv 2 12])) .skip)) (.seq (.seq (.reg [mv 13 0,o 14 (.bin .geq (.t 13) (u64 256))]) (.cond (.t 14) (.seq (.reg [mv 15 0,o 16 (.bin .shr (.t 15) (u64 8)),mv 0 16]) (.reg [mv 17 2,o 18 (.bin .add (.t 17) (i64 8)),mv 2 18])) .skip)) (.seq (.reg [mv 19 2,mv 20 0,o 21 (.cvI .u8 (.t 20)),o 22 (.idxS (.c (.str s_bits_Len64_0)) (.t 21)),o 23 (.cvI .i64 (.t 22)),bn 24 .add 19 23,mv 2 24]) .ret))))
theorem in_bits_Len64:Ent 79 25 c_bits_Len64 [.t 2]:=ent Tryd.func79 rfl rfl rfl (show compile _ 25 _=_ by kernel_rfl) (show compRes _ 25 _=_ by kernel_rfl)
end
section
open Go
def c_keep_Cut:AC:= .seq (.reg [o 4 (.mv (.c (.sl none 0 0 none)))]) (.seq (.reg [mv 5 0,mv 6 0,o 7 (.len false (.t 6)),mv 8 1,o 9 (.mnx false (.t 7) [.t 8]),o 10 (.slc 1 (.t 5) none (some (.t 9))),mv 4 10]) .ret)
theorem in_keep_Cut:Ent 13 11 c_keep_Cut [.t 4]:=ent Tryd.func13 rfl rfl rfl (show compile _ 11 _=_ by kernel_rfl) (show compRes _ 11 _=_ by kernel_rfl)
def c_keep_Lend:AC:= .seq (.reg [o 2 (.mv (.c (.sl none 0 0 none)))]) (.seq (.reg [mv 6 0,o 7 (.len false (.t 6)),mv 8 0,o 9 (.len false (.t 8)),o 10 (.bin .add (.t 9) (i64 4)),o 11 (.mk 22 1 8 [.int .u64 0] (.t 7) (.t 10)),mv 3 11]) (.seq (.reg [mv 12 3,mv 13 0,o 14 (.cpy 1 (.t 12) (.t 13))]) (.seq (.reg [mv 15 3,mv 16 0,o 17 (.len false (.t 16)),o 18 (.bin .add (.t 17) (i64 4)),o 19 (.slc 1 (.t 15) none (some (.t 18))),mv 4 19]) (.seq (.seq (.reg [mv 20 0,o 21 (.len false (.t 20)),mv 5 21]) (.block 0 (.loop (.seq (.seq (.reg [mv 22 5,mv 23 4,o 24 (.len false (.t 23)),bn 25 .lss 22 24]) (.cond (.t 25) .skip (.exit 0))) (.seq (.block 1 (.reg [mv 28 4,mv 29 5,o 30 (.idx 1 (.t 28) (.t 29)),od (.st 1 (.t 30) (u64 6148914691236517205))])) (.reg [mv 26 5,o 27 (.bin .add (.t 26) (i64 1)),mv 5 27])))))) (.seq (.reg [mv 31 3,mv 2 31]) .ret)))))
theorem in_keep_Lend:Ent 15 32 c_keep_Lend [.t 2]:=ent Tryd.func15 rfl rfl rfl (show compile _ 32 _=_ by kernel_rfl) (show compRes _ 32 _=_ by kernel_rfl)
def c_keep_Same:AC:= .seq (.reg [o 4 (.mv (.c (.bool false)))]) (.seq (.seq (.reg [mv 6 0,o 7 (.len false (.t 6)),mv 8 1,o 9 (.len false (.t 8)),bn 10 .neq 7 9]) (.cond (.t 10) (.seq (.reg [o 4 (.mv (.c (.bool false)))]) .ret) .skip)) (.seq (.seq (.reg [o 5 (.mv (i64 0))]) (.block 0 (.loop (.seq (.seq (.reg [mv 11 5,mv 12 0,o 13 (.len false (.t 12)),bn 14 .lss 11 13]) (.cond (.t 14) .skip (.exit 0))) (.seq (.block 1 (.seq (.reg [mv 17 0,mv 18 5,o 19 (.idx 1 (.t 17) (.t 18)),o 20 (.ld none (.t 19)),mv 21 1,mv 22 5,o 23 (.idx 1 (.t 21) (.t 22)),o 24 (.ld none (.t 23)),bn 25 .neq 20 24]) (.cond (.t 25) (.seq (.reg [o 4 (.mv (.c (.bool false)))]) .ret) .skip))) (.reg [mv 15 5,o 16 (.bin .add (.t 15) (i64 1)),mv 5 16])))))) (.seq (.reg [o 4 (.mv (.c (.bool true)))]) .ret)))
theorem in_keep_Same:Ent 16 26 c_keep_Same [.t 4]:=ent Tryd.func16 rfl rfl rfl (show compile _ 26 _=_ by kernel_rfl) (show compRes _ 26 _=_ by kernel_rfl)
def c_keep_Intact:AC:= .seq (.reg [o 4 (.mv (.c (.bool false)))]) (.seq (.seq (.reg [mv 7 0,o 8 (.len false (.t 7)),mv 9 1,o 10 (.len false (.t 9)),bn 11 .neq 8 10,mv 12 11,og 13 12 false (.mv (.t 0)),og 14 12 false (.capo (.t 13)),og 15 12 false (.mv (.t 1)),og 16 12 false (.len false (.t 15)),og 17 12 false (.bin .add (.t 16) (i64 4)),og 18 12 false (.bin .neq (.t 14) (.t 17)),o 19 (.pick (.t 12) (.c (.bool true)) (.t 18))]) (.cond (.t 19) (.seq (.reg [o 4 (.mv (.c (.bool false)))]) .ret) .skip)) (.seq (.reg [mv 20 0,mv 21 1,o 22 (.len false (.t 21)),o 23 (.bin .add (.t 22) (i64 4)),o 24 (.slc 1 (.t 20) none (some (.t 23))),mv 5 24]) (.seq (.seq (.reg [o 6 (.mv (i64 0))]) (.block 0 (.loop (.seq (.seq (.reg [mv 25 6,mv 26 5,o 27 (.len false (.t 26)),bn 28 .lss 25 27]) (.cond (.t 28) .skip (.exit 0))) (.seq (.block 1 (.seq (.reg [mv 31 6,mv 32 1,o 33 (.len false (.t 32)),bn 34 .lss 31 33,mv 35 34,og 36 35 true (.mv (.t 5)),og 37 35 true (.mv (.t 6)),og 38 35 true (.idx 1 (.t 36) (.t 37)),og 39 35 true (.ld none (.t 38)),og 40 35 true (.mv (.t 1)),og 41 35 true (.mv (.t 6)),og 42 35 true (.idx 1 (.t 40) (.t 41)),og 43 35 true (.ld none (.t 42)),og 44 35 true (.bin .neq (.t 39) (.t 43)),o 45 (.pick (.t 35) (.t 44) (.c (.bool false))),mv 46 45,og 47 46 false (.mv (.t 6)),og 48 46 false (.mv (.t 1)),og 49 46 false (.len false (.t 48)),og 50 46 false (.bin .geq (.t 47) (.t 49)),og 51 46 false (.mv (.t 50)),og 52 51 true (.mv (.t 5)),og 53 51 true (.mv (.t 6)),og 54 51 true (.idx 1 (.t 52) (.t 53)),og 55 51 true (.ld none (.t 54)),og 56 51 true (.bin .neq (.t 55) (u64 6148914691236517205)),og 57 46 false (.pick (.t 51) (.t 56) (.c (.bool false))),o 58 (.pick (.t 46) (.c (.bool true)) (.t 57))]) (.cond (.t 58) (.seq (.reg [o 4 (.mv (.c (.bool false)))]) .ret) .skip))) (.reg [mv 29 6,o 30 (.bin .add (.t 29) (i64 1)),mv 6 30])))))) (.seq (.reg [o 4 (.mv (.c (.bool true)))]) .ret))))
theorem in_keep_Intact:Ent 21 59 c_keep_Intact [.t 4]:=ent Tryd.func21 rfl rfl rfl (show compile _ 59 _=_ by kernel_rfl) (show compRes _ 59 _=_ by kernel_rfl)
def c_keep_Spoil:AC:= .seq (.reg [mv 4 0,mv 5 0,o 6 (.capo (.t 5)),o 7 (.slc 1 (.t 4) none (some (.t 6))),mv 2 7]) (.seq (.reg [o 3 (.mv (i64 0))]) (.block 0 (.loop (.seq (.seq (.reg [mv 8 3,mv 9 2,o 10 (.len false (.t 9)),bn 11 .lss 8 10]) (.cond (.t 11) .skip (.exit 0))) (.seq (.block 1 (.reg [mv 14 2,mv 15 3,o 16 (.idx 1 (.t 14) (.t 15)),od (.st 1 (.t 16) (u64 8608480567731124087))])) (.reg [mv 12 3,o 13 (.bin .add (.t 12) (i64 1)),mv 3 13]))))))
theorem in_keep_Spoil:Ent 41 17 c_keep_Spoil []:=ent Tryd.func41 rfl rfl rfl (show compile _ 17 _=_ by kernel_rfl) (show compRes _ 17 _=_ by kernel_rfl)
end
end Ab
end Go.Proofs.YtkbglkjpdndkiaaDoor
