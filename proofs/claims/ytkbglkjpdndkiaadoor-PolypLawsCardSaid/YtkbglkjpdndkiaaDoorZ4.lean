/- Joined texts: E2 F1 F2 F3 F4 K1 H2. No condition. -/
import Derived.Test.YtkbglkjpdndkiaaDoorZ3
import Derived.Test.YtkbglkjpdndkiaaDoorProg
import Derived.KernelRfl
import Derived.Laws.Externs
import Derived.Lib.Mul64
namespace Go.Proofs.YtkbglkjpdndkiaaDoor
namespace Ab
open Go Go.RowKit
set_option linter.unusedSimpArgs false
set_option linter.unusedVariables false
attribute [local go_sem ↓] x_mv x_pick x_bin x_beq x_peq x_seq x_cat x_aeq x_idxS x_idxV x_un x_cvI x_bts x_idx x_idxA x_fld x_ld x_st x_nn x_prt x_slc x_mk x_bsl x_bld x_box x_alloc x_len x_capo x_mnx x_app x_cpy x_mkf x_ext x_call x_callV x_bad s_none s_some s_nil s_cons s_chks w_skip w_reg tP_fin tP_no tP_alt w_seq w_cond w_block w_exit w_ret t_normal t_exit t_ret b_normal b_ret b_exit n_normal n_exit n_ret p_normal p_ret f_nil f_t f_c k_ops k_chk k_fin
attribute [local go_sem] e_t e_c e_f u_some u_none u_at env_at k_v k_pick k_add k_sub k_mul k_quo k_rem k_and k_or k_xor k_shl k_shr k_eql k_neq k_lss k_leq k_gtr k_geq k_beq k_peqn k_peqs k_neg k_not k_com k_cvI k_idxS k_idxV1 k_idxVn k_idx k_idxA k_idxG k_ldG k_gld k_seq k_cat k_aeq k_eqs k_fld k_ld1 k_ldn k_get k_gets k_sti k_stb k_stp k_sts k_stf k_sta k_put k_nn k_prt1 k_prtn k_slc_a k_slc_b k_slc_c k_mk k_agg k_bsl k_box k_len k_lenS k_cap k_max k_min k_ext k_callV k_true k_false k_gtt k_gtf k_gft k_gsk k_gff k_lit1i k_lit2i k_lit3i k_c0 k_c1 k_ck List.getElem?_cons_zero List.getElem?_cons_succ List.getElem?_nil Option.getD_some Option.getD_none tupOf List.map_cons List.map_nil Option.map_some Option.map_none List.nil_append List.cons_append List.append_nil Nat.mul_one Int.toNat_natCast Nat.zero_add
attribute [local go_sem_proc] Nat.reduceEqDiff Nat.reduceAdd Int.reduceToNat
attribute [local go_sem_proc ↓] reduceIte
attribute [local go_sem] Bool.false_eq_true
theorem incI {i:Nat} (hi:i<9223372036854775807):IntKind.i64.wrap ((i:Int)+1)=((i+1:Nat):Int):=by rw[wI]<;>omega
theorem addU {a b:Nat} (h:a+b<18446744073709551616):IntKind.u64.wrap ((a:Int)+(b:Int))=((a+b:Nat):Int):=by rw[wU]<;>omega
theorem mulU {a b:Nat} (h:a*b<18446744073709551616):IntKind.u64.wrap ((a:Int)*(b:Int))=((a*b:Nat):Int):=by
 rw[←Int.natCast_mul,wU]<;>omega
theorem ltT {a b:Nat} (h:a<b):decide ((a:Int)<(b:Int))=true:=by simp;omega
theorem ltF {a b:Nat} (h:b≤a):decide ((a:Int)<(b:Int))=false:=by simp;omega
theorem mask32 {x:Nat} (hx:x<18446744073709551616):bAnd .u64 (x:Int) 4294967295=((x%4294967296:Nat):Int):=by
 have:=bandN (a:=x) (b:=4294967295) hx (by omega)
 rw[show 4294967295=2^32-1 from rfl,Nat.and_two_pow_sub_one_eq_mod] at this
 exact this
theorem shrU {x n:Nat} (hn:n≤64):bShr .u64 (x:Int) n=((x/2^n:Nat):Int):=by
 unfold bShr
 rw[show IntKind.u64.bits=64 from rfl,Nat.min_eq_left hn,Int.fdiv_eq_ediv_of_nonneg _ (Int.le_of_lt (Int.pow_pos (by decide)))]
 simp
theorem shr32 {x:Nat}:bShr .u64 (x:Int) 32=((x/4294967296:Nat):Int):=shrU (n:=32) (by omega)
theorem wUn {x:Nat} (h:x<18446744073709551616):IntKind.u64.wrap (x:Int)=(x:Int):=by rw[wU]<;>omega
theorem Mul64_calls {x y:Nat} {h:H} {K:AV→H→Prop} (hx:x<18446744073709551616) (hy:y<18446744073709551616)
  (hk:K (.tup [.int .u64 (x*y/18446744073709551616:Nat), .int .u64 (x*y%18446744073709551616:Nat)]) h):ACalls Tryd.prog 70 [.int .u64 (x:Int), .int .u64 (y:Int)] h K:=by
 refine in_bits_Mul64 (by simp) fun hw=> ?_
 unfold c_bits_Mul64
 obtain⟨m1,m2,m3,m4⟩:=Lib.mul64_hi x y hx hy
 have m5:IntKind.u64.wrap ((x:Int)*(y:Int))=((x*y%18446744073709551616:Nat):Int):=by rw[wUm,←Int.natCast_mul];rfl
 have hm:x*y/18446744073709551616<18446744073709551616:=by
  have:=Nat.mul_lt_mul'' hx hy
  omega
 rw[←m4] at hk hm
 have hm2:x/4294967296*(y/4294967296)<18446744073709551616:=by
  have:=Nat.mul_le_mul (show x/4294967296≤4294967295 by omega) (show y/4294967296≤4294967295 by omega)
  omega
 simp only[go_sem]
 simp only[mask32 hx,mask32 hy,shr32]
 have f1:x/4294967296*(y%4294967296)<18446744073709551616:=by omega
 have f2:x%4294967296*(y/4294967296)<18446744073709551616:=by omega
 generalize x%4294967296=x0 at*
 generalize y%4294967296=y0 at*
 generalize x/4294967296=x1 at*
 generalize y/4294967296=y1 at*
 simp only[mulU m1,mulU f1,mulU f2,mulU hm2,shr32,addU m2,mask32 m2,addU m3]
 rw[addU (a:=x1*y1) (by omega),addU hm,m5]
 exact⟨by omega,by omega,by omega,by omega,by omega,fun _=>hk⟩
def tabok (s:ByteArray):Bool:=(List.range 256).all fun y=>match s[y]? with
 |some b=>decide (b.toNat≤8∧y<2^b.toNat∧(b.toNat=0∨2^(b.toNat-1)≤y))
 |none=>false
theorem tab_use {s:ByteArray} {y:Nat} {K:AV→H→Prop} {h:H} (hs:tabok s=true) (hy:y<256) (hk:∀b:Nat,b≤8→y<2^b→(b=0∨2^(b-1)≤y)→K (.int .u8 (b:Int)) h):∃b,s[y]? =some b∧K (.int .u8 b.toNat) h:=by
 have:=(List.all_eq_true.1 hs) y (by simpa using hy)
 split at this
 ·rename_i b hb
  have:=of_decide_eq_true this
  exact⟨b,hb,hk b.toNat this.1 this.2.1 this.2.2⟩
 ·cases this
def BL (x L:Nat):Prop:=x<2^L∧(L=0∨2^(L-1)≤x)
theorem BL.up {x k L:Nat} (h:BL (x/2^k) L) (hL:L≠0):BL x (k+L):=by
 have hp:0<2^k:=Nat.pow_pos (by decide)
 refine⟨?_, .inr ?_⟩
 ·have:=(Nat.div_lt_iff_lt_mul hp).1 h.1
  rw[Nat.pow_add,Nat.mul_comm]
  exact this
 ·have h1:2^(L-1)≤x/2^k:=h.2.resolve_left hL
  have:=(Nat.le_div_iff_mul_le hp).1 h1
  rw[show k+L-1=(L-1)+k from by omega,Nat.pow_add]
  exact this
theorem BL.pos {x L:Nat} (h:BL x L) (hx:0<x):L≠0:=by
 rintro rfl
 have:=h.1
 omega
theorem Len64_calls {x:Nat} {h:H} {K:AV→H→Prop} (hx:x<18446744073709551616)
  (hk:∀L:Nat,L≤64→BL x L→K (.int .i64 (L:Int)) h):ACalls Tryd.prog 79 [.int .u64 (x:Int)] h K:=by
 refine in_bits_Len64 (by simp) fun hw=> ?_
 unfold c_bits_Len64
 have fin:∀(y k:Nat),y<256→k≤56→(∀b:Nat,b≤8→BL y b→K (.int .i64 ((k+b:Nat):Int)) h)→∀(s:ByteArray),tabok s=true→(0≤IntKind.u8.wrap (y:Int)∧∃b,s[(IntKind.u8.wrap (y:Int)).toNat]? =some b∧K (.int .i64 (IntKind.i64.wrap ((k:Int)+IntKind.i64.wrap ((b.toNat:Nat):Int)))) h):=by
  intro y k hy hk1 hf s hs
  have e:IntKind.u8.wrap (y:Int)=(y:Int):=by rw[IntKind.wrap_u8];omega
  rw[e,Int.toNat_natCast]
  refine⟨by omega, ?_⟩
  obtain⟨b,hb,hq⟩:=tab_use (K:=fun v h=>∀n:Int,v= .int .u8 n→K (.int .i64 (IntKind.i64.wrap ((k:Int)+IntKind.i64.wrap n))) h) (h:=h) hs hy (fun b h1 h2 h3 n en=>by
   injection en with _ en
   subst en
   rw[wI (n:=(b:Int)) (by omega) (by omega),wI (by omega) (by omega),←Int.natCast_add]
   exact hf b h1 ⟨h2,h3⟩)
  exact⟨b,hb,hq _ rfl⟩
 have w1:IntKind.i64.wrap (0+16)=16:=by decide
 have w2:IntKind.i64.wrap (32+16)=48:=by decide
 have w3:IntKind.i64.wrap (0+8)=8:=by decide
 have w4:IntKind.i64.wrap (16+8)=24:=by decide
 have w5:IntKind.i64.wrap (32+8)=40:=by decide
 have w6:IntKind.i64.wrap (48+8)=56:=by decide
 have s16:∀y:Nat,bShr .u64 (y:Int) 16=((y/2^16:Nat):Int):=fun y=>shrU (n:=16) (by omega)
 have s8:∀y:Nat,bShr .u64 (y:Int) 8=((y/2^8:Nat):Int):=fun y=>shrU (n:=8) (by omega)
 have s32:∀y:Nat,bShr .u64 (y:Int) 32=((y/2^32:Nat):Int):=fun y=>shrU (n:=32) (by omega)
 have up2:∀(a b c L:Nat),BL (x/2^a/2^b/2^c) L→0<x/2^a/2^b/2^c→BL x (a+b+c+L):=by
  intro a b c L hL h0
  rw[Nat.add_assoc,Nat.add_assoc]
  have n1:=hL.pos h0
  exact BL.up (BL.up (BL.up hL n1) (by omega)) (by omega)
 have dT:∀(t a:Nat),t≤a→decide ((t:Int)≤(a:Int))=true:=fun t a h=>by simp;omega
 have dF:∀(t a:Nat),a<t→decide ((t:Int)≤(a:Int))=false:=fun t a h=>by simp;omega
 rcases Nat.lt_or_ge x 4294967296 with c1|c1
 ·have d1:decide ((4294967296:Int)≤(x:Int))=false:=dF 4294967296 _ c1
  rcases Nat.lt_or_ge (x) 65536 with c2|c2
  ·have d2:decide ((65536:Int)≤((x:Nat):Int))=false:=dF 65536 _ c2
   rcases Nat.lt_or_ge (x) 256 with c3|c3
   ·have d3:decide ((256:Int)≤((x:Nat):Int))=false:=dF 256 _ c3
    simp only[go_sem,d1,d2,d3,s32,s16,s8,w1,w2,w3,w4,w5,w6]
    obtain⟨q1,b,q2,q3⟩:=fin (x) 0 (by omega) (by omega) (fun b hb hB=>hk (0+b) (by omega) (by simpa using hB)) s_bits_Len64_0 (by decide+kernel)
    exact⟨q1,b,q2,fun _=>q3⟩
   ·have d3:decide ((256:Int)≤((x:Nat):Int))=true:=dT 256 _ c3
    simp only[go_sem,d1,d2,d3,s32,s16,s8,w1,w2,w3,w4,w5,w6]
    refine⟨by omega, ?_⟩
    obtain⟨q1,b,q2,q3⟩:=fin ((x)/2^8) 8 (by omega) (by omega) (fun b hb hB=>hk (8+b) (by omega) (by have:=up2 0 0 8 b (by simpa using hB) (by simp;omega);simpa using this)) s_bits_Len64_0 (by decide+kernel)
    exact⟨q1,b,q2,fun _=>q3⟩
  ·have d2:decide ((65536:Int)≤((x:Nat):Int))=true:=dT 65536 _ c2
   rcases Nat.lt_or_ge ((x)/2^16) 256 with c3|c3
   ·have d3:decide ((256:Int)≤(((x)/2^16:Nat):Int))=false:=dF 256 _ c3
    simp only[go_sem,d1,d2,d3,s32,s16,s8,w1,w2,w3,w4,w5,w6]
    refine⟨by omega, ?_⟩
    obtain⟨q1,b,q2,q3⟩:=fin ((x)/2^16) 16 (by omega) (by omega) (fun b hb hB=>hk (16+b) (by omega) (by have:=up2 0 16 0 b (by simpa using hB) (by simp;omega);simpa using this)) s_bits_Len64_0 (by decide+kernel)
    exact⟨q1,b,q2,fun _=>q3⟩
   ·have d3:decide ((256:Int)≤(((x)/2^16:Nat):Int))=true:=dT 256 _ c3
    simp only[go_sem,d1,d2,d3,s32,s16,s8,w1,w2,w3,w4,w5,w6]
    refine⟨by omega,by omega, ?_⟩
    obtain⟨q1,b,q2,q3⟩:=fin (((x)/2^16)/2^8) 24 (by omega) (by omega) (fun b hb hB=>hk (24+b) (by omega) (by have:=up2 0 16 8 b (by simpa using hB) (by simp;omega);simpa using this)) s_bits_Len64_0 (by decide+kernel)
    exact⟨q1,b,q2,fun _=>q3⟩
 ·have d1:decide ((4294967296:Int)≤(x:Int))=true:=dT 4294967296 _ c1
  rcases Nat.lt_or_ge (x/2^32) 65536 with c2|c2
  ·have d2:decide ((65536:Int)≤((x/2^32:Nat):Int))=false:=dF 65536 _ c2
   rcases Nat.lt_or_ge (x/2^32) 256 with c3|c3
   ·have d3:decide ((256:Int)≤((x/2^32:Nat):Int))=false:=dF 256 _ c3
    simp only[go_sem,d1,d2,d3,s32,s16,s8,w1,w2,w3,w4,w5,w6]
    refine⟨by omega, ?_⟩
    obtain⟨q1,b,q2,q3⟩:=fin (x/2^32) 32 (by omega) (by omega) (fun b hb hB=>hk (32+b) (by omega) (by have:=up2 32 0 0 b (by simpa using hB) (by simp;omega);simpa using this)) s_bits_Len64_0 (by decide+kernel)
    exact⟨q1,b,q2,fun _=>q3⟩
   ·have d3:decide ((256:Int)≤((x/2^32:Nat):Int))=true:=dT 256 _ c3
    simp only[go_sem,d1,d2,d3,s32,s16,s8,w1,w2,w3,w4,w5,w6]
    refine⟨by omega,by omega, ?_⟩
    obtain⟨q1,b,q2,q3⟩:=fin ((x/2^32)/2^8) 40 (by omega) (by omega) (fun b hb hB=>hk (40+b) (by omega) (by have:=up2 32 0 8 b (by simpa using hB) (by simp;omega);simpa using this)) s_bits_Len64_0 (by decide+kernel)
    exact⟨q1,b,q2,fun _=>q3⟩
  ·have d2:decide ((65536:Int)≤((x/2^32:Nat):Int))=true:=dT 65536 _ c2
   rcases Nat.lt_or_ge ((x/2^32)/2^16) 256 with c3|c3
   ·have d3:decide ((256:Int)≤(((x/2^32)/2^16:Nat):Int))=false:=dF 256 _ c3
    simp only[go_sem,d1,d2,d3,s32,s16,s8,w1,w2,w3,w4,w5,w6]
    refine⟨by omega,by omega, ?_⟩
    obtain⟨q1,b,q2,q3⟩:=fin ((x/2^32)/2^16) 48 (by omega) (by omega) (fun b hb hB=>hk (48+b) (by omega) (by have:=up2 32 16 0 b (by simpa using hB) (by simp;omega);simpa using this)) s_bits_Len64_0 (by decide+kernel)
    exact⟨q1,b,q2,fun _=>q3⟩
   ·have d3:decide ((256:Int)≤(((x/2^32)/2^16:Nat):Int))=true:=dT 256 _ c3
    simp only[go_sem,d1,d2,d3,s32,s16,s8,w1,w2,w3,w4,w5,w6]
    refine⟨by omega,by omega,by omega, ?_⟩
    obtain⟨q1,b,q2,q3⟩:=fin (((x/2^32)/2^16)/2^8) 56 (by omega) (by omega) (fun b hb hB=>hk (56+b) (by omega) (by have:=up2 32 16 8 b (by simpa using hB) (by simp;omega);simpa using this)) s_bits_Len64_0 (by decide+kernel)
    exact⟨q1,b,q2,fun _=>q3⟩
theorem LeadingZeros64_calls {x:Nat} {h:H} {K:AV→H→Prop} (hx:x<18446744073709551616) (h0:0<x)
  (hk:∀s:Nat,s≤63→9223372036854775808≤x*2^s→x*2^s<18446744073709551616→K (.int .i64 (s:Int)) h):ACalls Tryd.prog 76 [.int .u64 (x:Int)] h K:=by
 refine in_bits_LeadingZeros64 (by simp) fun hw=> ?_
 unfold c_bits_LeadingZeros64
 simp only[go_sem]
 refine Len64_calls hx fun L hL hB=> ?_
 have n0:=hB.pos h0
 have e:IntKind.i64.wrap (64-(L:Int))=((64-L:Nat):Int):=by rw[wI]<;>omega
 simp only[go_sem,e]
 intro _
 have h1:=hB.2.resolve_left n0
 refine hk (64-L) (by omega) ?_ ?_
 ·have:=Nat.mul_le_mul_right (2^(64-L)) h1
  rw[←Nat.pow_add,show L-1+(64-L)=63 from by omega] at this
  exact this
 ·have:=Nat.mul_lt_mul_of_pos_right hB.1 (Nat.pow_pos (n:=64-L) (show 0<2 by decide))
  rw[←Nat.pow_add,show L+(64-L)=64 from by omega] at this
  exact this
theorem dig_le {U Y a b c W q r:Nat} (hY:Y=a*W+b) (hq:q*a+r=U) (hc:q*b≤W*r+c):q*Y≤U*W+c:=by
 have e1:q*(a*W+b)=q*a*W+q*b:=by rw[Nat.mul_add,Nat.mul_assoc]
 have e2:U*W=q*a*W+W*r:=by rw[←hq,Nat.add_mul,Nat.mul_comm r W]
 rw[hY,e1,e2]
 omega
theorem dig_lt {U Y a b c W q r:Nat} (hY:Y=a*W+b) (hq:q*a+r=U) (hc:W*r+c<q*b):U*W+c<q*Y:=by
 have e1:q*(a*W+b)=q*a*W+q*b:=by rw[Nat.mul_add,Nat.mul_assoc]
 have e2:U*W=q*a*W+W*r:=by rw[←hq,Nat.add_mul,Nat.mul_comm r W]
 rw[hY,e1,e2]
 omega
theorem dig_full {U Y c W:Nat} (hU:U<Y) (hc:c<W):(U*W+c)/Y<W:=by
 rw[Nat.div_lt_iff_lt_mul (by omega)]
 have:=Nat.mul_le_mul_right W (show U+1≤Y from hU)
 rw[Nat.add_mul] at this
 rw[Nat.mul_comm W Y]
 omega
structure Srch (U Y a b c Q q r:Nat):Prop where
 hY:Y=a*4294967296+b
 hU:U<Y
 ha:a<4294967296
 ha2:2147483648≤a
 hb:b<4294967296
 hc:c<4294967296
 hQ:Q=(U*4294967296+c)/Y
 hq:q*a+r=U
 hr:r<4294967296
 hle:Q≤q
 hq1:q≤4294967297
theorem Srch.start {U Y a b c Q:Nat} (hQ:Q=(U*4294967296+c)/Y) (hY:Y=a*4294967296+b) (hU:U<Y) (ha:a<4294967296) (ha2:2147483648≤a) (hb:b<4294967296) (hc:c<4294967296):Srch U Y a b c Q (U/a) (U%a):=by
 subst hQ
 have h0:U/a≤4294967297:=by
  have:U<(4294967297+1)*a:=by rw[hY] at hU;omega
  have:=(Nat.div_lt_iff_lt_mul (by omega:0<a)).2 this
  omega
 have h1:U%a<a:=Nat.mod_lt _ (by omega)
 refine⟨hY,hU,ha,ha2,hb,hc,rfl,Nat.div_add_mod' U a,by omega, ?_,h0⟩
 refine Nat.le_of_lt_succ ((Nat.div_lt_iff_lt_mul (by omega)).2 ?_)
 have e:U<(U/a+1)*a:=Nat.lt_mul_of_div_lt (Nat.lt_succ_self _) (by omega)
 have e2:U+1≤(U/a+1)*a:=e
 have e3:=Nat.mul_le_mul_right 4294967296 e2
 have e4:(U/a).succ*Y=(U/a+1)*a*4294967296+(U/a+1)*b:=by
  rw[hY,Nat.succ_eq_add_one,Nat.mul_add,Nat.mul_assoc]
 rw[e4]
 rw[Nat.add_mul] at e3
 omega
theorem Srch.done {U Y a b c Q q r:Nat} (s:Srch U Y a b c Q q r) (hc:q*b≤4294967296*r+c):q=Q:=by
 have h1:=dig_le (W:=4294967296) (c:=c) s.hY s.hq hc
 have h2:q≤Q:=by rw[s.hQ];exact(Nat.le_div_iff_mul_le (by have:=s.hU;omega)).2 h1
 have:=s.hle
 omega
theorem Srch.lt {U Y a b c Q q r:Nat} (s:Srch U Y a b c Q q r) (hc:4294967296≤q∨4294967296*r+c<q*b):Q<q:=by
 rcases hc with h|h
 ·have:=dig_full s.hU s.hc
  rw[←s.hQ] at this
  omega
 ·have h1:=dig_lt (W:=4294967296) (c:=c) s.hY s.hq h
  rw[s.hQ]
  exact(Nat.div_lt_iff_lt_mul (by have:=s.hU;omega)).2 h1
theorem Srch.next {U Y a b c Q q r:Nat} (s:Srch U Y a b c Q q r) (hc:Q<q) (hr:r+a<4294967296):Srch U Y a b c Q (q-1) (r+a):=by
 refine⟨s.hY,s.hU,s.ha,s.ha2,s.hb,s.hc,s.hQ, ?_,hr,by omega,by have:=s.hq1;omega⟩
 rw[←s.hq,Nat.sub_mul]
 have:1*a≤q*a:=Nat.mul_le_mul_right a (by omega)
 omega
theorem Srch.out {U Y a b c Q q r:Nat} (s:Srch U Y a b c Q q r) (hc:Q<q) (hr:4294967296≤r+a):q-1=Q:=by
 have e:(q-1)*a+(r+a)=U:=by
  rw[←s.hq,Nat.sub_mul]
  have:1*a≤q*a:=Nat.mul_le_mul_right a (by omega)
  omega
 have h0:(q-1)*b≤4294967296*(r+a)+c:=by
  have:=Nat.mul_le_mul (show q-1≤4294967296 by have:=s.hq1;omega) (Nat.le_of_lt s.hb)
  omega
 have h1:=dig_le (W:=4294967296) (c:=c) s.hY e h0
 have h2:q-1≤Q:=by rw[s.hQ];exact(Nat.le_div_iff_mul_le (by have:=s.hU;omega)).2 h1
 omega
theorem two_digits {U Y c1 c0 Q1 R Q0:Nat} (hQ1:Q1=(U*4294967296+c1)/Y) (hR:R=(U*4294967296+c1)%Y) (hQ0:Q0=(R*4294967296+c0)/Y) (hY:0<Y):
  (U*18446744073709551616+(c1*4294967296+c0))/Y=Q1*4294967296+Q0∧(U*18446744073709551616+(c1*4294967296+c0))%Y=(R*4294967296+c0)%Y:=by
 have e1:U*4294967296+c1=Y*Q1+R:=by rw[hQ1,hR,Nat.div_add_mod]
 have e2:R*4294967296+c0=Y*Q0+(R*4294967296+c0)%Y:=by rw[hQ0,Nat.div_add_mod]
 have e3:U*18446744073709551616+(c1*4294967296+c0)=Y*(Q1*4294967296+Q0)+(R*4294967296+c0)%Y:=by
  have e4:(U*4294967296+c1)*4294967296=(Y*Q1+R)*4294967296:=by rw[e1]
  rw[Nat.mul_add,←Nat.mul_assoc]
  revert e1 e2 e4
  generalize (R*4294967296+c0)%Y=rr
  generalize Y*Q1=t
  generalize Y*Q0=t0
  clear hQ1 hR hQ0 hY
  omega
 have hlt:(R*4294967296+c0)%Y<Y:=Nat.mod_lt _ hY
 rw[e3]
 constructor
 ·rw[Nat.mul_add_div hY,Nat.div_eq_of_lt hlt,Nat.add_zero]
 ·rw[Nat.mul_add_mod,Nat.mod_eq_of_lt hlt]
theorem shlU {x n:Nat} (hn:n≤64):bShl .u64 (x:Int) n=((x*2^n%18446744073709551616:Nat):Int):=by
 unfold bShl
 rw[show IntKind.u64.bits=64 from rfl,Nat.min_eq_left hn,wUm]
 have:((x:Int)*2^n)=((x*2^n:Nat):Int):=by simp
 rw[this]
 omega
theorem orU {a b s:Nat} (ha:a*2^s<18446744073709551616) (hb:b<2^s) (hs:s≤64):bOr .u64 ((a*2^s:Nat):Int) (b:Int)=((a*2^s+b:Nat):Int):=by
 have h2:b<18446744073709551616:=Nat.lt_of_lt_of_le hb (Nat.pow_le_pow_right (by decide) hs:2^s≤2^64)
 have:=borN ha h2
 rw[←Nat.shiftLeft_eq,←Nat.shiftLeft_add_eq_or_of_lt hb] at this
 rw[←Nat.shiftLeft_eq]
 exact this
theorem mulL {a:Nat} (h:4294967296*a<18446744073709551616):IntKind.u64.wrap (4294967296*(a:Int))=((4294967296*a:Nat):Int):=by rw[wU]<;>omega
theorem shift_split {hi lo y s:Nat} (hh:hi<y) (hl:lo<18446744073709551616) (hs:s≤63) (hY:y*2^s<18446744073709551616):
  hi*2^s<18446744073709551616∧lo/2^(64-s)<2^s∧(hi*2^s+lo/2^(64-s))*18446744073709551616+lo*2^s%18446744073709551616=(hi*18446744073709551616+lo)*2^s∧hi*2^s+lo/2^(64-s)<y*2^s:=by
 have hp:0<2^s:=Nat.pow_pos (by decide)
 have e64:2^(64-s)*2^s=18446744073709551616:=by rw[←Nat.pow_add,show 64-s+s=64 from by omega]
 have h2:lo/2^(64-s)<2^s:=by
  rw[Nat.div_lt_iff_lt_mul (Nat.pow_pos (by decide)),Nat.mul_comm,e64]
  exact hl
 have h1:hi*2^s+2^s≤y*2^s:=by
  have:=Nat.mul_le_mul_right (2^s) (show hi+1≤y from hh)
  rw[Nat.add_mul,Nat.one_mul] at this
  exact this
 have h3:lo*2^s/18446744073709551616=lo/2^(64-s):=by rw[←e64,Nat.mul_div_mul_right _ _ hp]
 refine⟨by omega,h2, ?_,by omega⟩
 rw[←h3]
 have e5:(hi*18446744073709551616+lo)*2^s=hi*2^s*18446744073709551616+lo*2^s:=by rw[Nat.add_mul,Nat.mul_assoc,Nat.mul_comm 18446744073709551616,←Nat.mul_assoc]
 rw[e5]
 generalize lo*2^s=t
 generalize hi*2^s=t2
 omega
theorem sub_back {U Y c Q:Nat} (hY:0<Y) (hY2:Y<18446744073709551616) (hQ:Q=(U*4294967296+c)/Y) (hc:c<4294967296):
  IntKind.u64.wrap (IntKind.u64.wrap (IntKind.u64.wrap ((U:Int)*4294967296)+(c:Int))-IntKind.u64.wrap ((Q:Int)*(Y:Int)))=(((U*4294967296+c)%Y:Nat):Int):=by
 have e1:U*4294967296+c=Q*Y+(U*4294967296+c)%Y:=by rw[hQ,Nat.div_add_mod']
 have hlt:(U*4294967296+c)%Y<Y:=Nat.mod_lt _ hY
 simp only[wUm]
 rw[←Int.natCast_mul]
 revert e1 hlt
 generalize (U*4294967296+c)%Y=R
 generalize Q*Y=t
 intro e1 hlt
 omega
theorem remU {U a:Nat} (hU:U<18446744073709551616):IntKind.u64.wrap ((U:Int)-IntKind.u64.wrap (((U/a:Nat):Int)*(a:Int)))=((U%a:Nat):Int):=by
 have h1:=Nat.div_add_mod' U a
 have h2:U/a*a≤U:=Nat.div_mul_le_self U a
 rw[mulU (by omega),wU (by omega) (by omega)]
 omega
theorem subN {a b:Nat} (h:b≤a) (ha:a<18446744073709551616):IntKind.u64.wrap ((a:Int)-(b:Int))=((a-b:Nat):Int):=by rw[wU]<;>omega
theorem subN1 {a:Nat} (h:1≤a) (ha:a<18446744073709551616):IntKind.u64.wrap ((a:Int)-1)=((a-1:Nat):Int):=subN (b:=1) h ha
theorem Div64_calls {hi lo y:Nat} {h:H} {K:AV→H→Prop} (hh:hi<y) (hl:lo<18446744073709551616) (hy:y<18446744073709551616)
  (hk:K (.tup [.int .u64 ((hi*18446744073709551616+lo)/y:Nat), .int .u64 ((hi*18446744073709551616+lo)%y:Nat)]) h):ACalls Tryd.prog 71 [.int .u64 (hi:Int), .int .u64 (lo:Int), .int .u64 (y:Int)] h K:=by
 refine in_bits_Div64 (by simp) fun hw=> ?_
 unfold c_bits_Div64
 have d1:((y:Int)==0)=false:=by simp;omega
 have d2:decide ((y:Int)≤(hi:Int))=false:=by simp;omega
 rcases Nat.eq_zero_or_pos hi with rfl|hp
 ·have d3:(((0:Nat):Int)==0)=true:=by decide
  have hq:lo/y≤lo:=Nat.div_le_self _ _
  simp only[go_sem,d1,d2,d3,tdivN,tmodN,wUn (x:=lo/y) (by omega)]
  rw[Nat.zero_mul,Nat.zero_add] at hk
  exact⟨by omega,by omega,fun _=>hk⟩
 ·have d3:((hi:Int)==0)=false:=by simp;omega
  simp only[go_sem,d1,d2,d3]
  refine LeadingZeros64_calls hy (by omega) fun s hs h63 h64=> ?_
  have e64:IntKind.u64.wrap (64-(s:Int))=((64-s:Nat):Int):=by rw[wU]<;>omega
  obtain⟨f1,f2,f3,f4⟩:=shift_split hh hl hs h64
  have hN:(hi*18446744073709551616+lo)/y=(hi*18446744073709551616+lo)*2^s/(y*2^s):=(Nat.mul_div_mul_right _ _ (Nat.pow_pos (by decide))).symm
  have hM:(hi*18446744073709551616+lo)%y=(hi*18446744073709551616+lo)*2^s%(y*2^s)/2^s:=by rw[Nat.mul_mod_mul_right,Nat.mul_div_cancel _ (Nat.pow_pos (by decide))]
  rw[hN,hM,←f3] at hk
  have s1:=shlU (x:=y) (n:=s) (by omega)
  have s2:=shlU (x:=hi) (n:=s) (by omega)
  have s3:=shrU (x:=lo) (n:=64-s) (by omega)
  have s4:=shlU (x:=lo) (n:=s) (by omega)
  rw[Nat.mod_eq_of_lt h64] at s1
  rw[Nat.mod_eq_of_lt f1] at s2
  have s5:=orU (b:=lo/2^(64-s)) f1 f2 (by omega)
  have k1:=mask32 (x:=y*2^s) h64
  have k2:=mask32 (x:=lo*2^s%18446744073709551616) (Nat.mod_lt _ (by decide))
  have hUb:hi*2^s+lo/2^(64-s)<18446744073709551616:=by omega
  have hya:0<y*2^s/4294967296:=by omega
  simp only[go_sem,wUn (x:=s) (by omega),e64,s1,s2,s3,s4,s5,shr32,k1,k2,tdivN,wUn (Nat.lt_of_le_of_lt (Nat.div_le_self (hi*2^s+lo/2^(64-s)) _) hUb),remU hUb]
  have hm:lo*2^s%18446744073709551616<18446744073709551616:=Nat.mod_lt _ (by decide)
  have hsh:∀x:Nat,bShr .u64 (x:Int) s=((x/2^s:Nat):Int):=fun x=>shrU (by omega)
  clear hN hM f3 f1 f2 s1 s2 s3 s4 s5 k1 k2
  generalize lo*2^s%18446744073709551616=un at*
  generalize hi*2^s+lo/2^(64-s)=U at*
  generalize y*2^s=Y at*
  refine⟨by omega,by omega,by omega,by omega,by omega,by omega,by omega, ?_⟩
  have hY:Y=Y/4294967296*4294967296+Y%4294967296:=by omega
  have hun:un=un/4294967296*4294967296+un%4294967296:=by omega
  have ha:Y/4294967296<4294967296:=by omega
  have ha2:2147483648≤Y/4294967296:=by omega
  have hb:Y%4294967296<4294967296:=by omega
  have hc1:un/4294967296<4294967296:=by omega
  have hc0:un%4294967296<4294967296:=by omega
  generalize Y/4294967296=a at*
  generalize Y%4294967296=b at*
  generalize un/4294967296=c1 at*
  generalize un%4294967296=c0 at*
  obtain⟨Q1,hQ1⟩:∃Q1,Q1=(U*4294967296+c1)/Y:=⟨_,rfl⟩
  obtain⟨R,hR⟩:∃R,R=(U*4294967296+c1)%Y:=⟨_,rfl⟩
  obtain⟨Q0,hQ0⟩:∃Q0,Q0=(R*4294967296+c0)/Y:=⟨_,rfl⟩
  obtain⟨t1,t2⟩:=two_digits hQ1 hR hQ0 (by omega)
  rw[←hun] at t1 t2
  rw[t1,t2] at hk
  have hRl:R<Y:=by rw[hR];exact Nat.mod_lt _ (by omega)
  have hQl:Q1<4294967296:=by rw[hQ1];exact dig_full f4 hc1
  have hQl0:Q0<4294967296:=by rw[hQ0];exact dig_full hRl hc0
  clear t1 t2 hun
  refine loop_cut (fun ρ' h'=>h'=h∧ρ' 2= .int .u64 ((Y:Nat):Int)∧ρ' 8= .int .u64 ((s:Nat):Int)∧ρ' 9= .int .u64 ((a:Nat):Int)∧ρ' 10= .int .u64 ((b:Nat):Int)∧ρ' 11= .int .u64 ((U:Nat):Int)∧ρ' 13= .int .u64 ((c1:Nat):Int)∧ρ' 14= .int .u64 ((c0:Nat):Int)∧ρ' 15= .int .u64 (Q1:Int)) ?_ ?_
  ·refine⟨fun n ρ h'=>h'=h∧ρ 2= .int .u64 ((Y:Nat):Int)∧ρ 8= .int .u64 ((s:Nat):Int)∧ρ 9= .int .u64 ((a:Nat):Int)∧ρ 10= .int .u64 ((b:Nat):Int)∧ρ 11= .int .u64 ((U:Nat):Int)∧ρ 13= .int .u64 ((c1:Nat):Int)∧ρ 14= .int .u64 ((c0:Nat):Int)∧∃q r,n=q∧ρ 15= .int .u64 (q:Nat)∧ρ 16= .int .u64 (r:Nat)∧Srch U Y a b c1 Q1 q r,_,⟨rfl,by first|rfl|trivial|assumption,by first|rfl|trivial|assumption,by first|rfl|trivial|assumption,by first|rfl|trivial|assumption,by first|rfl|trivial|assumption,by first|rfl|trivial|assumption,by first|rfl|trivial|assumption,_,_,rfl,by first|rfl|trivial|assumption,by first|rfl|trivial|assumption,Srch.start hQ1 hY f4 ha ha2 hb hc1⟩, ?_⟩
   rintro n ρ h' ⟨rfl,g2,g8,g9,g10,g11,g13,g14,q,r,rfl,hq,h16,hs⟩
   have hr:=hs.hr
   have hc:=hs.hc
   have hq1:=hs.hq1
   have wr:4294967296*r+c1<18446744073709551616:=by omega
   have again:Q1<n→decide ((4294967296:Int)≤((r+a:Nat):Int))=false→Srch U Y a b c1 Q1 (n-1) (r+a):=fun h1 h2=>hs.next h1 (by simp at h2;omega)
   have stop:Q1<n→decide ((4294967296:Int)≤((r+a:Nat):Int))=true→n-1=Q1:=fun h1 h2=>hs.out h1 (by simp at h2;omega)
   rcases Nat.lt_or_ge n 4294967296 with i1|i1
   ·have d1:decide ((4294967296:Int)≤(n:Int))=false:=by simp;omega
    have hqb:n*b<18446744073709551616:=by
     have h3:n*b≤4294967295*4294967295:=Nat.mul_le_mul (by omega) (by omega)
     omega
    rcases Nat.lt_or_ge (4294967296*r+c1) (n*b) with c2|c2
    ·have d2:=ltT c2
     have hlt:=hs.lt (.inr c2)
     have hn1:0<n:=Nat.lt_of_le_of_lt (Nat.zero_le _) hlt
     simp only[go_sem,hq,h16,g2,g8,g9,g10,g11,g13,g14,d1,mulU hqb,mulL (a:=r) (by omega),addU wr,d2,subN1 (a:=n) (by omega) (by omega),addU (a:=r) (b:=a) (by omega)]
     refine cond_split (fun c3=> ?_) (fun c3=> ?_)
     ·simp only[go_sem,g2,g8,g9,g10,g11,g13,g14]
      rw[stop hlt c3]
      exact⟨by first|rfl|trivial|assumption,by first|rfl|trivial|assumption,by first|rfl|trivial|assumption,by first|rfl|trivial|assumption,by first|rfl|trivial|assumption,by first|rfl|trivial|assumption,by first|rfl|trivial|assumption,by first|rfl|trivial|assumption,by first|rfl|trivial|assumption⟩
     ·simp only[go_sem,g2,g8,g9,g10,g11,g13,g14]
      exact⟨n-1,by omega,by first|rfl|trivial|assumption,by first|rfl|trivial|assumption,by first|rfl|trivial|assumption,by first|rfl|trivial|assumption,by first|rfl|trivial|assumption,by first|rfl|trivial|assumption,by first|rfl|trivial|assumption,by first|rfl|trivial|assumption,_,_,rfl,rfl,rfl,again hlt c3⟩
    ·have d2:=ltF c2
     simp only[go_sem,hq,h16,g2,g8,g9,g10,g11,g13,g14,d1,mulU hqb,mulL (a:=r) (by omega),addU wr,d2]
     rw[hs.done c2]
     exact⟨by first|rfl|trivial|assumption,by first|rfl|trivial|assumption,by first|rfl|trivial|assumption,by first|rfl|trivial|assumption,by first|rfl|trivial|assumption,by first|rfl|trivial|assumption,by first|rfl|trivial|assumption,by first|rfl|trivial|assumption,by first|rfl|trivial|assumption⟩
   ·have d1:decide ((4294967296:Int)≤(n:Int))=true:=by simp;omega
    have hlt:=hs.lt (.inl i1)
    have hn1:0<n:=Nat.lt_of_le_of_lt (Nat.zero_le _) hlt
    simp only[go_sem,hq,h16,g2,g8,g9,g10,g11,g13,g14,d1,subN1 (a:=n) (by omega) (by omega),addU (a:=r) (b:=a) (by omega)]
    refine cond_split (fun c3=> ?_) (fun c3=> ?_)
    ·simp only[go_sem,g2,g8,g9,g10,g11,g13,g14]
     rw[stop hlt c3]
     exact⟨by first|rfl|trivial|assumption,by first|rfl|trivial|assumption,by first|rfl|trivial|assumption,by first|rfl|trivial|assumption,by first|rfl|trivial|assumption,by first|rfl|trivial|assumption,by first|rfl|trivial|assumption,by first|rfl|trivial|assumption,by first|rfl|trivial|assumption⟩
    ·simp only[go_sem,g2,g8,g9,g10,g11,g13,g14]
     exact⟨n-1,by omega,by first|rfl|trivial|assumption,by first|rfl|trivial|assumption,by first|rfl|trivial|assumption,by first|rfl|trivial|assumption,by first|rfl|trivial|assumption,by first|rfl|trivial|assumption,by first|rfl|trivial|assumption,by first|rfl|trivial|assumption,_,_,rfl,rfl,rfl,again hlt c3⟩
  ·rintro ρ h1 ⟨rfl,g2,g8,g9,g10,g11,g13,g14,g15⟩
   have hb1:=sub_back (U:=U) (c:=c1) (by omega) h64 hQ1 hc1
   rw[←hR] at hb1
   have hRb:R<18446744073709551616:=by omega
   simp only[go_sem,g2,g8,g9,g10,g11,g13,g14,g15,hb1,tdivN,wUn (Nat.lt_of_le_of_lt (Nat.div_le_self R a) hRb),remU hRb]
   refine⟨by omega, ?_⟩
   refine loop_cut (fun ρ' h'=>h'=h1∧ρ' 2= .int .u64 ((Y:Nat):Int)∧ρ' 8= .int .u64 ((s:Nat):Int)∧ρ' 9= .int .u64 ((a:Nat):Int)∧ρ' 10= .int .u64 ((b:Nat):Int)∧ρ' 14= .int .u64 ((c0:Nat):Int)∧ρ' 15= .int .u64 ((Q1:Nat):Int)∧ρ' 17= .int .u64 ((R:Nat):Int)∧ρ' 18= .int .u64 (Q0:Int)) ?_ ?_
   ·refine⟨fun n ρ h'=>h'=h1∧ρ 2= .int .u64 ((Y:Nat):Int)∧ρ 8= .int .u64 ((s:Nat):Int)∧ρ 9= .int .u64 ((a:Nat):Int)∧ρ 10= .int .u64 ((b:Nat):Int)∧ρ 14= .int .u64 ((c0:Nat):Int)∧ρ 15= .int .u64 ((Q1:Nat):Int)∧ρ 17= .int .u64 ((R:Nat):Int)∧∃q r,n=q∧ρ 18= .int .u64 (q:Nat)∧ρ 16= .int .u64 (r:Nat)∧Srch R Y a b c0 Q0 q r,_,⟨rfl,by first|rfl|trivial|assumption,by first|rfl|trivial|assumption,by first|rfl|trivial|assumption,by first|rfl|trivial|assumption,by first|rfl|trivial|assumption,by first|rfl|trivial|assumption,by first|rfl|trivial|assumption,_,_,rfl,by first|rfl|trivial|assumption,by first|rfl|trivial|assumption,Srch.start hQ0 hY hRl ha ha2 hb hc0⟩, ?_⟩
    rintro n ρ h' ⟨rfl,g2,g8,g9,g10,g14,g15,g17,q,r,rfl,hq,h16,hs⟩
    have hr:=hs.hr
    have hc:=hs.hc
    have hq1:=hs.hq1
    have wr:4294967296*r+c0<18446744073709551616:=by omega
    have again:Q0<n→decide ((4294967296:Int)≤((r+a:Nat):Int))=false→Srch R Y a b c0 Q0 (n-1) (r+a):=fun h1 h2=>hs.next h1 (by simp at h2;omega)
    have stop:Q0<n→decide ((4294967296:Int)≤((r+a:Nat):Int))=true→n-1=Q0:=fun h1 h2=>hs.out h1 (by simp at h2;omega)
    rcases Nat.lt_or_ge n 4294967296 with i1|i1
    ·have d1:decide ((4294967296:Int)≤(n:Int))=false:=by simp;omega
     have hqb:n*b<18446744073709551616:=by
      have h3:n*b≤4294967295*4294967295:=Nat.mul_le_mul (by omega) (by omega)
      omega
     rcases Nat.lt_or_ge (4294967296*r+c0) (n*b) with c2|c2
     ·have d2:=ltT c2
      have hlt:=hs.lt (.inr c2)
      have hn1:0<n:=Nat.lt_of_le_of_lt (Nat.zero_le _) hlt
      simp only[go_sem,hq,h16,g2,g8,g9,g10,g14,g15,g17,d1,mulU hqb,mulL (a:=r) (by omega),addU wr,d2,subN1 (a:=n) (by omega) (by omega),addU (a:=r) (b:=a) (by omega)]
      refine cond_split (fun c3=> ?_) (fun c3=> ?_)
      ·simp only[go_sem,g2,g8,g9,g10,g14,g15,g17]
       rw[stop hlt c3]
       exact⟨by first|rfl|trivial|assumption,by first|rfl|trivial|assumption,by first|rfl|trivial|assumption,by first|rfl|trivial|assumption,by first|rfl|trivial|assumption,by first|rfl|trivial|assumption,by first|rfl|trivial|assumption,by first|rfl|trivial|assumption,by first|rfl|trivial|assumption⟩
      ·simp only[go_sem,g2,g8,g9,g10,g14,g15,g17]
       exact⟨n-1,by omega,by first|rfl|trivial|assumption,by first|rfl|trivial|assumption,by first|rfl|trivial|assumption,by first|rfl|trivial|assumption,by first|rfl|trivial|assumption,by first|rfl|trivial|assumption,by first|rfl|trivial|assumption,by first|rfl|trivial|assumption,_,_,rfl,rfl,rfl,again hlt c3⟩
     ·have d2:=ltF c2
      simp only[go_sem,hq,h16,g2,g8,g9,g10,g14,g15,g17,d1,mulU hqb,mulL (a:=r) (by omega),addU wr,d2]
      rw[hs.done c2]
      exact⟨by first|rfl|trivial|assumption,by first|rfl|trivial|assumption,by first|rfl|trivial|assumption,by first|rfl|trivial|assumption,by first|rfl|trivial|assumption,by first|rfl|trivial|assumption,by first|rfl|trivial|assumption,by first|rfl|trivial|assumption,by first|rfl|trivial|assumption⟩
    ·have d1:decide ((4294967296:Int)≤(n:Int))=true:=by simp;omega
     have hlt:=hs.lt (.inl i1)
     have hn1:0<n:=Nat.lt_of_le_of_lt (Nat.zero_le _) hlt
     simp only[go_sem,hq,h16,g2,g8,g9,g10,g14,g15,g17,d1,subN1 (a:=n) (by omega) (by omega),addU (a:=r) (b:=a) (by omega)]
     refine cond_split (fun c3=> ?_) (fun c3=> ?_)
     ·simp only[go_sem,g2,g8,g9,g10,g14,g15,g17]
      rw[stop hlt c3]
      exact⟨by first|rfl|trivial|assumption,by first|rfl|trivial|assumption,by first|rfl|trivial|assumption,by first|rfl|trivial|assumption,by first|rfl|trivial|assumption,by first|rfl|trivial|assumption,by first|rfl|trivial|assumption,by first|rfl|trivial|assumption,by first|rfl|trivial|assumption⟩
     ·simp only[go_sem,g2,g8,g9,g10,g14,g15,g17]
      exact⟨n-1,by omega,by first|rfl|trivial|assumption,by first|rfl|trivial|assumption,by first|rfl|trivial|assumption,by first|rfl|trivial|assumption,by first|rfl|trivial|assumption,by first|rfl|trivial|assumption,by first|rfl|trivial|assumption,by first|rfl|trivial|assumption,_,_,rfl,rfl,rfl,again hlt c3⟩
   ·rintro ρ h' ⟨rfl,g2,g8,g9,g10,g14,g15,g17,g18⟩
    have hb0:=sub_back (U:=R) (c:=c0) (by omega) h64 hQ0 hc0
    have e1:IntKind.u64.wrap (IntKind.u64.wrap ((Q1:Int)*4294967296)+(Q0:Int))=((Q1*4294967296+Q0:Nat):Int):=by
     rw[wUm,wUm]
     omega
    simp only[go_sem,g2,g8,g9,g10,g14,g15,g17,g18,hb0,e1,hsh]
    exact⟨by omega,fun _=>hk⟩
theorem for_rule {P:Program} {c:AC} {Q:Post} {ρ:Env} {h:H} (I:Nat→Env→H→Prop) (N:Nat) (h0:I 0 ρ h) (hN:∀i ρ h,I i ρ h→i≤N) (hs:∀i ρ h,I i ρ h→awp P c (athen (fun ρ' h'=>I (i+1) ρ' h') Q) ρ h):awp P (.loop c) Q ρ h:=by
 refine⟨fun n ρ h=>∃i,n=N-i∧I i ρ h,N,⟨0,by omega,h0⟩, ?_⟩
 rintro n ρ h ⟨i,rfl,hI⟩
 refine awp_mono (fun e ρ' h' hh=> ?_) (hs i ρ h hI)
 cases e with
 |normal=>
  have h1:=hN _ _ _ hh
  exact⟨N-(i+1),by omega,i+1,rfl,hh⟩
 |_=>exact hh
theorem eqF {a b:Int} (h:a≠b):(a==b)=false:=beq_eq_false_iff_ne.2 h
theorem eqT {a b:Int} (h:a=b):(a==b)=true:=beq_iff_eq.2 h
theorem neT {a b:Int} (h:a≠b):(a !=b)=true:=bne_iff_ne.2 h
theorem neF {a b:Int} (h:a=b):(a !=b)=false:=by rw[h];exact bne_self_eq_false b
theorem leT {a b:Nat} (h:a≤b):decide ((a:Int)≤(b:Int))=true:=by simp;omega
theorem leF {a b:Nat} (h:b<a):decide ((a:Int)≤(b:Int))=false:=by simp;omega
theorem minN {a b:Nat}:min (a:Int) (b:Int)=((min a b:Nat):Int):=by omega
theorem maxN {a b:Nat}:max (a:Int) (b:Int)=((max a b:Nat):Int):=by omega
theorem take_min {α:Type} {l:List α} {n:Nat}:l.take (min l.length n)=l.take n:=by
 rw[List.take_eq_take_iff]
 omega
theorem Cut_calls {v:AV} {xs:List Nat} {n:Nat} {h:H} {K:AV→H→Prop} (hv:IsN h v xs) (hk:∀r,IsN h r (xs.take n)→K r h):ACalls Tryd.prog 13 [v, .int .i64 (n:Int)] h K:=by
 obtain⟨id,off,c,rfl⟩:=hv.form
 refine in_keep_Cut (by simp) fun hw=> ?_
 unfold c_keep_Cut
 simp only[go_sem,minN]
 refine⟨by omega,by omega,hv.row,fun _=> ?_⟩
 have:=hv.take (b:=min xs.length n) (c':=c) (by omega)
 rw[take_min] at this
 exact hk _ this
def pad:List Nat:=[6148914691236517205,6148914691236517205,6148914691236517205,6148914691236517205]
def Lent (b:Nat) (h:H) (v:AV) (xs:List Nat):Prop:=∃id,v= .sl (some id) 0 xs.length (some (xs.length+4))∧IsG b h (.sl (some id) 0 (xs.length+4) (some (xs.length+4))) (xs++pad)
theorem Lent.mono {b:Nat} {h h':H} {v:AV} {xs:List Nat} (hv:Lent b h v xs) (hl:h.le h'):Lent b h' v xs:=by
 obtain⟨id,e,h1⟩:=hv
 exact⟨id,e,h1.mono hl⟩
theorem Lent.isN {b:Nat} {h:H} {v:AV} {xs:List Nat} (hv:Lent b h v xs):IsN h v xs:=by
 obtain⟨id,rfl,h1⟩:=hv
 have:=h1.isN.take (b:=xs.length) (c':=some (xs.length+4)) (by simp)
 simpa using this
theorem putAt_zero {l m:List AV}:putAt l 0 m=m++l.drop m.length:=by simp[putAt]
theorem Lend_calls {v:AV} {xs:List Nat} {h:H} {K:AV→H→Prop} (hv:IsN h v xs) (hl:xs.length≤1000000)
  (hk:∀r h',h'.wf→h.le h'→Lent h.next h' r xs→K r h'):ACalls Tryd.prog 15 [v] h K:=by
 obtain⟨id,off,c,rfl⟩:=hv.form
 refine in_keep_Lend (by simp) fun hw=> ?_
 unfold c_keep_Lend
 have e0:IntKind.i64.wrap ((xs.length:Int)+4)=((xs.length+4:Nat):Int):=by rw[wI]<;>omega
 simp only[go_sem,e0]
 refine⟨by omega,by omega,by omega, ?_⟩
 have hv1:=hv.mono (H.le_new hw (H.le_refl h) ⟨some 22,1,zs [AV.int .u64 0] (xs.length+4)⟩)
 have hw1:=H.wf_new hw ⟨some 22,1,zs [AV.int .u64 0] (xs.length+4)⟩
 --the copy
 have hcpy:∀K':AV→H→Prop,(∀h2,h2.wf→h.le h2→h2.next=h.next+1→IsG h.next h2 (.sl (some h.next) 0 (xs.length+4) (some (xs.length+4))) (xs++List.replicate 4 0)→K' (.int .i64 xs.length) h2)→
   cpyK 1 (.sl (some h.next) 0 xs.length (some (xs.length+4))) (.sl id off xs.length c) (h.new ⟨some 22,1,zs [AV.int .u64 0] (xs.length+4)⟩) K':=by
  intro K' hk'
  have hle0:h.le (h.new ⟨some 22,1,zs [AV.int .u64 0] (xs.length+4)⟩):=H.le_new hw (H.le_refl h) _
  simp only[cpyK,Nat.min_self,Int.min_self,Nat.mul_one]
  refine⟨fun hx=> ?_,fun hx=> ?_⟩
  ·have hxs:xs=[]:=List.eq_nil_of_length_eq_zero hx
   subst hxs
   refine hk' _ hw1 hle0 rfl ?_
   have:=IsG.made (b:=h.next) (h:=h) (Nat.le_refl _) 4
   simpa using this
  ·obtain⟨id',off',c',e,hr⟩:=hv1
   injection e with e1 e2 e3 e4
   subst e1;subst e2;subst e4
   rcases hr with⟨_,h0,_⟩|⟨i,r,rfl,hr,_,hfit,ht⟩
   ·simp at h0
    subst h0
    simp at hx
   ·simp only[List.length_map] at hfit ht
    refine⟨h.next,_,i,r,rfl,H.rows_new _ _,by simp,rfl,hr,hfit,by simp[zs_length]<;>omega,by rw[ht];exact W_one _ _, ?_⟩
    rw[ht]
    refine hk' _ (H.wf_set hw1 (by simp[H.new]) _) (H.le_set hw hle0 (Nat.le_refl _) _) rfl ?_
    refine⟨some h.next,some (xs.length+4),by simp, .inr ⟨h.next,_,rfl,Nat.le_refl _,H.rows_set _ _ _,rfl,rfl, ?_, ?_⟩⟩
    ·rw[putAt_length (by simp[W_length,zs_length]<;>omega)]
     simp[zs_length]
    ·simp only[putAt_zero,W_length,List.length_map,List.length_append,List.length_replicate]
     rw[List.take_of_length_le (by simp[W_length,zs_length]<;>omega)]
     rw[List.map_append,W_append]
     congr 1
     simp[zs,W]
 refine hcpy _ fun h2 hw2 hl2 hn2 hg=> ?_
 simp only[go_sem,e0]
 refine⟨by omega, .inr ⟨_,rfl,Nat.le_refl _⟩, ?_, ?_⟩
 ·intro i hi
  injection hi with hi
  subst hi
  exact hg.isN.row _ rfl
 refine for_rule (fun j ρ h'=>j≤4∧h'.wf∧h.le h'∧ρ 3= .sl (some h.next) 0 xs.length (some (xs.length+4))∧ρ 4= .sl (some h.next) 0 (xs.length+4) (some (xs.length+4))∧ρ 5= .int .i64 ((xs.length+j:Nat):Int)∧
  IsG h.next h' (.sl (some h.next) 0 (xs.length+4) (some (xs.length+4))) (xs++(pad.take j++List.replicate (4-j) 0))) 4 ⟨by omega,hw2,hl2,rfl,rfl,rfl,by simpa using hg⟩ (fun i ρ h hI=>hI.1) ?_
 rintro j ρ h' ⟨hj,hw',hle,h3,h4,h5,hs⟩
 rcases Nat.lt_or_ge j 4 with hj4|hj4
 ·simp only[go_sem,h3,h4,h5,ltT (show xs.length+j<xs.length+4 by omega)]
  refine⟨by omega,by omega, ?_⟩
  obtain⟨i3,r,e3,hb3,hn3,hr3,ho3,hc3,hput⟩:=hs.put hw' (j:=xs.length+j) (by simp[pad];omega)
  injection e3 with e3
  subst e3
  simp only[go_sem,hr3]
  refine⟨ho3,by omega, ?_⟩
  simp only[go_sem,h5,incI (i:=xs.length+j) (by omega)]
  refine⟨by omega,H.wf_set hw' hn3 _,H.le_set hw hle hb3 _,h3,h4,rfl, ?_⟩
  have:=hput 6148914691236517205
  have e:(xs++(pad.take j++List.replicate (4-j) 0)).set (xs.length+j) 6148914691236517205=xs++(pad.take (j+1)++List.replicate (4-(j+1)) 0):=by
   rw[List.set_append_right _ _ (by omega),Nat.add_sub_cancel_left]
   congr 1
   have:j=0∨j=1∨j=2∨j=3:=by omega
   rcases this with rfl|rfl|rfl|rfl<;>rfl
  rw[e] at this
  exact this
 ·have:j=4:=by omega
  subst this
  simp only[go_sem,h3,h4,h5,ltF (Nat.le_refl (xs.length+4))]
  exact fun _=>hk _ _ hw' hle ⟨_,rfl,by simpa [pad] using hs⟩
theorem Intact_calls {v u:AV} {xs:List Nat} {b:Nat} {h:H} {K:AV→H→Prop} (hv:Lent b h v xs) (hu:IsN h u xs) (hl:xs.length≤1000000) (hk:K (.bool true) h):ACalls Tryd.prog 21 [v,u] h K:=by
 obtain⟨i,rfl,hg⟩:=hv
 obtain⟨id,off,c,rfl⟩:=hu.form
 refine in_keep_Intact (by simp) fun hw=> ?_
 unfold c_keep_Intact
 have e0:IntKind.i64.wrap ((xs.length:Int)+4)=((xs.length+4:Nat):Int):=by rw[wI]<;>omega
 have e1:((xs.length:Int) !=(xs.length:Int))=false:=by simp
 have e2:(((xs.length+4:Nat):Int) !=((xs.length+4:Nat):Int))=false:=by simp
 simp only[go_sem,e0,e1,e2]
 refine⟨by omega, .inr ⟨_,rfl,Nat.le_refl _⟩, ?_, ?_⟩
 ·intro j hj
  injection hj with hj
  subst hj
  exact hg.isN.row _ rfl
 refine for_rule (fun j ρ h'=>j≤xs.length+4∧h'=h∧ρ 1= .sl id off xs.length c∧ρ 5= .sl (some i) 0 (xs.length+4) (some (xs.length+4))∧ρ 6= .int .i64 (j:Int)) (xs.length+4) ⟨by omega,rfl,rfl,rfl,rfl⟩ (fun i ρ h hI=>hI.1) ?_
 rintro j ρ h' ⟨hj,rfl,h1,h5,h6⟩
 rcases Nat.lt_or_ge j (xs.length+4) with hj4|hj4
 ·obtain⟨i',hi',_,hgg⟩:=hg.isN.at (j:=j) (by simp[pad];omega)
  injection hi' with hi'
  subst hi'
  rcases Nat.lt_or_ge j xs.length with hj2|hj2
  ·rw[Nat.zero_add] at hgg
   obtain⟨i2,rfl,_,hg2⟩:=hu.at hj2
   have e3:(xs++pad)[j]'(by simp;omega)=xs[j]:=List.getElem_append_left hj2
   rw[e3] at hgg
   have e4:(((xs[j]:Nat):Int) !=((xs[j]:Nat):Int))=false:=by simp
   have e5:decide ((xs.length:Int)≤(j:Int))=false:=by simp;omega
   simp only[go_sem,h1,h5,h6,ltT hj4,ltT hj2]
   refine⟨by omega,by omega, ?_⟩
   simp only[go_sem,h1,h5,h6,hgg]
   refine⟨by omega,by omega, ?_⟩
   simp only[go_sem,h1,h5,h6,hg2,e4,e5,incI (i:=j) (by omega)]
   exact⟨by omega,by first|rfl|trivial|assumption,by first|rfl|trivial|assumption,by first|rfl|trivial|assumption,by first|rfl|trivial|assumption⟩
  ·have e3:(xs++pad)[j]'(by simp[pad];omega)=6148914691236517205:=by
    rw[List.getElem_append_right hj2]
    have:j-xs.length=0∨j-xs.length=1∨j-xs.length=2∨j-xs.length=3:=by omega
    rcases this with e|e|e|e<;>simp[e,pad]
   rw[e3,Nat.zero_add] at hgg
   have e4:(((6148914691236517205:Nat):Int) !=6148914691236517205)=false:=by decide
   have e5:decide ((xs.length:Int)≤(j:Int))=true:=by simp;omega
   simp only[go_sem,h1,h5,h6,ltT hj4,ltF hj2,e5]
   refine⟨by omega,by omega, ?_⟩
   simp only[go_sem,h1,h5,h6,hgg,e4,incI (i:=j) (by omega)]
   exact⟨by omega,by first|rfl|trivial|assumption,by first|rfl|trivial|assumption,by first|rfl|trivial|assumption,by first|rfl|trivial|assumption⟩
 ·have:j=xs.length+4:=by omega
  subst this
  simp only[go_sem,h1,h5,h6,ltF (Nat.le_refl (xs.length+4))]
  exact fun _=>hk
theorem H.get_of {h:H} {id off:Nat} {r:Row} (hr:h.rows id=some r):h.get id off=r.cells[off]? :=by simp[H.get,hr]
theorem H.gets_of {h:H} {id off n:Nat} {r:Row} (hr:h.rows id=some r) (hl:off+n≤r.cells.length):h.gets id off n=some ((r.cells.drop off).take n):=by simp[H.gets,hr,hl]
end Ab
end Go.Proofs.YtkbglkjpdndkiaaDoor
